/- The Writer of package xdr: its making, and its methods for numbers, counts and raw bytes. -/
import Derived.Test.YtcooijhndiainaaGreatDoorXn
namespace Go.Proofs.YtcooijhndiainaaGreatDoor
open Go.RowKit

def isWordB (n : Int) : Bool := decide (0 ≤ n) && decide (n ≤ 4294967295)
theorem isWordB_of {n : Int} (h : 0 ≤ n ∧ n ≤ 4294967295) : isWordB n = true := by simp [isWordB, h.1, h.2]
theorem isWordB_no {n : Int} (h : ¬ (0 ≤ n ∧ n ≤ 4294967295)) : isWordB n = false := by
  rw [← Bool.not_eq_true]; intro h2; simp [isWordB] at h2; exact h h2

theorem isWord_any (n : Int) (w : World) : Calls Tryz.prog 119 #[.int .i64 n] w fun r w' => r = .returned (.bool (isWordB n)) ∧ w = w' := by
  by_cases h : 0 ≤ n
  · by_cases h2 : n ≤ 4294967295
    · rw [isWordB_of ⟨h, h2⟩]
      go_enter Tryz.func119, Tryz.ntmps119
      go_wp2
      go_ret
      exact ⟨rfl, rfl⟩
    · rw [isWordB_no (fun h => h2 h.2)]
      go_enter Tryz.func119, Tryz.ntmps119
      go_wp2
      go_ret
      exact ⟨rfl, rfl⟩
  · rw [isWordB_no (fun h2 => h h2.1)]
    go_enter Tryz.func119, Tryz.ntmps119
    go_wp2
    go_ret
    exact ⟨rfl, rfl⟩

/-- a number's bits, as one without a sign. -/
def U64 (n : Int) : Int := IntKind.u64.wrap n
theorem U64_nonneg (n : Int) : 0 ≤ U64 n := wrap_u64_nonneg n

def WSt.uint (st : WSt) (n : Int) : WSt := (if isWordB n then st else st.fail 22).lays (numStr (U64 n) 4)
theorem fail_out (st : WSt) (e : Int) : (st.fail e).out = st.out := by unfold WSt.fail; split <;> rfl

theorem numStr_le (n : Int) (B : Nat) {st : WSt} {c : Nat} (h : st.out.size + B ≤ c) : st.out.size + (numStr n B).size ≤ c := by rw [numStr_size]; exact h

set_option maxRecDepth 100000 in
theorem WUint_any {F : Nat → Prop} {b : Nat} {st : WSt} (n : Int) (w : World) (h : Wr w F b st) (hs : st.out.size + 4 ≤ 140737488355328) :
    Calls Tryz.prog 86 #[.pointer (some ⟨b, 0, none⟩), .int .i64 n] w fun r w' => r = .returned (.tuple #[]) ∧ Fr F w w' ∧ Wr w' (Gw F w w') b (st.uint n) := by
  have Hs := Lib.hid hs
  have hz := U64_nonneg n
  unfold WSt.uint
  clear hs
  by_cases hi : isWordB n = true
  · simp only [hi, if_true]
    go_enter Tryz.func86, Tryz.ntmps86
    go_wp2_with (first | (go_at_call 119; refine (isWord_any _ _).mono ?_; rintro e w' ⟨rfl, rfl⟩) | (go_at_call 94; refine (Wnumber_any (U64 n) 4 _ h Hs.out (by decide) hz).mono ?_; rintro e w' ⟨rfl, hfr, hw'⟩))
    go_end0
    exact ⟨rfl, hfr, hw'⟩
  · rw [Bool.not_eq_true] at hi
    simp only [hi, if_false, Bool.false_eq_true]
    go_enter Tryz.func86, Tryz.ntmps86
    go_wp2_with (first | (go_at_call 119; refine (isWord_any _ _).mono ?_; rintro e w' ⟨rfl, rfl⟩) | (go_at_call 108; refine (Wfail_any _ _ h).mono ?_; rintro e w1 ⟨rfl, hfr1, hs1, hw1⟩) | (go_at_call 94; refine (Wnumber_any (U64 n) 4 _ hw1 (by rw [fail_out]; exact Hs.out) (by decide) hz).mono ?_; rintro e w' ⟨rfl, hfr, hw'⟩))
    go_end0
    exact ⟨rfl, hfr1.trans hfr, hw'.late hfr1.size h.low hfr.size⟩


/-- a new Writer. -/
theorem WNew_any (m : Int) (w : World) (hm : m ≤ 9223372036854775807) :
    Calls Tryz.prog 45 #[.int .i64 m] w fun r w' => r = .returned (.pointer (some ⟨w.heap.size, 0, none⟩)) ∧ Fr (fun _ => False) w w' ∧ Wr w' (fun k => k = w.heap.size) w.heap.size ⟨ByteArray.empty, max m 0, 0⟩ := by
  have hmx : (0 : Int) ≤ max m 0 ∧ max m 0 ≤ 9223372036854775807 := by omega
  have HM := Lib.hid hmx
  clear hmx
  have fin : Wr (w.alloc (.cells #[.slice none 0 0, .int .i64 (max m 0), .nilIface] 125)) (fun k => k = w.heap.size) w.heap.size ⟨ByteArray.empty, max m 0, 0⟩ := by
    refine ⟨rfl, fun k hk => by rw [hk]; simp, HM.out, .slice none 0 0, ?_, World.ownsRow_nil _ _ _ _, fun g e => by cases e⟩
    exact heap_alloc_new w _
  by_cases h : m < 0
  · have e : max m 0 = 0 := by omega
    rw [e] at fin ⊢
    go_enter Tryz.func45, Tryz.ntmps45
    go_wp2
    go_ret
    exact ⟨rfl, (Fr.refl _ _).alloc _, fin⟩
  · have e : max m 0 = m := by omega
    rw [e] at fin ⊢
    go_enter Tryz.func45, Tryz.ntmps45
    go_wp2
    go_ret
    exact ⟨rfl, (Fr.refl _ _).alloc _, fin⟩

def WSt.hyper (st : WSt) (n : Int) : WSt := st.lays (numStr (U64 n) 8)

set_option maxRecDepth 100000 in
theorem WHyper_any {F : Nat → Prop} {b : Nat} {st : WSt} (n : Int) (w : World) (h : Wr w F b st) (hs : st.out.size + 8 ≤ 140737488355328) :
    Calls Tryz.prog 52 #[.pointer (some ⟨b, 0, none⟩), .int .i64 n] w fun r w' => r = .returned (.tuple #[]) ∧ Fr F w w' ∧ Wr w' (Gw F w w') b (st.hyper n) := by
  have Hs := Lib.hid hs
  have hz := U64_nonneg n
  clear hs
  go_enter Tryz.func52, Tryz.ntmps52
  go_wp2_with (go_at_call 94; refine (Wnumber_any (U64 n) 8 _ h Hs.out (by decide) hz).mono ?_; rintro e w' ⟨rfl, hfr, hw'⟩)
  go_end0
  exact ⟨rfl, hfr, hw'⟩

def WSt.raw (st : WSt) (s : ByteArray) : WSt := (if s.size % 4 = 0 then st else st.fail 1).lays s

set_option maxRecDepth 100000 in
theorem WRaw_any {F : Nat → Prop} {b : Nat} {st : WSt} (s : ByteArray) (w : World) (h : Wr w F b st) (hs : st.out.size + s.size ≤ 140737488355328) :
    Calls Tryz.prog 70 #[.pointer (some ⟨b, 0, none⟩), .string s] w fun r w' => r = .returned (.tuple #[]) ∧ Fr F w w' ∧ Wr w' (Gw F w w') b (st.raw s) := by
  have Hs := Lib.hid hs
  unfold WSt.raw
  have hsz : s.size ≤ 140737488355328 := by omega
  clear hs
  by_cases hi : s.size % 4 = 0
  · rw [if_pos hi]
    have hb : (((s.size : Int) % 4) != 0) = false := by rw [bne_eq_false_iff_eq]; omega
    clear hi
    go_enter Tryz.func70, Tryz.ntmps70
    go_wp2_with (go_at_call 109; refine (Wlays_any _ _ h Hs.out).mono ?_; rintro e w' ⟨rfl, hfr, hw'⟩)
    go_end0
    exact ⟨rfl, hfr, hw'⟩
  · rw [if_neg hi]
    have hb : (((s.size : Int) % 4) != 0) = true := by rw [bne_iff_ne]; omega
    clear hi
    go_enter Tryz.func70, Tryz.ntmps70
    go_wp2_with (first | (go_at_call 108; refine (Wfail_any _ _ h).mono ?_; rintro e w1 ⟨rfl, hfr1, hs1, hw1⟩) | (go_at_call 109; refine (Wlays_any _ _ hw1 (by rw [fail_out]; exact Hs.out)).mono ?_; rintro e w' ⟨rfl, hfr, hw'⟩))
    go_end0
    exact ⟨rfl, hfr1.trans hfr, hw'.late hfr1.size h.low hfr.size⟩

def WSt.count (st : WSt) (most n : Int) : WSt :=
  if isWordB most = true ∧ 0 ≤ n then (if most < n then st.fail 23 else st.uint n) else st.fail 22

set_option maxRecDepth 100000 in
theorem WCount_any {F : Nat → Prop} {b : Nat} {st : WSt} (most n : Int) (w : World) (h : Wr w F b st) (hs : st.out.size + 4 ≤ 140737488355328) :
    Calls Tryz.prog 88 #[.pointer (some ⟨b, 0, none⟩), .int .i64 most, .int .i64 n] w fun r w' => r = .returned (.tuple #[]) ∧ Fr F w w' ∧ Wr w' (Gw F w w') b (st.count most n) := by
  have Hs := Lib.hid hs
  clear hs
  by_cases hi : isWordB most = true
  · by_cases hn : 0 ≤ n
    · by_cases hm : most < n
      · have e : st.count most n = st.fail 23 := by simp [WSt.count, hi, hn, hm]
        rw [e]
        clear e
        go_enter Tryz.func88, Tryz.ntmps88
        go_wp2_with (first | (go_at_call 119; refine (isWord_any _ _).mono ?_; rintro e w' ⟨rfl, rfl⟩) | (go_at_call 108; refine (Wfail_any _ _ h).mono ?_; rintro e w1 ⟨rfl, hfr1, hs1, hw1⟩))
        go_end0
        exact ⟨rfl, hfr1, hw1.gw⟩
      · have e : st.count most n = st.uint n := by simp [WSt.count, hi, hn, hm]
        rw [e]
        clear e
        go_enter Tryz.func88, Tryz.ntmps88
        go_wp2_with (first | (go_at_call 119; refine (isWord_any _ _).mono ?_; rintro e w' ⟨rfl, rfl⟩) | (go_at_call 86; refine (WUint_any _ _ h Hs.out).mono ?_; rintro e w1 ⟨rfl, hfr1, hw1⟩))
        go_end0
        exact ⟨rfl, hfr1, hw1⟩
    · have e : st.count most n = st.fail 22 := by simp [WSt.count, hn]
      rw [e]
      clear e
      go_enter Tryz.func88, Tryz.ntmps88
      go_wp2_with (first | (go_at_call 119; refine (isWord_any _ _).mono ?_; rintro e w' ⟨rfl, rfl⟩) | (go_at_call 108; refine (Wfail_any _ _ h).mono ?_; rintro e w1 ⟨rfl, hfr1, hs1, hw1⟩))
      go_end0
      exact ⟨rfl, hfr1, hw1.gw⟩
  · have e : st.count most n = st.fail 22 := by simp [WSt.count, hi]
    rw [e]
    clear e
    rw [Bool.not_eq_true] at hi
    go_enter Tryz.func88, Tryz.ntmps88
    go_wp2_with (first | (go_at_call 119; refine (isWord_any _ _).mono ?_; rintro e w' ⟨rfl, rfl⟩) | (go_at_call 108; refine (Wfail_any _ _ h).mono ?_; rintro e w1 ⟨rfl, hfr1, hs1, hw1⟩))
    go_end0
    exact ⟨rfl, hfr1, hw1.gw⟩

/-- how many noughts stand behind so many bytes. -/
def padN (n : Nat) : Nat := (4 - n % 4) % 4
theorem padding_any (n : Nat) (w : World) (hn : n ≤ 140737488355328) : Calls Tryz.prog 130 #[.int .i64 n] w fun r w' => r = .returned (.int .i64 (padN n)) ∧ w = w' := by
  have e : ((padN n : Nat) : Int) = (4 - (n : Int) % 4) % 4 := by unfold padN; omega
  rw [e]
  clear e
  go_enter Tryz.func130, Tryz.ntmps130
  go_wp2
  go_ret
  exact ⟨rfl, rfl⟩

end Go.Proofs.YtcooijhndiainaaGreatDoor
