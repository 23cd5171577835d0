/- The Writer of package xdr: a number's low bytes, the highest first. -/
import Derived.Test.YtlcjfafmmoncpaaGreatDoorXw
import Derived.Maps.AppendAt
namespace Go.Proofs.YtlcjfafmmoncpaaGreatDoor
open Go.RowKit
set_option linter.unusedVariables false
set_option linter.unusedSimpArgs false

/-- the byte of a number that stands so many bits up. -/
def byteUp (n : Int) (sh : Nat) : Int := n / 2 ^ sh % 256
/-- the first k of B bytes of a number. -/
def numInts (n : Int) (B k : Nat) : List Int := (List.range k).map fun i : Nat => byteUp n (8 * (B - 1 - i))
def numStr (n : Int) (B : Nat) : ByteArray := (numInts n B B).foldl (fun r n => r.push (UInt8.ofNat n.toNat)) ByteArray.empty

theorem numInts_succ (n : Int) (B k : Nat) : numInts n B (k + 1) = numInts n B k ++ [byteUp n (8 * (B - 1 - k))] := by
  simp [numInts, List.range_succ]
theorem numInts_length (n : Int) (B k : Nat) : (numInts n B k).length = k := by simp [numInts]
theorem push_size (l : List Int) : ∀ r : ByteArray, (l.foldl (fun r n => r.push (UInt8.ofNat n.toNat)) r).size = r.size + l.length := by
  induction l with
  | nil => simp
  | cons a l ih => intro r; simp [ih, ByteArray.size_push]; omega
theorem numStr_size (n : Int) (B : Nat) : (numStr n B).size = B := by unfold numStr; rw [push_size, numInts_length]; simp

/-- a slice of bytes that is owned, as a string. -/
theorem run_ownBytes {P : Program} {w : World} {base e : Nat} {v : Value} {ns : List Int} (src dst : TypeId) (hs : P.underlying src = some (.slice e)) (he : P.underlying e = some (.int .u8)) (hd : P.underlying dst = some .string)
    (h : w.ownsRow base e 1 v ns.length (ns.map (Value.int .u8))) :
    (convert src dst v).run P w = .ok (.string (ns.foldl (fun r n => r.push (UInt8.ofNat n.toNat)) ByteArray.empty)) w := by
  rcases h.2 with ⟨rfl, h0⟩ | ⟨g, cap, cur, rfl, _⟩
  · have : ns = [] := List.eq_nil_of_length_eq_zero h0
    subst this
    rw [run_convert_bytes_string w src dst e none 0 0 hs he hd]
    simp [Conv.bytesToString]
  · rw [run_convert_bytes_string w src dst e _ _ _ hs he hd]
    refine run_bytesToString w _ _ _ ns ?_
    have := run_loadCells_list (P := P) (w := w) ⟨g, 0, none⟩ (ns.map (Value.int .u8)) (h.cells (g := g) rfl)
    rwa [List.length_map] at this

theorem foldl_bytes (l : List UInt8) : ∀ r : ByteArray, (l.map fun b => ((b.toNat : Nat) : Int)).foldl (fun r n => r.push (UInt8.ofNat n.toNat)) r = r ++ ⟨l.toArray⟩ := by
  induction l with
  | nil => intro r; apply ByteArray.ext; simp
  | cons a l ih =>
    intro r
    rw [List.map_cons, List.foldl_cons, ih]
    apply ByteArray.ext
    apply Array.ext'
    simp
theorem run_ownStr {P : Program} {w : World} {base e : Nat} {v : Value} {s : ByteArray} (src dst : TypeId) (hs : P.underlying src = some (.slice e)) (he : P.underlying e = some (.int .u8)) (hd : P.underlying dst = some .string)
    (h : w.ownsRow base e 1 v s.size (Lib.strCells s)) : (convert src dst v).run P w = .ok (.string s) w := by
  have h1 := run_ownBytes (P := P) (ns := s.data.toList.map fun b => ((b.toNat : Nat) : Int)) src dst hs he hd (by
    have e1 : (s.data.toList.map fun b => ((b.toNat : Nat) : Int)).length = s.size := by simp
    rw [e1, List.map_map]; exact h)
  rw [h1, foldl_bytes]
  simp

set_option maxRecDepth 100000 in
set_option maxHeartbeats 1000000 in
/-- (*Writer).number -/
theorem Wnumber_any {F : Nat → Prop} {b : Nat} {st : WSt} (n : Int) (B : Nat) (w : World) (h : Wr w F b st) (hs : st.out.size + B ≤ 140737488355328) (hB : 1 ≤ B ∧ B ≤ 8) (hn : 0 ≤ n) :
    Calls Tryz.prog 117 #[.pointer (some ⟨b, 0, none⟩), .int .u64 n, .int .i64 B] w fun r w' => r = .returned (.tuple #[]) ∧ Fr F w w' ∧ Wr w' (Gw F w w') b (st.lays (numStr n B)) := by
  obtain ⟨i0, hi, hz0, hz1, hz2⟩ := info_parts Tryz.infoU8
  obtain ⟨hB1, hB8⟩ := hB
  have Hs := Lib.hid hs
  clear hs
  go_enter Tryz.func117, Tryz.ntmps117
  go_wp2
  go_loopw [6, 7] (fun v i wr => ∃ k : Nat, k ≤ B ∧ i = .int .i64 (8 * ((B : Int) - 1 - k)) ∧ wr.ownsRow w.heap.size 5 1 v k ((numInts n B k).map (Value.int .u8)) ∧ Below w.heap.size w wr) (fun _ i _ => (intOf i + 8).toNat)
  case atStart => exact ⟨0, Nat.zero_le _, by simp, World.ownsRow_nil _ _ _ _, Below.refl _ _⟩
  case round =>
    obtain ⟨k, hk, rfl, hown, hbel⟩ := hrel
    by_cases hlt : k < B
    · have hge : (0 : Int) ≤ 8 * ((B : Int) - 1 - k) := by omega
      have Ho := Lib.hid hown
      have Hb := Lib.hid hbel
      clear hown hbel
      go_wp2_with (at_builtin; refine wpList_append_own_at _ rfl _ _ 93 rfl w.heap.size 5 i0 (.int .u8 0) 1 1 Tryz.underlying93 hi hz0 hz1 hz2 rfl (by decide) _ _ _ rfl (Ho.out.alloc _) ⟨wr.heap.size, 0, none⟩ 1 1 [.int .u8 (byteUp n (8 * (B - 1 - k)))] rfl rfl ?c1 ?c2 ?c3 ?c4 ?c5 ?_)
      case c1 => intro j u hj; match j, hj with | 0, hj => simp at hj; subst hj; simp [Addr.add, byteUp]
      case c2 => intro u hu; simp at hu; subst hu; rfl
      case c3 => unfold maxLen; omega
      case c4 => omega
      case c5 => have := Hb.out.size; simp; omega
      intro v' w' hown' hgrow _ _
      have hbel' : Below w.heap.size w w' := (Hb.out.alloc (by have := Hb.out.size; omega) _).grown hgrow (by have := Hb.out.size; simp; omega) (fun k e => (Ho.out.lt k e).1)
      have Ho' := Lib.hid hown'
      have Hb' := Lib.hid hbel'
      clear hown' hgrow hbel'
      go_wp2
      go_roundw
      case rel => exact ⟨k + 1, by omega, by go_num, by rw [numInts_succ, List.map_append]; exact Ho'.out, Hb'.out⟩
      case measure => simp [intOf]; omega
    · obtain rfl : B = k := by omega
      have hlt2 : ¬ ((0 : Int) ≤ 8 * ((B : Int) - 1 - B)) := by omega
      have hcv := run_ownBytes (P := Tryz.prog) (w := wr) (v := u6) (ns := numInts n B B) 93 9 Tryz.underlying93 Tryz.underlying5 Tryz.underlying9 (by rw [numInts_length]; exact hown)
      have Ho := Lib.hid hown
      have Hb := Lib.hid hbel
      clear hown hbel hlt
      have hw : Wr wr F b st := h.below Hb.out
      have hsz : st.out.size + (numStr n B).size ≤ 140737488355328 := by rw [numStr_size]; exact Hs.out
      have HS := Lib.hid hsz
      clear hsz
      go_wp2_with (go_at_call 119; refine (Wlays_any _ _ hw (.inl HS.out)).mono ?_; rintro e w' ⟨rfl, hfr, hw'⟩)
      go_end0
      exact ⟨rfl, (Fr.ofBelow Hb.out).trans hfr, hw'.late Hb.out.size h.low hfr.size⟩

end Go.Proofs.YtlcjfafmmoncpaaGreatDoor

/- The Writer of package xdr: its making, and its methods for numbers, counts and raw bytes. -/
namespace Go.Proofs.YtlcjfafmmoncpaaGreatDoor
open Go.RowKit

def isWordB (n : Int) : Bool := decide (0 ≤ n) && decide (n ≤ 4294967295)
theorem isWordB_of {n : Int} (h : 0 ≤ n ∧ n ≤ 4294967295) : isWordB n = true := by simp [isWordB, h.1, h.2]
theorem isWordB_no {n : Int} (h : ¬ (0 ≤ n ∧ n ≤ 4294967295)) : isWordB n = false := by
  rw [← Bool.not_eq_true]; intro h2; simp [isWordB] at h2; exact h h2

theorem isWord_any (n : Int) (w : World) : Calls Tryz.prog 118 #[.int .i64 n] w fun r w' => r = .returned (.bool (isWordB n)) ∧ w = w' := by
  by_cases h : 0 ≤ n
  · by_cases h2 : n ≤ 4294967295
    · rw [isWordB_of ⟨h, h2⟩]
      go_enter Tryz.func118, Tryz.ntmps118
      go_wp2
      go_ret
      exact ⟨rfl, rfl⟩
    · rw [isWordB_no (fun h => h2 h.2)]
      go_enter Tryz.func118, Tryz.ntmps118
      go_wp2
      go_ret
      exact ⟨rfl, rfl⟩
  · rw [isWordB_no (fun h2 => h h2.1)]
    go_enter Tryz.func118, Tryz.ntmps118
    go_wp2
    go_ret
    exact ⟨rfl, rfl⟩

/-- a number's bits, as one without a sign. -/
def U64 (n : Int) : Int := IntKind.u64.wrap n
theorem U64_nonneg (n : Int) : 0 ≤ U64 n := wrap_u64_nonneg n

def WSt.uint (st : WSt) (n : Int) : WSt := (if isWordB n then st else st.fail 22).lays (numStr (U64 n) 4)
theorem fail_out (st : WSt) (e : Int) : (st.fail e).out = st.out := by unfold WSt.fail; split <;> rfl

theorem numStr_le (n : Int) (B : Nat) {st : WSt} {c : Nat} (h : st.out.size + B ≤ c) : st.out.size + (numStr n B).size ≤ c := by rw [numStr_size]; exact h

set_option maxRecDepth 100000 in
theorem WUint_any {F : Nat → Prop} {b : Nat} {st : WSt} (n : Int) (w : World) (h : Wr w F b st) (hs : st.out.size + 4 ≤ 140737488355328) :
    Calls Tryz.prog 52 #[.pointer (some ⟨b, 0, none⟩), .int .i64 n] w fun r w' => r = .returned (.tuple #[]) ∧ Fr F w w' ∧ Wr w' (Gw F w w') b (st.uint n) := by
  have Hs := Lib.hid hs
  have hz := U64_nonneg n
  unfold WSt.uint
  clear hs
  by_cases hi : isWordB n = true
  · simp only [hi, if_true]
    go_enter Tryz.func52, Tryz.ntmps52
    go_wp2_with (first | (go_at_call 118; refine (isWord_any _ _).mono ?_; rintro e w' ⟨rfl, rfl⟩) | (go_at_call 117; refine (Wnumber_any (U64 n) 4 _ h Hs.out (by decide) hz).mono ?_; rintro e w' ⟨rfl, hfr, hw'⟩))
    go_end0
    exact ⟨rfl, hfr, hw'⟩
  · rw [Bool.not_eq_true] at hi
    simp only [hi, if_false, Bool.false_eq_true]
    go_enter Tryz.func52, Tryz.ntmps52
    go_wp2_with (first | (go_at_call 118; refine (isWord_any _ _).mono ?_; rintro e w' ⟨rfl, rfl⟩) | (go_at_call 70; refine (Wfail_any _ _ h).mono ?_; rintro e w1 ⟨rfl, hfr1, hs1, hw1⟩) | (go_at_call 117; refine (Wnumber_any (U64 n) 4 _ hw1 (by rw [fail_out]; exact Hs.out) (by decide) hz).mono ?_; rintro e w' ⟨rfl, hfr, hw'⟩))
    go_end0
    exact ⟨rfl, hfr1.trans hfr, hw'.late hfr1.size h.low hfr.size⟩


/-- a new Writer. -/
theorem WNew_any (m : Int) (w : World) (hm : m ≤ 9223372036854775807) :
    Calls Tryz.prog 13 #[.int .i64 m] w fun r w' => r = .returned (.pointer (some ⟨w.heap.size, 0, none⟩)) ∧ Fr (fun _ => False) w w' ∧ Wr w' (fun k => k = w.heap.size) w.heap.size ⟨ByteArray.empty, max m 0, 0⟩ := by
  have hmx : (0 : Int) ≤ max m 0 ∧ max m 0 ≤ 9223372036854775807 := by omega
  have HM := Lib.hid hmx
  clear hmx
  have fin : Wr (w.alloc (.cells #[.slice none 0 0, .int .i64 (max m 0), .nilIface] 97)) (fun k => k = w.heap.size) w.heap.size ⟨ByteArray.empty, max m 0, 0⟩ := by
    refine ⟨rfl, fun k hk => by rw [hk]; simp, HM.out, .slice none 0 0, ?_, World.ownsRow_nil _ _ _ _, fun g e => by cases e⟩
    exact heap_alloc_new w _
  by_cases h : m < 0
  · have e : max m 0 = 0 := by omega
    rw [e] at fin ⊢
    go_enter Tryz.func13, Tryz.ntmps13
    go_wp2
    go_ret
    exact ⟨rfl, (Fr.refl _ _).alloc _, fin⟩
  · have e : max m 0 = m := by omega
    rw [e] at fin ⊢
    go_enter Tryz.func13, Tryz.ntmps13
    go_wp2
    go_ret
    exact ⟨rfl, (Fr.refl _ _).alloc _, fin⟩

def WSt.hyper (st : WSt) (n : Int) : WSt := st.lays (numStr (U64 n) 8)

set_option maxRecDepth 100000 in
theorem WHyper_any {F : Nat → Prop} {b : Nat} {st : WSt} (n : Int) (w : World) (h : Wr w F b st) (hs : st.out.size + 8 ≤ 140737488355328) :
    Calls Tryz.prog 54 #[.pointer (some ⟨b, 0, none⟩), .int .i64 n] w fun r w' => r = .returned (.tuple #[]) ∧ Fr F w w' ∧ Wr w' (Gw F w w') b (st.hyper n) := by
  have Hs := Lib.hid hs
  have hz := U64_nonneg n
  clear hs
  go_enter Tryz.func54, Tryz.ntmps54
  go_wp2_with (go_at_call 117; refine (Wnumber_any (U64 n) 8 _ h Hs.out (by decide) hz).mono ?_; rintro e w' ⟨rfl, hfr, hw'⟩)
  go_end0
  exact ⟨rfl, hfr, hw'⟩

def WSt.raw (st : WSt) (s : ByteArray) : WSt := (if s.size % 4 = 0 then st else st.fail 1).lays s

set_option maxRecDepth 100000 in
theorem fail_most {st : WSt} {e : Int} : (st.fail e).most = st.most := by unfold WSt.fail; split <;> rfl
theorem WRaw_any {F : Nat → Prop} {b : Nat} {st : WSt} (s : ByteArray) (w : World) (h : Wr w F b st) (hs : st.out.size + s.size ≤ 140737488355328 ∨ (st.out.size ≤ 1099511627776 ∧ st.most ≤ 1099511627776 ∧ s.size ≤ 140737488355328)) :
    Calls Tryz.prog 68 #[.pointer (some ⟨b, 0, none⟩), .string s] w fun r w' => r = .returned (.tuple #[]) ∧ Fr F w w' ∧ Wr w' (Gw F w w') b (st.raw s) := by
  have Hs := Lib.hid hs
  unfold WSt.raw
  have hsz : s.size ≤ 140737488355328 := by omega
  clear hs
  by_cases hi : s.size % 4 = 0
  · rw [if_pos hi]
    have hb : (((s.size : Int) % 4) != 0) = false := by rw [bne_eq_false_iff_eq]; omega
    clear hi
    go_enter Tryz.func68, Tryz.ntmps68
    go_wp2_with (go_at_call 119; refine (Wlays_any _ _ h Hs.out).mono ?_; rintro e w' ⟨rfl, hfr, hw'⟩)
    go_end0
    exact ⟨rfl, hfr, hw'⟩
  · rw [if_neg hi]
    have hb : (((s.size : Int) % 4) != 0) = true := by rw [bne_iff_ne]; omega
    clear hi
    go_enter Tryz.func68, Tryz.ntmps68
    go_wp2_with (first | (go_at_call 70; refine (Wfail_any _ _ h).mono ?_; rintro e w1 ⟨rfl, hfr1, hs1, hw1⟩) | (go_at_call 119; refine (Wlays_any _ _ hw1 (by rw [fail_out, fail_most]; exact Hs.out)).mono ?_; rintro e w' ⟨rfl, hfr, hw'⟩))
    go_end0
    exact ⟨rfl, hfr1.trans hfr, hw'.late hfr1.size h.low hfr.size⟩

def WSt.count (st : WSt) (most n : Int) : WSt :=
  if isWordB most = true ∧ 0 ≤ n then (if most < n then st.fail 23 else st.uint n) else st.fail 22

set_option maxRecDepth 100000 in
theorem WCount_any {F : Nat → Prop} {b : Nat} {st : WSt} (most n : Int) (w : World) (h : Wr w F b st) (hs : st.out.size + 4 ≤ 140737488355328) :
    Calls Tryz.prog 66 #[.pointer (some ⟨b, 0, none⟩), .int .i64 most, .int .i64 n] w fun r w' => r = .returned (.tuple #[]) ∧ Fr F w w' ∧ Wr w' (Gw F w w') b (st.count most n) := by
  have Hs := Lib.hid hs
  clear hs
  by_cases hi : isWordB most = true
  · by_cases hn : 0 ≤ n
    · by_cases hm : most < n
      · have e : st.count most n = st.fail 23 := by simp [WSt.count, hi, hn, hm]
        rw [e]
        clear e
        go_enter Tryz.func66, Tryz.ntmps66
        go_wp2_with (first | (go_at_call 118; refine (isWord_any _ _).mono ?_; rintro e w' ⟨rfl, rfl⟩) | (go_at_call 70; refine (Wfail_any _ _ h).mono ?_; rintro e w1 ⟨rfl, hfr1, hs1, hw1⟩))
        go_end0
        exact ⟨rfl, hfr1, hw1.gw⟩
      · have e : st.count most n = st.uint n := by simp [WSt.count, hi, hn, hm]
        rw [e]
        clear e
        go_enter Tryz.func66, Tryz.ntmps66
        go_wp2_with (first | (go_at_call 118; refine (isWord_any _ _).mono ?_; rintro e w' ⟨rfl, rfl⟩) | (go_at_call 52; refine (WUint_any _ _ h Hs.out).mono ?_; rintro e w1 ⟨rfl, hfr1, hw1⟩))
        go_end0
        exact ⟨rfl, hfr1, hw1⟩
    · have e : st.count most n = st.fail 22 := by simp [WSt.count, hn]
      rw [e]
      clear e
      go_enter Tryz.func66, Tryz.ntmps66
      go_wp2_with (first | (go_at_call 118; refine (isWord_any _ _).mono ?_; rintro e w' ⟨rfl, rfl⟩) | (go_at_call 70; refine (Wfail_any _ _ h).mono ?_; rintro e w1 ⟨rfl, hfr1, hs1, hw1⟩))
      go_end0
      exact ⟨rfl, hfr1, hw1.gw⟩
  · have e : st.count most n = st.fail 22 := by simp [WSt.count, hi]
    rw [e]
    clear e
    rw [Bool.not_eq_true] at hi
    go_enter Tryz.func66, Tryz.ntmps66
    go_wp2_with (first | (go_at_call 118; refine (isWord_any _ _).mono ?_; rintro e w' ⟨rfl, rfl⟩) | (go_at_call 70; refine (Wfail_any _ _ h).mono ?_; rintro e w1 ⟨rfl, hfr1, hs1, hw1⟩))
    go_end0
    exact ⟨rfl, hfr1, hw1.gw⟩

/-- how many noughts stand behind so many bytes. -/
def padN (n : Nat) : Nat := (4 - n % 4) % 4
theorem padding_any (n : Nat) (w : World) (hn : n ≤ 140737488355328) : Calls Tryz.prog 155 #[.int .i64 n] w fun r w' => r = .returned (.int .i64 (padN n)) ∧ w = w' := by
  have e : ((padN n : Nat) : Int) = (4 - (n : Int) % 4) % 4 := by unfold padN; omega
  rw [e]
  clear e
  go_enter Tryz.func155, Tryz.ntmps155
  go_wp2
  go_ret
  exact ⟨rfl, rfl⟩

end Go.Proofs.YtlcjfafmmoncpaaGreatDoor
