/- Package xdr: the Writer's and the Reader's methods for whole numbers of 32 bits, for bools and for numbers with a point. -/
import Derived.Test.YtlcjfafmmoncpaaGreatDoorFb
import Derived.Test.YtlcjfafmmoncpaaGreatDoorRm
namespace Go.Proofs.YtlcjfafmmoncpaaGreatDoor
open Go.RowKit
set_option linter.unusedVariables false
set_option linter.unusedSimpArgs false

def isI32 (n : Int) : Bool := decide (-2147483648 ≤ n) && decide (n ≤ 2147483647)
def WSt.int (st : WSt) (n : Int) : WSt := (if isI32 n = true then st else st.fail 22).lays (numStr (U64 n) 4)
def WSt.bool (st : WSt) (b : Bool) : WSt := st.uint (if b = true then 1 else 0)
def WSt.float (st : WSt) (x : Nat) : WSt := st.lays (numStr (bitsF .f32 x : Nat) 4)
def WSt.double (st : WSt) (x : Nat) : WSt := st.lays (numStr (bitsF .f64 x : Nat) 8)

set_option maxRecDepth 100000 in
theorem WInt_any {F : Nat → Prop} {b : Nat} {st : WSt} (n : Int) (w : World) (h : Wr w F b st) (hs : st.out.size + 4 ≤ 140737488355328) :
    Calls Tryz.prog 45 #[.pointer (some ⟨b, 0, none⟩), .int .i64 n] w fun r w' => r = .returned (.tuple #[]) ∧ Fr F w w' ∧ Wr w' (Gw F w w') b (st.int n) := by
  have Hs := Lib.hid hs
  have hz := U64_nonneg n
  unfold WSt.int
  clear hs
  by_cases h1 : n < -2147483648
  · have e : isI32 n = false := by unfold isI32; rw [decide_eq_false (by omega)]; rfl
    rw [e]
    simp only [if_false, Bool.false_eq_true]
    clear e
    go_enter Tryz.func45, Tryz.ntmps45
    go_wp2_with (first | (go_at_call 70; refine (Wfail_any _ _ h).mono ?_; rintro e w1 ⟨rfl, hfr1, hs1, hw1⟩) | (go_at_call 117; refine (Wnumber_any (U64 n) 4 _ hw1 (by rw [fail_out]; exact Hs.out) (by decide) hz).mono ?_; rintro e w' ⟨rfl, hfr, hw'⟩))
    go_end0
    exact ⟨rfl, hfr1.trans hfr, hw'.late hfr1.size h.low hfr.size⟩
  · by_cases h2 : 2147483647 < n
    · have e : isI32 n = false := by unfold isI32; rw [decide_eq_false (p := n ≤ 2147483647) (by omega), Bool.and_false]
      rw [e]
      simp only [if_false, Bool.false_eq_true]
      clear e
      go_enter Tryz.func45, Tryz.ntmps45
      go_wp2_with (first | (go_at_call 70; refine (Wfail_any _ _ h).mono ?_; rintro e w1 ⟨rfl, hfr1, hs1, hw1⟩) | (go_at_call 117; refine (Wnumber_any (U64 n) 4 _ hw1 (by rw [fail_out]; exact Hs.out) (by decide) hz).mono ?_; rintro e w' ⟨rfl, hfr, hw'⟩))
      go_end0
      exact ⟨rfl, hfr1.trans hfr, hw'.late hfr1.size h.low hfr.size⟩
    · have e : isI32 n = true := by unfold isI32; rw [decide_eq_true (p := -2147483648 ≤ n) (by omega), decide_eq_true (p := n ≤ 2147483647) (by omega)]; rfl
      rw [e]
      simp only [if_true]
      clear e
      go_enter Tryz.func45, Tryz.ntmps45
      go_wp2_with (go_at_call 117; refine (Wnumber_any (U64 n) 4 _ h Hs.out (by decide) hz).mono ?_; rintro e w' ⟨rfl, hfr, hw'⟩)
      go_end0
      exact ⟨rfl, hfr, hw'⟩

set_option maxRecDepth 100000 in
theorem WBool_any {F : Nat → Prop} {b : Nat} {st : WSt} (x : Bool) (w : World) (h : Wr w F b st) (hs : st.out.size + 4 ≤ 140737488355328) :
    Calls Tryz.prog 56 #[.pointer (some ⟨b, 0, none⟩), .bool x] w fun r w' => r = .returned (.tuple #[]) ∧ Fr F w w' ∧ Wr w' (Gw F w w') b (st.bool x) := by
  have Hs := Lib.hid hs
  unfold WSt.bool
  clear hs
  cases x
  · simp only [if_false, Bool.false_eq_true]
    go_enter Tryz.func56, Tryz.ntmps56
    go_wp2_with (go_at_call 52; refine (WUint_any 0 _ h Hs.out).mono ?_; rintro e w' ⟨rfl, hfr, hw'⟩)
    go_end0
    exact ⟨rfl, hfr, hw'⟩
  · simp only [if_true]
    go_enter Tryz.func56, Tryz.ntmps56
    go_wp2_with (go_at_call 52; refine (WUint_any 1 _ h Hs.out).mono ?_; rintro e w' ⟨rfl, hfr, hw'⟩)
    go_end0
    exact ⟨rfl, hfr, hw'⟩

theorem WLen_any {F : Nat → Prop} {b : Nat} {st : WSt} (w : World) (h : Wr w F b st) :
    Calls Tryz.prog 29 #[.pointer (some ⟨b, 0, none⟩)] w fun r w' => r = .returned (.int .i64 (st.out.size : Nat)) ∧ w = w' := by
  obtain ⟨v, hb, ho, -⟩ := h.row
  obtain ⟨A, c, rfl⟩ := owns_slice ho
  have c0 := cellOf hb 0
  simp at c0
  clear hb ho h
  generalize st.out.size = N at *
  go_enter Tryz.func29, Tryz.ntmps29
  go_wp2
  go_ret
  exact ⟨rfl, rfl⟩

def RSt.intV (st : RSt) : Int := wrap64 (wrap32 (st.peekV 4))
def RSt.boolS (st : RSt) : RSt := (if 1 < st.peekV 4 then (st.peeked 4).fail 25 else st.peeked 4).takes 4
def RSt.boolV (st : RSt) : Bool := st.peekV 4 == 1

set_option maxRecDepth 100000 in
theorem RInt_any {b : Nat} {st : RSt} (w : World) (h : Rd w b st) :
    Calls Tryz.prog 32 #[.pointer (some ⟨b, 0, none⟩)] w fun r w' => r = .returned (.int .i64 st.intV) ∧ Fr (fun k => k = b) w w' ∧ w'.heap.size = w.heap.size ∧ Rd w' b st.uint := by
  unfold RSt.intV
  go_enter Tryz.func32, Tryz.ntmps32
  go_wp2_with (first | (go_at_call 97; refine (peek_any 4 _ h (by decide)).mono ?_; rintro e w1 ⟨rfl, hf1, hs1, h1⟩) | (go_at_call 98; refine (takes_any 4 _ h1 (fun he => (peeked_ok he).2)).mono ?_; rintro e w2 ⟨rfl, hf2, hs2, h2⟩))
  go_ret
  exact ⟨rfl, hf1.trans hf2, hs2.trans hs1, h2⟩

set_option maxRecDepth 100000 in
theorem RBool_any {b : Nat} {st : RSt} (w : World) (h : Rd w b st) :
    Calls Tryz.prog 78 #[.pointer (some ⟨b, 0, none⟩)] w fun r w' => r = .returned (.bool st.boolV) ∧ Fr (fun k => k = b) w w' ∧ w'.heap.size = w.heap.size ∧ Rd w' b st.boolS := by
  unfold RSt.boolV RSt.boolS
  by_cases hb : 1 < st.peekV 4
  · rw [if_pos hb]
    have hbad : ∀ q, ((st.peeked 4).fail 25).e = 0 → q := fun q he => absurd he (fail_e (by decide))
    have HB := Lib.hid hbad
    clear hbad
    go_enter Tryz.func78, Tryz.ntmps78
    go_wp2_with (first | (go_at_call 97; refine (peek_any 4 _ h (by decide)).mono ?_; rintro e w1 ⟨rfl, hf1, hs1, h1⟩) | (go_at_call 92; refine (RFail_any 25 _ h1).mono ?_; rintro e w3 ⟨rfl, hf3, hs3, h3⟩) | (go_at_call 98; refine (takes_any 4 _ h3 (HB.out _)).mono ?_; rintro e w2 ⟨rfl, hf2, hs2, h2⟩))
    go_ret
    exact ⟨rfl, (hf1.trans hf3).trans hf2, by rw [hs2, hs3, hs1], h2⟩
  · rw [if_neg hb]
    go_enter Tryz.func78, Tryz.ntmps78
    go_wp2_with (first | (go_at_call 97; refine (peek_any 4 _ h (by decide)).mono ?_; rintro e w1 ⟨rfl, hf1, hs1, h1⟩) | (go_at_call 98; refine (takes_any 4 _ h1 (fun he => (peeked_ok he).2)).mono ?_; rintro e w2 ⟨rfl, hf2, hs2, h2⟩))
    go_ret
    exact ⟨rfl, hf1.trans hf2, by rw [hs2, hs1], h2⟩

theorem RLeft_any {b : Nat} {st : RSt} (w : World) (h : Rd w b st) :
    Calls Tryz.prog 21 #[.pointer (some ⟨b, 0, none⟩)] w fun r w' => r = .returned (.int .i64 (st.rest.size : Nat)) ∧ w = w' := by
  have c0 := cellOf h.blk 0
  have hsz := h.size
  simp at c0
  clear h
  go_enter Tryz.func21, Tryz.ntmps21
  go_wp2
  go_ret
  exact ⟨rfl, rfl⟩

set_option maxRecDepth 100000 in
theorem RWrong_any {b : Nat} {st : RSt} (w : World) (h : Rd w b st) (hg : ErrT w) :
    Calls Tryz.prog 23 #[.pointer (some ⟨b, 0, none⟩)] w fun r w' => r = .returned (.int .i64 st.e) ∧ Fr (fun _ => False) w w' := by
  have c1 := cellOf h.blk 1
  simp at c1
  have Ht := told_any st.e w hg
  clear hg h
  rcases errV_form st.e with ⟨h0, hz⟩ | ⟨h0, hz⟩
  all_goals
    rw [hz] at c1 Ht
    have HT := Lib.hid Ht
    clear Ht h0 hz
    go_enter Tryz.func23, Tryz.ntmps23
    go_wp2_with (go_at_call 94; refine HT.out.mono ?_; rintro e w2 ⟨rfl, hf2⟩)
    go_ret
    exact ⟨rfl, hf2⟩

set_option maxRecDepth 100000 in
theorem WFloat_any {F : Nat → Prop} {b : Nat} {st : WSt} (x : Nat) (w : World) (h : Wr w F b st) (hx : bitsF .f32 x < widthF .f32) (hs : st.out.size + 4 ≤ 140737488355328) :
    Calls Tryz.prog 48 #[.pointer (some ⟨b, 0, none⟩), .float .f32 x] w fun r w' => r = .returned (.tuple #[]) ∧ Fr F w w' ∧ Wr w' (Gw F w w') b (st.float x) := by
  have Hs := Lib.hid hs
  have HB := fun w => Bits32_any x w
  have hlt : bitsF .f32 x < 4294967296 := hx
  unfold WSt.float
  clear hs hx
  generalize bitsF .f32 x = B at *
  have hz : (0 : Int) ≤ (B : Int) ∧ (B : Int) < 4294967296 := by omega
  go_enter Tryz.func48, Tryz.ntmps48
  go_wp2_with (first | (go_at_call 121; refine (HB _).mono ?_; rintro e w' ⟨rfl, rfl⟩) | (go_at_call 117; refine (Wnumber_any (B : Int) 4 _ h Hs.out (by decide) hz.1).mono ?_; rintro e w' ⟨rfl, hfr, hw'⟩))
  go_end0
  exact ⟨rfl, hfr, hw'⟩

def RSt.floatOk (st : RSt) : Bool := st.peekOk 4 && !badF .f32 (st.peekV 4).toNat
def RSt.floatS (st : RSt) : RSt := if st.floatOk = true then (st.peeked 4).takes 4 else (st.peeked 4).fail 26
def RSt.floatV (st : RSt) : Nat := if st.floatOk = true then (st.peekV 4).toNat else 0
set_option maxRecDepth 100000 in
theorem RFloat_any {b : Nat} {st : RSt} (w : World) (h : Rd w b st) :
    Calls Tryz.prog 80 #[.pointer (some ⟨b, 0, none⟩)] w fun r w' => r = .returned (.float .f32 st.floatV) ∧ Fr (fun k => k = b) w w' ∧ w'.heap.size = w.heap.size ∧ Rd w' b st.floatS := by
  have hb : 0 ≤ st.peekV 4 ∧ st.peekV 4 < 4294967296 := peekV_bound st 4
  have HP := fun w (h : Rd w b st) => peek_any 4 w h (by decide)
  unfold RSt.floatV RSt.floatS RSt.floatOk
  obtain ⟨q, hq⟩ : ∃ q : Nat, st.peekV 4 = (q : Int) := ⟨(st.peekV 4).toNat, by omega⟩
  have HT := fun w (h1 : Rd w b (st.peeked 4)) => takes_any 4 w h1 (fun he => (peeked_ok he).2)
  have HQ := Lib.hid HP
  have HTT := Lib.hid HT
  rw [hq] at hb
  have HF := fun w => From32_any q w
  rw [hq] at HQ
  rw [hq, Int.toNat_natCast]
  clear HP HT hq
  by_cases hk : st.peekOk 4 = true
  · rw [hk] at HQ ⊢
    by_cases hbd : badF .f32 q = true
    · rw [hbd, show (true && !true) = false from rfl, if_neg (by decide), if_neg (by decide)]
      rw [show fromE .f32 q = 10 from if_pos hbd] at HF
      clear hbd hk
      generalize fromF .f32 q = G at *
      go_enter Tryz.func80, Tryz.ntmps80
      go_wp2_with (first | (go_at_call 97; refine (HQ.out _ h).mono ?_; rintro e w1 ⟨rfl, hf1, hs1, h1⟩) | (go_at_call 126; refine (HF _).mono ?_; rintro e w3 ⟨rfl, rfl⟩) | (go_at_call 92; refine (RFail_any 26 _ h1).mono ?_; rintro e w2 ⟨rfl, hf2, hs2, h2⟩))
      go_ret
      exact ⟨rfl, hf1.trans hf2, by rw [hs2, hs1], h2⟩
    · rw [Bool.not_eq_true] at hbd
      rw [hbd, show (true && !false) = true from rfl, if_pos rfl, if_pos rfl]
      rw [show fromE .f32 q = 0 by unfold fromE; rw [hbd]; rfl, show fromF .f32 q = q by unfold fromF; rw [hbd]; rfl] at HF
      clear hbd hk
      go_enter Tryz.func80, Tryz.ntmps80
      go_wp2_with (first | (go_at_call 97; refine (HQ.out _ h).mono ?_; rintro e w1 ⟨rfl, hf1, hs1, h1⟩) | (go_at_call 126; refine (HF _).mono ?_; rintro e w3 ⟨rfl, rfl⟩) | (go_at_call 98; refine (HTT.out _ h1).mono ?_; rintro e w2 ⟨rfl, hf2, hs2, h2⟩))
      go_ret
      exact ⟨rfl, hf1.trans hf2, by rw [hs2, hs1], h2⟩
  · rw [Bool.not_eq_true] at hk
    rw [hk] at HQ ⊢
    rw [Bool.false_and, if_neg (by decide), if_neg (by decide)]
    clear hk
    generalize fromF .f32 q = G at *
    generalize fromE .f32 q = H at *
    go_enter Tryz.func80, Tryz.ntmps80
    go_wp2_with (first | (go_at_call 97; refine (HQ.out _ h).mono ?_; rintro e w1 ⟨rfl, hf1, hs1, h1⟩) | (go_at_call 126; refine (HF _).mono ?_; rintro e w3 ⟨rfl, rfl⟩) | (go_at_call 92; refine (RFail_any 26 _ h1).mono ?_; rintro e w2 ⟨rfl, hf2, hs2, h2⟩))
    go_ret
    exact ⟨rfl, hf1.trans hf2, by rw [hs2, hs1], h2⟩

set_option maxRecDepth 100000 in
theorem WDouble_any {F : Nat → Prop} {b : Nat} {st : WSt} (x : Nat) (w : World) (h : Wr w F b st) (hx : bitsF .f64 x < widthF .f64) (hs : st.out.size + 8 ≤ 140737488355328) :
    Calls Tryz.prog 60 #[.pointer (some ⟨b, 0, none⟩), .float .f64 x] w fun r w' => r = .returned (.tuple #[]) ∧ Fr F w w' ∧ Wr w' (Gw F w w') b (st.double x) := by
  have Hs := Lib.hid hs
  have HB := fun w => Bits64_any x w
  have hlt : bitsF .f64 x < 18446744073709551616 := hx
  unfold WSt.double
  clear hs hx
  generalize bitsF .f64 x = B at *
  have hz : (0 : Int) ≤ (B : Int) ∧ (B : Int) < 18446744073709551616 := by omega
  go_enter Tryz.func60, Tryz.ntmps60
  go_wp2_with (first | (go_at_call 128; refine (HB _).mono ?_; rintro e w' ⟨rfl, rfl⟩) | (go_at_call 117; refine (Wnumber_any (B : Int) 8 _ h Hs.out (by decide) hz.1).mono ?_; rintro e w' ⟨rfl, hfr, hw'⟩))
  go_end0
  exact ⟨rfl, hfr, hw'⟩

def RSt.doubleOk (st : RSt) : Bool := st.peekOk 8 && !badF .f64 (st.peekV 8).toNat
def RSt.doubleS (st : RSt) : RSt := if st.doubleOk = true then (st.peeked 8).takes 8 else (st.peeked 8).fail 26
def RSt.doubleV (st : RSt) : Nat := if st.doubleOk = true then (st.peekV 8).toNat else 0
set_option maxRecDepth 100000 in
theorem RDouble_any {b : Nat} {st : RSt} (w : World) (h : Rd w b st) :
    Calls Tryz.prog 83 #[.pointer (some ⟨b, 0, none⟩)] w fun r w' => r = .returned (.float .f64 st.doubleV) ∧ Fr (fun k => k = b) w w' ∧ w'.heap.size = w.heap.size ∧ Rd w' b st.doubleS := by
  have hb : 0 ≤ st.peekV 8 ∧ st.peekV 8 < 18446744073709551616 := peekV_bound st 8
  have HP := fun w (h : Rd w b st) => peek_any 8 w h (by decide)
  unfold RSt.doubleV RSt.doubleS RSt.doubleOk
  obtain ⟨q, hq⟩ : ∃ q : Nat, st.peekV 8 = (q : Int) := ⟨(st.peekV 8).toNat, by omega⟩
  have HT := fun w (h1 : Rd w b (st.peeked 8)) => takes_any 8 w h1 (fun he => (peeked_ok he).2)
  have HQ := Lib.hid HP
  have HTT := Lib.hid HT
  rw [hq] at hb
  have HF := fun w => From64_any q w
  rw [hq] at HQ
  rw [hq, Int.toNat_natCast]
  clear HP HT hq
  by_cases hk : st.peekOk 8 = true
  · rw [hk] at HQ ⊢
    by_cases hbd : badF .f64 q = true
    · rw [hbd, show (true && !true) = false from rfl, if_neg (by decide), if_neg (by decide)]
      rw [show fromE .f64 q = 10 from if_pos hbd] at HF
      clear hbd hk
      generalize fromF .f64 q = G at *
      go_enter Tryz.func83, Tryz.ntmps83
      go_wp2_with (first | (go_at_call 97; refine (HQ.out _ h).mono ?_; rintro e w1 ⟨rfl, hf1, hs1, h1⟩) | (go_at_call 129; refine (HF _).mono ?_; rintro e w3 ⟨rfl, rfl⟩) | (go_at_call 92; refine (RFail_any 26 _ h1).mono ?_; rintro e w2 ⟨rfl, hf2, hs2, h2⟩))
      go_ret
      exact ⟨rfl, hf1.trans hf2, by rw [hs2, hs1], h2⟩
    · rw [Bool.not_eq_true] at hbd
      rw [hbd, show (true && !false) = true from rfl, if_pos rfl, if_pos rfl]
      rw [show fromE .f64 q = 0 by unfold fromE; rw [hbd]; rfl, show fromF .f64 q = q by unfold fromF; rw [hbd]; rfl] at HF
      clear hbd hk
      go_enter Tryz.func83, Tryz.ntmps83
      go_wp2_with (first | (go_at_call 97; refine (HQ.out _ h).mono ?_; rintro e w1 ⟨rfl, hf1, hs1, h1⟩) | (go_at_call 129; refine (HF _).mono ?_; rintro e w3 ⟨rfl, rfl⟩) | (go_at_call 98; refine (HTT.out _ h1).mono ?_; rintro e w2 ⟨rfl, hf2, hs2, h2⟩))
      go_ret
      exact ⟨rfl, hf1.trans hf2, by rw [hs2, hs1], h2⟩
  · rw [Bool.not_eq_true] at hk
    rw [hk] at HQ ⊢
    rw [Bool.false_and, if_neg (by decide), if_neg (by decide)]
    clear hk
    generalize fromF .f64 q = G at *
    generalize fromE .f64 q = H at *
    go_enter Tryz.func83, Tryz.ntmps83
    go_wp2_with (first | (go_at_call 97; refine (HQ.out _ h).mono ?_; rintro e w1 ⟨rfl, hf1, hs1, h1⟩) | (go_at_call 129; refine (HF _).mono ?_; rintro e w3 ⟨rfl, rfl⟩) | (go_at_call 92; refine (RFail_any 26 _ h1).mono ?_; rintro e w2 ⟨rfl, hf2, hs2, h2⟩))
    go_ret
    exact ⟨rfl, hf1.trans hf2, by rw [hs2, hs1], h2⟩

end Go.Proofs.YtlcjfafmmoncpaaGreatDoor
