/- Package xdr: texts of a fixed length. -/
import Derived.Test.YtlcjfafmmoncpaaGreatDoorRt
import Derived.Test.YtlcjfafmmoncpaaGreatDoorFc
namespace Go.Proofs.YtlcjfafmmoncpaaGreatDoor
open Go.RowKit
set_option linter.unusedVariables false
set_option linter.unusedSimpArgs false

def WSt.fixed (st : WSt) (n : Int) (s : ByteArray) : WSt :=
  if isWordB n = true then (if (s.size : Int) = n then st.lays (padStr s) else st.fail 23) else st.fail 22
def RSt.fixedS (st : RSt) (n : Int) : RSt := if isWordB n = true then st.textS 0 n.toNat else st.fail 22
def RSt.fixedV (st : RSt) (n : Int) : ByteArray := if isWordB n = true then st.textV 0 n.toNat else ByteArray.empty

set_option maxRecDepth 100000 in
theorem WFixed_any {F : Nat → Prop} {b : Nat} {st : WSt} (n : Int) (s : ByteArray) (w : World) (h : Wr w F b st) (hs : st.out.size + s.size + 8 ≤ 140737488355300) :
    Calls Tryz.prog 46 #[.pointer (some ⟨b, 0, none⟩), .int .i64 n, .string s] w fun r w' => r = .returned (.tuple #[]) ∧ Fr F w w' ∧ Wr w' (Gw F w w') b (st.fixed n s) := by
  have hsz : s.size ≤ 140737488355300 := by omega
  have HL : Hid (st.out.size + (padStr s).size ≤ 140737488355328) := Lib.hid (by have := padN_lt s.size; rw [padStr_size]; omega)
  have bp : (padStr s).size ≤ 140737488355310 := by have := padN_lt s.size; rw [padStr_size]; omega
  clear hs
  by_cases hi : isWordB n = true
  · by_cases hm : (s.size : Int) = n
    · have e : st.fixed n s = st.lays (padStr s) := by simp [WSt.fixed, hi, hm]
      rw [e]
      clear e
      have hne : ((s.size : Int) != n) = false := by rw [bne_eq_false_iff_eq]; exact hm
      clear hm
      go_enter Tryz.func46, Tryz.ntmps46
      go_wp2_with (first | (go_at_call 118; refine (isWord_any _ _).mono ?_; rintro e w' ⟨rfl, rfl⟩) | (go_at_call 120; refine (padded_any _ _ (by omega)).mono ?_; rintro e w3 ⟨rfl, hb3⟩; have hW3 := h.below hb3) | (go_at_call 119; refine (Wlays_any _ _ hW3 (.inl HL.out)).mono ?_; rintro e w4 ⟨rfl, hfr4, hw4⟩))
      go_end0
      exact ⟨rfl, (Fr.ofBelow hb3).trans hfr4, hw4.late hb3.size h.low hfr4.size⟩
    · have e : st.fixed n s = st.fail 23 := by simp [WSt.fixed, hi, hm]
      rw [e]
      clear e
      have hne : ((s.size : Int) != n) = true := by rw [bne_iff_ne]; exact hm
      clear hm
      go_enter Tryz.func46, Tryz.ntmps46
      go_wp2_with (first | (go_at_call 118; refine (isWord_any _ _).mono ?_; rintro e w' ⟨rfl, rfl⟩) | (go_at_call 70; refine (Wfail_any _ _ h).mono ?_; rintro e w1 ⟨rfl, hfr1, hs1, hw1⟩))
      go_end0
      exact ⟨rfl, hfr1, hw1.gw⟩
  · have e : st.fixed n s = st.fail 22 := by simp [WSt.fixed, hi]
    rw [e]
    clear e
    rw [Bool.not_eq_true] at hi
    go_enter Tryz.func46, Tryz.ntmps46
    go_wp2_with (first | (go_at_call 118; refine (isWord_any _ _).mono ?_; rintro e w' ⟨rfl, rfl⟩) | (go_at_call 70; refine (Wfail_any _ _ h).mono ?_; rintro e w1 ⟨rfl, hfr1, hs1, hw1⟩))
    go_end0
    exact ⟨rfl, hfr1, hw1.gw⟩

set_option maxRecDepth 100000 in
/-- of a Reader where something is wrong: nothing. -/
theorem text_bad {b : Nat} {st : RSt} (m n : Int) (w : World) (h : Rd w b st) (he : st.e ≠ 0) :
    Calls Tryz.prog 122 #[.pointer (some ⟨b, 0, none⟩), .int .i64 m, .int .i64 n] w fun r w' => r = .returned (.string ByteArray.empty) ∧ Fr (fun k => k = b) w w' ∧ w'.heap.size = w.heap.size ∧ Rd w' b st := by
  have c1 := cellOf h.blk 1
  simp at c1
  rw [show errV st.e = .iface 169 (.agg #[.int .i64 st.e]) by simp [errV, he]] at c1
  have H := Lib.hid h
  clear h he
  go_enter Tryz.func122, Tryz.ntmps122
  go_wp2
  go_quiet (fail)
  go_wp2
  go_ret
  exact ⟨rfl, (Fr.refl _ _).drewN _, rfl, H.out.keep rfl⟩

set_option maxRecDepth 100000 in
theorem RFixed_any {b : Nat} {st : RSt} (n : Int) (w : World) (h : Rd w b st) :
    Calls Tryz.prog 50 #[.pointer (some ⟨b, 0, none⟩), .int .i64 n] w fun r w' => r = .returned (.string (st.fixedV n)) ∧ Fr (fun k => k = b) w w' ∧ w'.heap.size = w.heap.size ∧ Rd w' b (st.fixedS n) := by
  unfold RSt.fixedS RSt.fixedV
  by_cases hi : isWordB n = true
  · rw [if_pos hi, if_pos hi]
    have hn := (by simpa [isWordB] using hi : 0 ≤ n ∧ n ≤ 4294967295)
    have hT := fun (w : World) (h : Rd w b st) => text_any 0 n.toNat w h (by omega) (fun _ => Nat.zero_le _)
    rw [show ((n.toNat : Nat) : Int) = n by omega] at hT
    have HT := Lib.hid hT
    clear hT
    go_enter Tryz.func50, Tryz.ntmps50
    go_wp2_with (first | (go_at_call 118; refine (isWord_any _ _).mono ?_; rintro e w' ⟨rfl, rfl⟩) | (go_at_call 122; refine (HT.out _ h).mono ?_; rintro e w2 ⟨rfl, hf2, hs2, h2⟩))
    go_ret
    exact ⟨rfl, hf2, hs2, h2⟩
  · rw [if_neg hi, if_neg hi]
    rw [Bool.not_eq_true] at hi
    have HE := Lib.hid (fail_e (st := st) (n := 22) (by decide))
    go_enter Tryz.func50, Tryz.ntmps50
    go_wp2_with (first | (go_at_call 118; refine (isWord_any _ _).mono ?_; rintro e w' ⟨rfl, rfl⟩) | (go_at_call 92; refine (RFail_any 22 _ h).mono ?_; rintro e w1 ⟨rfl, hf1, hs1, h1⟩) | (go_at_call 122; refine (text_bad _ _ _ h1 HE.out).mono ?_; rintro e w2 ⟨rfl, hf2, hs2, h2⟩))
    go_ret
    exact ⟨rfl, hf1.trans hf2, hs2.trans hs1, h2⟩

end Go.Proofs.YtlcjfafmmoncpaaGreatDoor
