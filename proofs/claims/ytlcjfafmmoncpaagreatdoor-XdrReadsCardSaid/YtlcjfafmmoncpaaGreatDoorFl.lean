/- Plain laws of the calls of a script: where something is wrong it stays so; of too few bytes. No program stands here. -/
import Derived.Test.YtlcjfafmmoncpaaGreatDoorFk
namespace Go.Proofs.YtlcjfafmmoncpaaGreatDoor
open Go.RowKit
set_option linter.unusedVariables false
set_option linter.unusedSimpArgs false

theorem uint_bad {st : RSt} (h : st.e ≠ 0) : st.uint.e = st.e := by unfold RSt.uint; rw [takes_e, peeked_bad h]
theorem hyper_bad {st : RSt} (h : st.e ≠ 0) : st.hyper.e = st.e := by unfold RSt.hyper; rw [takes_e, peeked_bad h]
theorem boolS_bad {st : RSt} (h : st.e ≠ 0) : st.boolS.e = st.e := by unfold RSt.boolS; rw [takes_e, peekV_bad h, if_neg (by decide), peeked_bad h]
theorem peekOk_bad {st : RSt} (h : st.e ≠ 0) (k : Nat) : st.peekOk k = false := by simp [RSt.peekOk, h]
theorem floatS_bad {st : RSt} (h : st.e ≠ 0) : st.floatS.e = st.e := by
  unfold RSt.floatS RSt.floatOk
  rw [peekOk_bad h, Bool.false_and, if_neg (by decide), peeked_bad h, fail_bad h]
theorem doubleS_bad {st : RSt} (h : st.e ≠ 0) : st.doubleS.e = st.e := by
  unfold RSt.doubleS RSt.doubleOk
  rw [peekOk_bad h, Bool.false_and, if_neg (by decide), peeked_bad h, fail_bad h]
theorem textS_bad {st : RSt} (h : st.e ≠ 0) (a n : Nat) : st.textS a n = st := by unfold RSt.textS; rw [if_neg h]
theorem fixedS_bad {st : RSt} (h : st.e ≠ 0) (n : Int) : (st.fixedS n).e = st.e := by
  unfold RSt.fixedS
  split
  · rw [textS_bad h]
  · rw [fail_bad h]
theorem worded_bad {st : RSt} (h : st.e ≠ 0) (m : Int) : st.worded m = st := by
  unfold RSt.worded
  split
  · rfl
  · exact fail_bad h _
theorem manyS_bad {st : RSt} (h : st.e ≠ 0) (m : Int) : st.manyS m = st := by
  unfold RSt.manyS
  rw [worded_bad h, peeked_bad h, fail_bad h, ite_self]
theorem opaqueS_bad {st : RSt} (h : st.e ≠ 0) (m : Int) : (st.opaqueS m).e = st.e := by
  unfold RSt.opaqueS
  rw [manyS_bad h, textS_bad h]
theorem countS_bad {st : RSt} (h : st.e ≠ 0) (m : Int) : (st.countS m).e = st.e := by
  unfold RSt.countS
  rw [takes_e, manyS_bad h]
theorem gets_bad {st : RSt} (h : st.e ≠ 0) (o : OpM) : (st.getsS o).e = st.e := by
  unfold RSt.getsS
  by_cases k1 : o.kind = 1
  · simp only [if_pos k1]; exact uint_bad h
  by_cases k2 : o.kind = 2
  · simp only [if_neg k1, if_pos k2]; exact uint_bad h
  by_cases k3 : o.kind = 3
  · simp only [if_neg k1, if_neg k2, if_pos k3]; exact hyper_bad h
  by_cases k4 : o.kind = 4
  · simp only [if_neg k1, if_neg k2, if_neg k3, if_pos k4]; exact boolS_bad h
  by_cases k5 : o.kind = 5
  · simp only [if_neg k1, if_neg k2, if_neg k3, if_neg k4, if_pos k5]; exact floatS_bad h
  by_cases k6 : o.kind = 6
  · simp only [if_neg k1, if_neg k2, if_neg k3, if_neg k4, if_neg k5, if_pos k6]; exact doubleS_bad h
  by_cases k7 : o.kind = 7
  · simp only [if_neg k1, if_neg k2, if_neg k3, if_neg k4, if_neg k5, if_neg k6, if_pos k7]; exact fixedS_bad h _
  by_cases k8 : o.kind = 8
  · simp only [if_neg k1, if_neg k2, if_neg k3, if_neg k4, if_neg k5, if_neg k6, if_neg k7, if_pos k8]; exact opaqueS_bad h _
  by_cases k9 : o.kind = 9
  · simp only [if_neg k1, if_neg k2, if_neg k3, if_neg k4, if_neg k5, if_neg k6, if_neg k7, if_neg k8, if_pos k9]; exact countS_bad h _
  simp only [if_neg k1, if_neg k2, if_neg k3, if_neg k4, if_neg k5, if_neg k6, if_neg k7, if_neg k8, if_neg k9]

theorem peeked_short {z : ByteArray} {k : Nat} (h : z.size < k) : ((RSt.mk z 0).peeked k).e = 20 := by
  unfold RSt.peeked
  rw [if_pos ⟨rfl, h⟩]
  rfl
theorem peekOk_short {z : ByteArray} {k : Nat} (h : z.size < k) : (RSt.mk z 0).peekOk k = false := by simp [RSt.peekOk]; omega
theorem peekV_short {z : ByteArray} {k : Nat} (h : z.size < k) : (RSt.mk z 0).peekV k = 0 := by simp [RSt.peekV, peekOk_short h]
theorem many_short {z : ByteArray} (h : z.size < 4) {m : Int} (hm : isWordB m = true) : ((RSt.mk z 0).manyS m).e = 20 := by
  have h0 := (isWordB_iff.1 hm).1
  unfold RSt.manyS RSt.worded
  rw [if_pos hm, peekV_short h, if_neg (by omega)]
  exact peeked_short h
theorem text_short {z : ByteArray} {a n : Nat} (h : z.size < a + n + padN n) : ((RSt.mk z 0).textS a n).e = 20 := by
  unfold RSt.textS
  rw [if_pos rfl, if_pos h]
  rfl
theorem gets_short {o : OpM} (hs : (opStr o).size ≤ 2147483648) (h4 : 4 ≤ (opStr o).size) : ((RSt.mk ((opStr o).extract 0 ((opStr o).size - 4)) 0).getsS o).e = 20 := by
  have hw := wordM_bound o.n
  have hz : ((opStr o).extract 0 ((opStr o).size - 4)).size = (opStr o).size - 4 := by rw [ByteArray.size_extract]; omega
  generalize hZ : (opStr o).extract 0 ((opStr o).size - 4) = z at hz ⊢
  unfold opStr at hs h4 hz hZ
  unfold RSt.getsS
  by_cases k1 : o.kind = 1
  · simp only [if_pos k1, numStr_size] at hz ⊢
    unfold RSt.uint; rw [takes_e]; exact peeked_short (by omega)
  by_cases k2 : o.kind = 2
  · simp only [if_neg k1, if_pos k2, numStr_size] at hz ⊢
    unfold RSt.uint; rw [takes_e]; exact peeked_short (by omega)
  by_cases k3 : o.kind = 3
  · simp only [if_neg k1, if_neg k2, if_pos k3, numStr_size] at hz ⊢
    unfold RSt.hyper; rw [takes_e]; exact peeked_short (by omega)
  by_cases k4 : o.kind = 4
  · simp only [if_neg k1, if_neg k2, if_neg k3, if_pos k4, numStr_size] at hz ⊢
    unfold RSt.boolS; rw [takes_e, peekV_short (by omega), if_neg (by decide)]; exact peeked_short (by omega)
  by_cases k5 : o.kind = 5
  · simp only [if_neg k1, if_neg k2, if_neg k3, if_neg k4, if_pos k5, numStr_size] at hz ⊢
    have hp := peeked_short (z := z) (k := 4) (by omega)
    unfold RSt.floatS RSt.floatOk
    rw [peekOk_short (by omega), Bool.false_and, if_neg (by decide), fail_bad (by rw [hp]; decide)]; exact hp
  by_cases k6 : o.kind = 6
  · simp only [if_neg k1, if_neg k2, if_neg k3, if_neg k4, if_neg k5, if_pos k6, numStr_size] at hz ⊢
    have hp := peeked_short (z := z) (k := 8) (by omega)
    unfold RSt.doubleS RSt.doubleOk
    rw [peekOk_short (by omega), Bool.false_and, if_neg (by decide), fail_bad (by rw [hp]; decide)]; exact hp
  by_cases k7 : o.kind = 7
  · simp only [if_neg k1, if_neg k2, if_neg k3, if_neg k4, if_neg k5, if_neg k6, if_pos k7] at hs h4 hz ⊢
    have hp := padStr_size o.s
    unfold RSt.fixedS
    rw [if_pos (isWordB_of ⟨by omega, by omega⟩)]
    exact text_short (by rw [Int.toNat_natCast]; omega)
  by_cases k8 : o.kind = 8
  · simp only [if_neg k1, if_neg k2, if_neg k3, if_neg k4, if_neg k5, if_neg k6, if_neg k7, if_pos k8] at hs h4 hz hZ ⊢
    have hp := padStr_size o.s
    have hpm := padStr_mod o.s
    have hb := withinM_bound o.n (most := 9) (by decide)
    rw [ByteArray.size_append, numStr_size] at hs h4 hz hZ
    have hm : isWordB (o.s.size + withinM o.n 9) = true := isWordB_of ⟨by omega, by omega⟩
    unfold RSt.opaqueS
    by_cases s0 : o.s.size = 0
    · have hP : padN o.s.size = 0 := by rw [s0]; rfl
      have h20 := many_short (z := z) (by omega) hm
      rw [textS_bad (by rw [h20]; decide)]
      exact h20
    · have hzz : z = numStr o.s.size 4 ++ (padStr o.s).extract 0 ((padStr o.s).size - 4) := by
        rw [← hZ, ByteArray.extract_append, numStr_size]
        congr 1
        · have : (numStr (o.s.size : Int) 4).extract 0 (4 + (padStr o.s).size - 4) = (numStr (o.s.size : Int) 4).extract 0 (numStr (o.s.size : Int) 4).size := by
            rw [numStr_size]
            apply ByteArray.ext
            apply Array.ext'
            simp [numStr_size]
            omega
          rw [this, extract_all]
        · congr 1 <;> omega
      have hM := r_many (o.s.size + withinM o.n 9) o.s.size ((padStr o.s).extract 0 ((padStr o.s).size - 4)) hm (by omega) (by omega)
      rw [hzz, hM.1, hM.2, ← hzz, Int.toNat_natCast]
      exact text_short (by omega)
  by_cases k9 : o.kind = 9
  · simp only [if_neg k1, if_neg k2, if_neg k3, if_neg k4, if_neg k5, if_neg k6, if_neg k7, if_neg k8, if_pos k9, numStr_size] at hz ⊢
    unfold RSt.countS; rw [takes_e]; exact many_short (by omega) (isWordB_of hw)
  simp only [if_neg k1, if_neg k2, if_neg k3, if_neg k4, if_neg k5, if_neg k6, if_neg k7, if_neg k8, if_neg k9] at h4
  exact absurd h4 (by decide)

end Go.Proofs.YtlcjfafmmoncpaaGreatDoor
