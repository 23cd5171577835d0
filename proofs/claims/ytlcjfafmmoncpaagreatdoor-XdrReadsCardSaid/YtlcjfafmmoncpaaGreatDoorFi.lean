/- Plain laws of the calls of a script: what is laid down is read as it was. No program stands here. -/
import Derived.Test.YtlcjfafmmoncpaaGreatDoorFh
import Derived.Test.YtlcjfafmmoncpaaGreatDoorFp
namespace Go.Proofs.YtlcjfafmmoncpaaGreatDoor
open Go.RowKit
set_option linter.unusedVariables false
set_option linter.unusedSimpArgs false

/-- the bytes that a call lays down. -/
def opStr (o : OpM) : ByteArray :=
  if o.kind = 1 then numStr (U64 (wordM o.n - 2147483648)) 4
  else if o.kind = 2 then numStr (wordM o.n) 4
  else if o.kind = 3 then numStr (U64 o.n) 8
  else if o.kind = 4 then numStr (if oddM o.n = true then 1 else 0) 4
  else if o.kind = 5 then numStr (bitsF .f32 o.single : Nat) 4
  else if o.kind = 6 then numStr (bitsF .f64 o.double : Nat) 8
  else if o.kind = 7 then padStr o.s
  else if o.kind = 8 then numStr o.s.size 4 ++ padStr o.s
  else if o.kind = 9 then numStr (withinM o.m (wordM o.n + 1)) 4
  else ByteArray.empty

theorem padStr_mod (s : ByteArray) : (padStr s).size % 4 = 0 ∧ (padStr s).size ≤ s.size + 3 := by rw [padStr_size]; unfold padN; omega
theorem opStr_sizes (o : OpM) : (opStr o).size = 4 ∨ (opStr o).size = 8 ∨ (opStr o).size = (padStr o.s).size ∨ (opStr o).size = 4 + (padStr o.s).size ∨ (opStr o).size = 0 := by
  unfold opStr
  by_cases k1 : o.kind = 1
  · simp only [if_pos k1]; exact .inl (numStr_size _ _)
  by_cases k2 : o.kind = 2
  · simp only [if_neg k1, if_pos k2]; exact .inl (numStr_size _ _)
  by_cases k3 : o.kind = 3
  · simp only [if_neg k1, if_neg k2, if_pos k3]; exact .inr (.inl (numStr_size _ _))
  by_cases k4 : o.kind = 4
  · simp only [if_neg k1, if_neg k2, if_neg k3, if_pos k4]; exact .inl (numStr_size _ _)
  by_cases k5 : o.kind = 5
  · simp only [if_neg k1, if_neg k2, if_neg k3, if_neg k4, if_pos k5]; exact .inl (numStr_size _ _)
  by_cases k6 : o.kind = 6
  · simp only [if_neg k1, if_neg k2, if_neg k3, if_neg k4, if_neg k5, if_pos k6]; exact .inr (.inl (numStr_size _ _))
  by_cases k7 : o.kind = 7
  · simp only [if_neg k1, if_neg k2, if_neg k3, if_neg k4, if_neg k5, if_neg k6, if_pos k7]; exact .inr (.inr (.inl trivial))
  by_cases k8 : o.kind = 8
  · simp only [if_neg k1, if_neg k2, if_neg k3, if_neg k4, if_neg k5, if_neg k6, if_neg k7, if_pos k8]
    exact .inr (.inr (.inr (.inl (by rw [ByteArray.size_append, numStr_size]))))
  by_cases k9 : o.kind = 9
  · simp only [if_neg k1, if_neg k2, if_neg k3, if_neg k4, if_neg k5, if_neg k6, if_neg k7, if_neg k8, if_pos k9]; exact .inl (numStr_size _ _)
  simp only [if_neg k1, if_neg k2, if_neg k3, if_neg k4, if_neg k5, if_neg k6, if_neg k7, if_neg k8, if_neg k9]
  exact .inr (.inr (.inr (.inr rfl)))
theorem opStr_size (o : OpM) : (opStr o).size % 4 = 0 ∧ (opStr o).size ≤ o.s.size + 8 := by
  have := padStr_mod o.s
  rcases opStr_sizes o with h | h | h | h | h <;> rw [h] <;> omega

theorem puts_of {st : WSt} {o : OpM} (ho : o.Is) (he : st.e = 0) (hm : st.most = 2147483648) (h : (st.out.size + (opStr o).size : Int) ≤ 2147483648) : st.puts o = { st with out := st.out ++ opStr o } := by
  obtain ⟨out, most, e⟩ := st
  simp only at he hm h
  subst he hm
  have hw := wordM_bound o.n
  unfold opStr at h ⊢
  unfold WSt.puts
  by_cases k1 : o.kind = 1
  · simp only [if_pos k1] at h ⊢
    unfold WSt.int
    have hi : isI32 (wordM o.n - 2147483648) = true := by unfold isI32; rw [decide_eq_true (by omega), decide_eq_true (by omega)]; rfl
    rw [if_pos hi]
    exact w_lays _ rfl h
  by_cases k2 : o.kind = 2
  · simp only [if_neg k1, if_pos k2] at h ⊢
    rw [numStr_size] at h
    exact w_uint _ rfl (isWordB_of hw) h
  by_cases k3 : o.kind = 3
  · simp only [if_neg k1, if_neg k2, if_pos k3] at h ⊢
    exact w_lays _ rfl h
  by_cases k4 : o.kind = 4
  · simp only [if_neg k1, if_neg k2, if_neg k3, if_pos k4] at h ⊢
    unfold WSt.bool
    rw [numStr_size] at h
    exact w_uint _ rfl (by split <;> decide) h
  by_cases k5 : o.kind = 5
  · simp only [if_neg k1, if_neg k2, if_neg k3, if_neg k4, if_pos k5] at h ⊢
    exact w_lays _ rfl h
  by_cases k6 : o.kind = 6
  · simp only [if_neg k1, if_neg k2, if_neg k3, if_neg k4, if_neg k5, if_pos k6] at h ⊢
    exact w_lays _ rfl h
  by_cases k7 : o.kind = 7
  · simp only [if_neg k1, if_neg k2, if_neg k3, if_neg k4, if_neg k5, if_neg k6, if_pos k7] at h ⊢
    have hp := padStr_size o.s
    unfold WSt.fixed
    rw [if_pos (isWordB_of ⟨by omega, by omega⟩), if_pos rfl]
    exact w_lays _ rfl h
  by_cases k8 : o.kind = 8
  · simp only [if_neg k1, if_neg k2, if_neg k3, if_neg k4, if_neg k5, if_neg k6, if_neg k7, if_pos k8] at h ⊢
    have hp := padStr_size o.s
    have hb := withinM_bound o.n (most := 9) (by decide)
    have h2 := h
    rw [ByteArray.size_append, numStr_size] at h2
    have hu : U64 (o.s.size : Int) = o.s.size := U64_of (by omega) (by omega)
    unfold WSt.opq
    rw [if_pos (isWordB_of ⟨by omega, by omega⟩), if_neg (by simp only; omega), hu]
    exact w_lays _ rfl h
  by_cases k9 : o.kind = 9
  · simp only [if_neg k1, if_neg k2, if_neg k3, if_neg k4, if_neg k5, if_neg k6, if_neg k7, if_neg k8, if_pos k9] at h ⊢
    have hb := withinM_bound o.m (most := wordM o.n + 1) (by omega)
    rw [numStr_size] at h
    exact w_count _ _ rfl (isWordB_of hw) hb.1 (by omega) h
  simp only [if_neg k1, if_neg k2, if_neg k3, if_neg k4, if_neg k5, if_neg k6, if_neg k7, if_neg k8, if_neg k9] at h ⊢
  simp

end Go.Proofs.YtlcjfafmmoncpaaGreatDoor
