/- Plain laws of the calls of a script: texts of a fixed length; every call is read as it was laid down. No program stands here. -/
import Derived.Test.YtlcjfafmmoncpaaGreatDoorFj
namespace Go.Proofs.YtlcjfafmmoncpaaGreatDoor
open Go.RowKit
set_option linter.unusedVariables false
set_option linter.unusedSimpArgs false

theorem r_fixed (s y : ByteArray) (hs : s.size ≤ 4294967295) :
    (RSt.mk (padStr s ++ y) 0).fixedS s.size = ⟨y, 0⟩ ∧ (RSt.mk (padStr s ++ y) 0).fixedV s.size = s := by
  have hz : (padStr s ++ y).size = s.size + (padN s.size + y.size) := by rw [ByteArray.size_append, padStr_size]; omega
  have hn : ((s.size : Int)).toNat = s.size := by omega
  have h4 : padStr s ++ y = s ++ (padBA s.size ++ y) := by unfold padStr; rw [ByteArray.append_assoc]
  have hp : RSt.padPart ⟨padStr s ++ y, 0⟩ 0 s.size = padBA s.size := by
    unfold RSt.padPart
    simp only
    rw [h4, Nat.zero_add]
    have := @ByteArray.extract_append_size_add s (padBA s.size ++ y) 0 (padN s.size)
    rw [Nat.add_zero] at this
    rw [this]
    exact ByteArray.extract_append_eq_left (padBA_size _).symm
  unfold RSt.fixedS RSt.fixedV
  rw [if_pos (isWordB_of ⟨by omega, by omega⟩), if_pos (isWordB_of ⟨by omega, by omega⟩), hn]
  constructor
  · unfold RSt.textS RSt.drop
    rw [if_pos rfl, if_neg (by simp only; omega), hp, if_pos (zeros_pad _)]
    congr 1
    simp only
    have e : (padStr s ++ y).extract (0 + s.size + padN s.size) (s.size + (padN s.size + y.size)) = y := by
      rw [Nat.zero_add, h4, ByteArray.extract_append_size_add]
      exact ByteArray.extract_append_eq_right (padBA_size _).symm (by rw [padBA_size])
    rw [hz, e]
  · unfold RSt.textV
    rw [if_pos ⟨rfl, by simp only; omega, by rw [hp]; exact zeros_pad _⟩]
    simp only
    rw [h4, Nat.zero_add]
    exact ByteArray.extract_append_eq_left rfl

theorem gets_of {o : OpM} (ho : o.Is) (hs : (opStr o).size ≤ 2147483648) (y : ByteArray) : (RSt.mk (opStr o ++ y) 0).getsS o = ⟨y, 0⟩ ∧ (RSt.mk (opStr o ++ y) 0).getsB o = true := by
  have hw := wordM_bound o.n
  unfold opStr at hs ⊢
  unfold RSt.getsS RSt.getsB
  by_cases k1 : o.kind = 1
  · simp only [if_pos k1]
    exact ⟨r_uint _ _, beq_iff_eq.2 (r_int _ _ (by omega))⟩
  by_cases k2 : o.kind = 2
  · simp only [if_neg k1, if_pos k2]
    exact ⟨r_uint _ _, beq_iff_eq.2 (r_uintV _ _ (isWordB_of hw))⟩
  by_cases k3 : o.kind = 3
  · simp only [if_neg k1, if_neg k2, if_pos k3]
    exact ⟨r_hyper _ _, beq_iff_eq.2 (r_hyp _ _ ho.n)⟩
  by_cases k4 : o.kind = 4
  · simp only [if_neg k1, if_neg k2, if_neg k3, if_pos k4]
    exact ⟨(r_bool _ _).1, beq_iff_eq.2 (r_bool _ _).2⟩
  by_cases k5 : o.kind = 5
  · simp only [if_neg k1, if_neg k2, if_neg k3, if_neg k4, if_pos k5]
    have hr := r_float o.single y (bits_lt (k := .f32) ho.single)
    exact ⟨hr.1, beq_iff_eq.2 (by rw [hr.2, bits_bits])⟩
  by_cases k6 : o.kind = 6
  · simp only [if_neg k1, if_neg k2, if_neg k3, if_neg k4, if_neg k5, if_pos k6]
    have hr := r_double o.double y (bits_lt (k := .f64) ho.double)
    exact ⟨hr.1, beq_iff_eq.2 (by rw [hr.2, bits_bits])⟩
  by_cases k7 : o.kind = 7
  · simp only [if_neg k1, if_neg k2, if_neg k3, if_neg k4, if_neg k5, if_neg k6, if_pos k7] at hs ⊢
    have hp := padStr_size o.s
    have hr := r_fixed o.s y (by omega)
    exact ⟨hr.1, beq_iff_eq.2 (by rw [hr.2])⟩
  by_cases k8 : o.kind = 8
  · simp only [if_neg k1, if_neg k2, if_neg k3, if_neg k4, if_neg k5, if_neg k6, if_neg k7, if_pos k8] at hs ⊢
    have hp := padStr_size o.s
    have hb := withinM_bound o.n (most := 9) (by decide)
    rw [ByteArray.size_append, numStr_size] at hs
    have hr := r_opq (o.s.size + withinM o.n 9) o.s y (isWordB_of ⟨by omega, by omega⟩) (by omega)
    rw [ByteArray.append_assoc]
    exact ⟨hr.1, beq_iff_eq.2 (by rw [hr.2])⟩
  by_cases k9 : o.kind = 9
  · simp only [if_neg k1, if_neg k2, if_neg k3, if_neg k4, if_neg k5, if_neg k6, if_neg k7, if_neg k8, if_pos k9]
    have hb := withinM_bound o.m (most := wordM o.n + 1) (by omega)
    have hm := r_many (wordM o.n) (withinM o.m (wordM o.n + 1)) y (isWordB_of hw) hb.1 (by omega)
    exact ⟨r_count _ _ _ (isWordB_of hw) hb.1 (by omega), beq_iff_eq.2 hm.2⟩
  simp only [if_neg k1, if_neg k2, if_neg k3, if_neg k4, if_neg k5, if_neg k6, if_neg k7, if_neg k8, if_neg k9]
  exact ⟨by simp, trivial⟩

end Go.Proofs.YtlcjfafmmoncpaaGreatDoor
