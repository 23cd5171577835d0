/- Numbers with a point of both kinds, by their digits and their place: halved, doubled, compared, made whole. No program stands here. -/
import Derived.Test.YtlcjfafmmoncpaaGreatDoorIa
namespace Go.Proofs.YtlcjfafmmoncpaaGreatDoor
open Ieee

def wd64 (M : Nat) (q : Int) : Nat := Ieee.double.nearest false M q
theorem fields64 : Ieee.double.fractionBits = 52 ∧ Ieee.double.leastPlace = -1074 ∧ Ieee.double.binade = 4503599627370496 ∧ Ieee.double.infRung = 9218868437227405312 ∧ Ieee.double.signWeight = 9223372036854775808 := by decide
theorem wd_val64 {M : Nat} {q : Int} (h0 : 0 < M) (hM : M < 9007199254740992) (hq : -1074 ≤ q ∧ q ≤ 971) :
    ∃ t : Nat, (t : Int) ≤ q + 1074 ∧ wd64 M q = (q - t + 1074).toNat * 4503599627370496 + M * 2 ^ t ∧ M * 2 ^ t < 9007199254740992 ∧ (4503599627370496 ≤ M * 2 ^ t ∨ q - t = -1074) := by
  obtain ⟨f1, f2, f3, f4, f5⟩ := fields64
  have hM0 : M ≠ 0 := by omega
  have hlog : M.log2 ≤ 52 := by
    have := (Nat.log2_lt hM0 (k := 53)).2 hM
    omega
  have hlo := Nat.log2_self_le hM0
  have hhi := @Nat.lt_log2_self M
  unfold wd64 Format.nearest
  rw [if_neg hM0, f1, f2, f3, f4]
  dsimp only
  have key : ∃ t : Nat, max (q + (M.log2 : Int) - (52 : Nat)) (-1074) = q - t ∧ (t : Int) ≤ q + 1074 ∧ M * 2 ^ t < 9007199254740992 ∧ (4503599627370496 ≤ M * 2 ^ t ∨ q - t = -1074) := by
    by_cases hc : -1074 ≤ q + (M.log2 : Int) - (52 : Nat)
    · refine ⟨52 - M.log2, by omega, by omega, ?_, .inl ?_⟩
      · have : M * 2 ^ (52 - M.log2) < 2 ^ (M.log2 + 1) * 2 ^ (52 - M.log2) := Nat.mul_lt_mul_of_pos_right hhi (Nat.two_pow_pos _)
        rw [← Nat.pow_add, show M.log2 + 1 + (52 - M.log2) = 53 by omega] at this
        exact this
      · have : 2 ^ M.log2 * 2 ^ (52 - M.log2) ≤ M * 2 ^ (52 - M.log2) := Nat.mul_le_mul_right _ hlo
        rw [← Nat.pow_add, show M.log2 + (52 - M.log2) = 52 by omega] at this
        exact this
    · refine ⟨(q + 1074).toNat, by omega, by omega, ?_, .inr (by omega)⟩
      have : M * 2 ^ (q + 1074).toNat < 2 ^ (M.log2 + 1) * 2 ^ (q + 1074).toNat := Nat.mul_lt_mul_of_pos_right hhi (Nat.two_pow_pos _)
      rw [← Nat.pow_add] at this
      have h2 : 2 ^ (M.log2 + 1 + (q + 1074).toNat) ≤ 2 ^ 53 := Nat.pow_le_pow_right (by decide) (by omega)
      exact Nat.lt_of_lt_of_le this h2
  obtain ⟨t, e, h1, h2, h3⟩ := key
  refine ⟨t, h1, ?_, h2, h3⟩
  rw [e, Nat.shiftLeft_eq]
  have e1 : (q - (q - (t : Int))).toNat = t := by omega
  have e2 : (q - (t : Int) - q).toNat = 0 := by omega
  rw [e1, e2, cut_zero]
  have e3 : q - (t : Int) - -1074 = q - t + 1074 := by omega
  rw [e3]
  have hmin : (q - (t : Int) + 1074).toNat * 4503599627370496 + M * 2 ^ t ≤ 9218868437227405312 := by
    have : (q - (t : Int) + 1074).toNat ≤ 2045 := by omega
    omega
  rw [Nat.min_eq_left hmin]
  rfl
/-- what the word of a number with not too many digits is read as. -/
theorem wd_read64 {M : Nat} {q : Int} (h0 : 0 < M) (hM : M < 9007199254740992) (hq : -1074 ≤ q ∧ q ≤ 971) : ∃ t : Nat, Ieee.double.read (wd64 M q) = .number false (M * 2 ^ t) (q - t) ∧ M * 2 ^ t < 9007199254740992 ∧ wd64 M q < 9218868437227405312 := by
  obtain ⟨t, h1, e, h2, h3⟩ := wd_val64 h0 hM hq
  obtain ⟨f1, f2, f3, f4, f5⟩ := fields64
  have hE : (q - (t : Int) + 1074).toNat ≤ 2045 := by omega
  have hlt : wd64 M q < 9218868437227405312 := by omega
  refine ⟨t, ?_, h2, hlt⟩
  unfold Format.read
  rw [f2, f3, f4, f5]
  generalize wd64 M q = r at *
  dsimp only
  have e1 : r / 9223372036854775808 % 2 = 0 := by omega
  have e2 : r % 9223372036854775808 = r := by omega
  rw [e1, e2]
  by_cases hb : r < 4503599627370496
  · rw [if_pos hb]
    have e3 : (q - (t : Int) + 1074).toNat = 0 := by omega
    have e4 : q - (t : Int) = -1074 := by omega
    rw [e3, Nat.zero_mul, Nat.zero_add] at e
    rw [e, e4]
    rfl
  · rw [if_neg hb, if_pos hlt]
    have hk : 4503599627370496 ≤ M * 2 ^ t := by
      rcases h3 with h3 | h3
      · exact h3
      · have e3 : (q - (t : Int) + 1074).toNat = 0 := by omega
        rw [e3, Nat.zero_mul, Nat.zero_add] at e
        omega
    generalize M * 2 ^ t = K at *
    have e5 : r / 4503599627370496 = (q - (t : Int) + 1074).toNat + 1 := by omega
    have e6 : 4503599627370496 + r % 4503599627370496 = K := by omega
    rw [e5, e6]
    have e7 : (-1074 : Int) + (((q - (t : Int) + 1074).toNat + 1 - 1 : Nat) : Int) = q - t := by omega
    rw [e7]
    rfl
/-- every finite number but nought is the word of its digits. -/
theorem canon64 {r : Nat} (h0 : 0 < r) (h : r < 9218868437227405312) : ∃ (M : Nat) (q : Int), r = wd64 M q ∧ 0 < M ∧ M < 9007199254740992 ∧ -1074 ≤ q ∧ q ≤ 971 ∧ ((4503599627370496 ≤ M ∧ (r : Int) = (q + 1074) * 4503599627370496 + M) ∨ (M < 4503599627370496 ∧ q = -1074 ∧ r = M)) := by
  by_cases hb : r < 4503599627370496
  · refine ⟨r, -1074, ?_, h0, by omega, by omega, by omega, .inr ⟨hb, rfl, rfl⟩⟩
    obtain ⟨t, h1, e, h2, h3⟩ := wd_val64 (M := r) (q := -1074) h0 (by omega) (by omega)
    have ht : t = 0 := by omega
    subst ht
    rw [e, Nat.pow_zero, Nat.mul_one]
    simp
  · refine ⟨4503599627370496 + r % 4503599627370496, -1074 + (r / 4503599627370496 - 1 : Nat), ?_, by omega, by omega, by omega, by omega, .inl ⟨by omega, by omega⟩⟩
    obtain ⟨t, h1, e, h2, h3⟩ := wd_val64 (M := 4503599627370496 + r % 4503599627370496) (q := -1074 + (r / 4503599627370496 - 1 : Nat)) (by omega) (by omega) (by omega)
    have ht : t = 0 := by
      by_cases ht : t = 0
      · exact ht
      · have h2t : 2 ≤ 2 ^ t := by
          have := Nat.pow_le_pow_right (n := 2) (by decide) (show 1 ≤ t by omega)
          simpa using this
        have : (4503599627370496 + r % 4503599627370496) * 2 ≤ (4503599627370496 + r % 4503599627370496) * 2 ^ t := Nat.mul_le_mul_left _ h2t
        omega
    subst ht
    rw [e, Nat.pow_zero, Nat.mul_one]
    omega
theorem readTwo64 : Ieee.double.read 4611686018427387904 = .number false 4503599627370496 (-51) := by decide
theorem wd_half64 {M : Nat} {q : Int} (h0 : 0 < M) (hM : M < 9007199254740992) (hq : -1074 ≤ q ∧ q ≤ 971) : Ieee.double.div (wd64 M q) 4611686018427387904 = some (wd64 M (q - 1)) := by
  obtain ⟨t, hr, h2, _⟩ := wd_read64 h0 hM hq
  have hK0 : 0 < M * 2 ^ t := Nat.mul_pos h0 (Nat.two_pow_pos t)
  unfold Format.div
  rw [hr, readTwo64, fields64.1]
  unfold Datum.quotient
  dsimp only
  rw [if_neg (by decide), show Nat.log2 4503599627370496 = 52 by decide]
  have hlog : (M * 2 ^ t).log2 ≤ 52 := by
    have := (Nat.log2_lt (by omega : M * 2 ^ t ≠ 0) (k := 53)).2 h2
    omega
  obtain ⟨m, hm⟩ : ∃ m : Nat, 52 + 2 + 52 - (M * 2 ^ t).log2 = 52 + m := ⟨52 + 2 - (M * 2 ^ t).log2, by omega⟩
  rw [hm, Nat.shiftLeft_eq]
  have e0 : M * 2 ^ t * 2 ^ (52 + m) = M * 2 ^ (t + m) * 4503599627370496 := by
    rw [Nat.mul_assoc, ← Nat.pow_add, show t + (52 + m) = (t + m) + 52 by omega, Nat.pow_add, ← Nat.mul_assoc]
  rw [e0, Nat.mul_div_cancel _ (by decide), Nat.mul_mod_left]
  show some (Ieee.double.write (.number false (2 * (M * 2 ^ (t + m)) + 0) _)) = _
  congr 1
  show Ieee.double.nearest false _ _ = Ieee.double.nearest false M (q - 1)
  have e1 : 2 * (M * 2 ^ (t + m)) + 0 = M * 2 ^ (t + m + 1) := by
    rw [Nat.add_zero, Nat.pow_succ, Nat.mul_comm 2, Nat.mul_assoc]
  rw [e1, ← nearest_shift Ieee.double false (t + m + 1) (q - 1) h0]
  congr 1
  omega
/-- times a power of two. -/
theorem wd_mul64 {M : Nat} {q : Int} (h0 : 0 < M) (hM : M < 9007199254740992) (hq : -1074 ≤ q ∧ q ≤ 971) {c k : Nat} {j : Int} (hc : Ieee.double.read c = .number false (2 ^ k) j) : Ieee.double.mul (wd64 M q) c = some (wd64 M (q + j + k)) := by
  obtain ⟨t, hr, h2, _⟩ := wd_read64 h0 hM hq
  unfold Format.mul
  rw [hr, hc]
  unfold Datum.product
  show some (Ieee.double.write (.number false (M * 2 ^ t * 2 ^ k) (q - t + j))) = _
  congr 1
  show Ieee.double.nearest false _ _ = Ieee.double.nearest false M (q + j + k)
  have e1 : M * 2 ^ t * 2 ^ k = M * 2 ^ (t + k) := by rw [Nat.mul_assoc, ← Nat.pow_add]
  rw [e1, ← nearest_shift Ieee.double false (t + k) (q + j + k) h0]
  congr 1
  omega
theorem wd_zero64 {M : Nat} {q : Int} (h0 : 0 < M) (hM : M < 9007199254740992) (hq : -1074 ≤ q ∧ q ≤ 971) : Ieee.double.order (wd64 M q) 0 = some .gt := by
  obtain ⟨t, hr, h2, _⟩ := wd_read64 h0 hM hq
  have hK0 : 0 < M * 2 ^ t := Nat.mul_pos h0 (Nat.two_pow_pos t)
  unfold Format.order
  rw [hr, show Ieee.double.read 0 = .number false 0 (-1074) by decide]
  unfold Datum.order
  dsimp only
  unfold signed
  simp only [Bool.false_eq_true, if_false, Nat.shiftLeft_eq, Nat.zero_mul]
  congr 1
  rw [Int.compare_eq_gt]
  have := Nat.mul_pos hK0 (Nat.two_pow_pos (q - (t : Int) - min (q - (t : Int)) (-1074)).toNat)
  omega
/-- beside a power of two. -/
theorem wd_ord64 {M : Nat} {q : Int} (h0 : 0 < M) (hM : M < 9007199254740992) (hq : -1074 ≤ q ∧ q ≤ 971) {c k : Nat} {j : Int} (hc : Ieee.double.read c = .number false (2 ^ k) j) :
    (q + M.log2 < j + k → Ieee.double.order (wd64 M q) c = some .lt) ∧ (j + k ≤ q + M.log2 → Ieee.double.order (wd64 M q) c = some .gt ∨ Ieee.double.order (wd64 M q) c = some .eq) := by
  obtain ⟨t, hr, h2, _⟩ := wd_read64 h0 hM hq
  have hM0 : M ≠ 0 := by omega
  have hlo := Nat.log2_self_le hM0
  have hhi := @Nat.lt_log2_self M
  unfold Format.order
  rw [hr, hc]
  unfold Datum.order
  dsimp only
  unfold signed
  simp only [Bool.false_eq_true, if_false, Nat.shiftLeft_eq]
  obtain ⟨a, ha⟩ : ∃ a : Nat, (q - (t : Int) - min (q - (t : Int)) j).toNat = a := ⟨_, rfl⟩
  obtain ⟨b, hb⟩ : ∃ b : Nat, (j - min (q - (t : Int)) j).toNat = b := ⟨_, rfl⟩
  rw [ha, hb]
  have e1 : M * 2 ^ t * 2 ^ a = M * 2 ^ (t + a) := by rw [Nat.mul_assoc, ← Nat.pow_add]
  have e2 : 2 ^ k * 2 ^ b = 2 ^ (k + b) := by rw [← Nat.pow_add]
  rw [e1, e2]
  refine ⟨fun h => ?_, fun h => ?_⟩
  · congr 1
    rw [Int.compare_eq_lt]
    have h3 : M * 2 ^ (t + a) < 2 ^ (M.log2 + 1) * 2 ^ (t + a) := Nat.mul_lt_mul_of_pos_right hhi (Nat.two_pow_pos _)
    rw [← Nat.pow_add] at h3
    have h4 : 2 ^ (M.log2 + 1 + (t + a)) ≤ 2 ^ (k + b) := Nat.pow_le_pow_right (by decide) (by omega)
    have := Nat.lt_of_lt_of_le h3 h4
    omega
  · have h3 : 2 ^ M.log2 * 2 ^ (t + a) ≤ M * 2 ^ (t + a) := Nat.mul_le_mul_right _ hlo
    rw [← Nat.pow_add] at h3
    have h4 : 2 ^ (k + b) ≤ 2 ^ (M.log2 + (t + a)) := Nat.pow_le_pow_right (by decide) (by omega)
    have h5 := Nat.le_trans h4 h3
    by_cases h6 : M * 2 ^ (t + a) = 2 ^ (k + b)
    · right; congr 1; rw [Int.compare_eq_eq]; omega
    · left; congr 1; rw [Int.compare_eq_gt]; omega
theorem wd_whole64 {M : Nat} (h0 : 0 < M) (hM : M < 9007199254740992) : (Ieee.double.read (wd64 M 0)).toInt .zero = some (M : Int) := by
  obtain ⟨t, hr, h2, _⟩ := wd_read64 h0 hM (q := 0) (by omega)
  rw [hr]
  unfold Datum.toInt Datum.integral
  dsimp only
  have e1 : (0 - (t : Int)).toNat = 0 := by omega
  have e2 : (-(0 - (t : Int))).toNat = t := by omega
  rw [e1, e2, Nat.shiftLeft_zero, cut_exact]
  unfold signed
  simp

def wd32 (M : Nat) (q : Int) : Nat := Ieee.single.nearest false M q
theorem fields32 : Ieee.single.fractionBits = 23 ∧ Ieee.single.leastPlace = -149 ∧ Ieee.single.binade = 8388608 ∧ Ieee.single.infRung = 2139095040 ∧ Ieee.single.signWeight = 2147483648 := by decide
theorem wd_val32 {M : Nat} {q : Int} (h0 : 0 < M) (hM : M < 16777216) (hq : -149 ≤ q ∧ q ≤ 104) :
    ∃ t : Nat, (t : Int) ≤ q + 149 ∧ wd32 M q = (q - t + 149).toNat * 8388608 + M * 2 ^ t ∧ M * 2 ^ t < 16777216 ∧ (8388608 ≤ M * 2 ^ t ∨ q - t = -149) := by
  obtain ⟨f1, f2, f3, f4, f5⟩ := fields32
  have hM0 : M ≠ 0 := by omega
  have hlog : M.log2 ≤ 23 := by
    have := (Nat.log2_lt hM0 (k := 24)).2 hM
    omega
  have hlo := Nat.log2_self_le hM0
  have hhi := @Nat.lt_log2_self M
  unfold wd32 Format.nearest
  rw [if_neg hM0, f1, f2, f3, f4]
  dsimp only
  have key : ∃ t : Nat, max (q + (M.log2 : Int) - (23 : Nat)) (-149) = q - t ∧ (t : Int) ≤ q + 149 ∧ M * 2 ^ t < 16777216 ∧ (8388608 ≤ M * 2 ^ t ∨ q - t = -149) := by
    by_cases hc : -149 ≤ q + (M.log2 : Int) - (23 : Nat)
    · refine ⟨23 - M.log2, by omega, by omega, ?_, .inl ?_⟩
      · have : M * 2 ^ (23 - M.log2) < 2 ^ (M.log2 + 1) * 2 ^ (23 - M.log2) := Nat.mul_lt_mul_of_pos_right hhi (Nat.two_pow_pos _)
        rw [← Nat.pow_add, show M.log2 + 1 + (23 - M.log2) = 24 by omega] at this
        exact this
      · have : 2 ^ M.log2 * 2 ^ (23 - M.log2) ≤ M * 2 ^ (23 - M.log2) := Nat.mul_le_mul_right _ hlo
        rw [← Nat.pow_add, show M.log2 + (23 - M.log2) = 23 by omega] at this
        exact this
    · refine ⟨(q + 149).toNat, by omega, by omega, ?_, .inr (by omega)⟩
      have : M * 2 ^ (q + 149).toNat < 2 ^ (M.log2 + 1) * 2 ^ (q + 149).toNat := Nat.mul_lt_mul_of_pos_right hhi (Nat.two_pow_pos _)
      rw [← Nat.pow_add] at this
      have h2 : 2 ^ (M.log2 + 1 + (q + 149).toNat) ≤ 2 ^ 24 := Nat.pow_le_pow_right (by decide) (by omega)
      exact Nat.lt_of_lt_of_le this h2
  obtain ⟨t, e, h1, h2, h3⟩ := key
  refine ⟨t, h1, ?_, h2, h3⟩
  rw [e, Nat.shiftLeft_eq]
  have e1 : (q - (q - (t : Int))).toNat = t := by omega
  have e2 : (q - (t : Int) - q).toNat = 0 := by omega
  rw [e1, e2, cut_zero]
  have e3 : q - (t : Int) - -149 = q - t + 149 := by omega
  rw [e3]
  have hmin : (q - (t : Int) + 149).toNat * 8388608 + M * 2 ^ t ≤ 2139095040 := by
    have : (q - (t : Int) + 149).toNat ≤ 253 := by omega
    omega
  rw [Nat.min_eq_left hmin]
  rfl
/-- what the word of a number with not too many digits is read as. -/
theorem wd_read32 {M : Nat} {q : Int} (h0 : 0 < M) (hM : M < 16777216) (hq : -149 ≤ q ∧ q ≤ 104) : ∃ t : Nat, Ieee.single.read (wd32 M q) = .number false (M * 2 ^ t) (q - t) ∧ M * 2 ^ t < 16777216 ∧ wd32 M q < 2139095040 := by
  obtain ⟨t, h1, e, h2, h3⟩ := wd_val32 h0 hM hq
  obtain ⟨f1, f2, f3, f4, f5⟩ := fields32
  have hE : (q - (t : Int) + 149).toNat ≤ 253 := by omega
  have hlt : wd32 M q < 2139095040 := by omega
  refine ⟨t, ?_, h2, hlt⟩
  unfold Format.read
  rw [f2, f3, f4, f5]
  generalize wd32 M q = r at *
  dsimp only
  have e1 : r / 2147483648 % 2 = 0 := by omega
  have e2 : r % 2147483648 = r := by omega
  rw [e1, e2]
  by_cases hb : r < 8388608
  · rw [if_pos hb]
    have e3 : (q - (t : Int) + 149).toNat = 0 := by omega
    have e4 : q - (t : Int) = -149 := by omega
    rw [e3, Nat.zero_mul, Nat.zero_add] at e
    rw [e, e4]
    rfl
  · rw [if_neg hb, if_pos hlt]
    have hk : 8388608 ≤ M * 2 ^ t := by
      rcases h3 with h3 | h3
      · exact h3
      · have e3 : (q - (t : Int) + 149).toNat = 0 := by omega
        rw [e3, Nat.zero_mul, Nat.zero_add] at e
        omega
    generalize M * 2 ^ t = K at *
    have e5 : r / 8388608 = (q - (t : Int) + 149).toNat + 1 := by omega
    have e6 : 8388608 + r % 8388608 = K := by omega
    rw [e5, e6]
    have e7 : (-149 : Int) + (((q - (t : Int) + 149).toNat + 1 - 1 : Nat) : Int) = q - t := by omega
    rw [e7]
    rfl
/-- every finite number but nought is the word of its digits. -/
theorem canon32 {r : Nat} (h0 : 0 < r) (h : r < 2139095040) : ∃ (M : Nat) (q : Int), r = wd32 M q ∧ 0 < M ∧ M < 16777216 ∧ -149 ≤ q ∧ q ≤ 104 ∧ ((8388608 ≤ M ∧ (r : Int) = (q + 149) * 8388608 + M) ∨ (M < 8388608 ∧ q = -149 ∧ r = M)) := by
  by_cases hb : r < 8388608
  · refine ⟨r, -149, ?_, h0, by omega, by omega, by omega, .inr ⟨hb, rfl, rfl⟩⟩
    obtain ⟨t, h1, e, h2, h3⟩ := wd_val32 (M := r) (q := -149) h0 (by omega) (by omega)
    have ht : t = 0 := by omega
    subst ht
    rw [e, Nat.pow_zero, Nat.mul_one]
    simp
  · refine ⟨8388608 + r % 8388608, -149 + (r / 8388608 - 1 : Nat), ?_, by omega, by omega, by omega, by omega, .inl ⟨by omega, by omega⟩⟩
    obtain ⟨t, h1, e, h2, h3⟩ := wd_val32 (M := 8388608 + r % 8388608) (q := -149 + (r / 8388608 - 1 : Nat)) (by omega) (by omega) (by omega)
    have ht : t = 0 := by
      by_cases ht : t = 0
      · exact ht
      · have h2t : 2 ≤ 2 ^ t := by
          have := Nat.pow_le_pow_right (n := 2) (by decide) (show 1 ≤ t by omega)
          simpa using this
        have : (8388608 + r % 8388608) * 2 ≤ (8388608 + r % 8388608) * 2 ^ t := Nat.mul_le_mul_left _ h2t
        omega
    subst ht
    rw [e, Nat.pow_zero, Nat.mul_one]
    omega
theorem readTwo32 : Ieee.single.read 1073741824 = .number false 8388608 (-22) := by decide
theorem wd_half32 {M : Nat} {q : Int} (h0 : 0 < M) (hM : M < 16777216) (hq : -149 ≤ q ∧ q ≤ 104) : Ieee.single.div (wd32 M q) 1073741824 = some (wd32 M (q - 1)) := by
  obtain ⟨t, hr, h2, _⟩ := wd_read32 h0 hM hq
  have hK0 : 0 < M * 2 ^ t := Nat.mul_pos h0 (Nat.two_pow_pos t)
  unfold Format.div
  rw [hr, readTwo32, fields32.1]
  unfold Datum.quotient
  dsimp only
  rw [if_neg (by decide), show Nat.log2 8388608 = 23 by decide]
  have hlog : (M * 2 ^ t).log2 ≤ 23 := by
    have := (Nat.log2_lt (by omega : M * 2 ^ t ≠ 0) (k := 24)).2 h2
    omega
  obtain ⟨m, hm⟩ : ∃ m : Nat, 23 + 2 + 23 - (M * 2 ^ t).log2 = 23 + m := ⟨23 + 2 - (M * 2 ^ t).log2, by omega⟩
  rw [hm, Nat.shiftLeft_eq]
  have e0 : M * 2 ^ t * 2 ^ (23 + m) = M * 2 ^ (t + m) * 8388608 := by
    rw [Nat.mul_assoc, ← Nat.pow_add, show t + (23 + m) = (t + m) + 23 by omega, Nat.pow_add, ← Nat.mul_assoc]
  rw [e0, Nat.mul_div_cancel _ (by decide), Nat.mul_mod_left]
  show some (Ieee.single.write (.number false (2 * (M * 2 ^ (t + m)) + 0) _)) = _
  congr 1
  show Ieee.single.nearest false _ _ = Ieee.single.nearest false M (q - 1)
  have e1 : 2 * (M * 2 ^ (t + m)) + 0 = M * 2 ^ (t + m + 1) := by
    rw [Nat.add_zero, Nat.pow_succ, Nat.mul_comm 2, Nat.mul_assoc]
  rw [e1, ← nearest_shift Ieee.single false (t + m + 1) (q - 1) h0]
  congr 1
  omega
/-- times a power of two. -/
theorem wd_mul32 {M : Nat} {q : Int} (h0 : 0 < M) (hM : M < 16777216) (hq : -149 ≤ q ∧ q ≤ 104) {c k : Nat} {j : Int} (hc : Ieee.single.read c = .number false (2 ^ k) j) : Ieee.single.mul (wd32 M q) c = some (wd32 M (q + j + k)) := by
  obtain ⟨t, hr, h2, _⟩ := wd_read32 h0 hM hq
  unfold Format.mul
  rw [hr, hc]
  unfold Datum.product
  show some (Ieee.single.write (.number false (M * 2 ^ t * 2 ^ k) (q - t + j))) = _
  congr 1
  show Ieee.single.nearest false _ _ = Ieee.single.nearest false M (q + j + k)
  have e1 : M * 2 ^ t * 2 ^ k = M * 2 ^ (t + k) := by rw [Nat.mul_assoc, ← Nat.pow_add]
  rw [e1, ← nearest_shift Ieee.single false (t + k) (q + j + k) h0]
  congr 1
  omega
theorem wd_zero32 {M : Nat} {q : Int} (h0 : 0 < M) (hM : M < 16777216) (hq : -149 ≤ q ∧ q ≤ 104) : Ieee.single.order (wd32 M q) 0 = some .gt := by
  obtain ⟨t, hr, h2, _⟩ := wd_read32 h0 hM hq
  have hK0 : 0 < M * 2 ^ t := Nat.mul_pos h0 (Nat.two_pow_pos t)
  unfold Format.order
  rw [hr, show Ieee.single.read 0 = .number false 0 (-149) by decide]
  unfold Datum.order
  dsimp only
  unfold signed
  simp only [Bool.false_eq_true, if_false, Nat.shiftLeft_eq, Nat.zero_mul]
  congr 1
  rw [Int.compare_eq_gt]
  have := Nat.mul_pos hK0 (Nat.two_pow_pos (q - (t : Int) - min (q - (t : Int)) (-149)).toNat)
  omega
/-- beside a power of two. -/
theorem wd_ord32 {M : Nat} {q : Int} (h0 : 0 < M) (hM : M < 16777216) (hq : -149 ≤ q ∧ q ≤ 104) {c k : Nat} {j : Int} (hc : Ieee.single.read c = .number false (2 ^ k) j) :
    (q + M.log2 < j + k → Ieee.single.order (wd32 M q) c = some .lt) ∧ (j + k ≤ q + M.log2 → Ieee.single.order (wd32 M q) c = some .gt ∨ Ieee.single.order (wd32 M q) c = some .eq) := by
  obtain ⟨t, hr, h2, _⟩ := wd_read32 h0 hM hq
  have hM0 : M ≠ 0 := by omega
  have hlo := Nat.log2_self_le hM0
  have hhi := @Nat.lt_log2_self M
  unfold Format.order
  rw [hr, hc]
  unfold Datum.order
  dsimp only
  unfold signed
  simp only [Bool.false_eq_true, if_false, Nat.shiftLeft_eq]
  obtain ⟨a, ha⟩ : ∃ a : Nat, (q - (t : Int) - min (q - (t : Int)) j).toNat = a := ⟨_, rfl⟩
  obtain ⟨b, hb⟩ : ∃ b : Nat, (j - min (q - (t : Int)) j).toNat = b := ⟨_, rfl⟩
  rw [ha, hb]
  have e1 : M * 2 ^ t * 2 ^ a = M * 2 ^ (t + a) := by rw [Nat.mul_assoc, ← Nat.pow_add]
  have e2 : 2 ^ k * 2 ^ b = 2 ^ (k + b) := by rw [← Nat.pow_add]
  rw [e1, e2]
  refine ⟨fun h => ?_, fun h => ?_⟩
  · congr 1
    rw [Int.compare_eq_lt]
    have h3 : M * 2 ^ (t + a) < 2 ^ (M.log2 + 1) * 2 ^ (t + a) := Nat.mul_lt_mul_of_pos_right hhi (Nat.two_pow_pos _)
    rw [← Nat.pow_add] at h3
    have h4 : 2 ^ (M.log2 + 1 + (t + a)) ≤ 2 ^ (k + b) := Nat.pow_le_pow_right (by decide) (by omega)
    have := Nat.lt_of_lt_of_le h3 h4
    omega
  · have h3 : 2 ^ M.log2 * 2 ^ (t + a) ≤ M * 2 ^ (t + a) := Nat.mul_le_mul_right _ hlo
    rw [← Nat.pow_add] at h3
    have h4 : 2 ^ (k + b) ≤ 2 ^ (M.log2 + (t + a)) := Nat.pow_le_pow_right (by decide) (by omega)
    have h5 := Nat.le_trans h4 h3
    by_cases h6 : M * 2 ^ (t + a) = 2 ^ (k + b)
    · right; congr 1; rw [Int.compare_eq_eq]; omega
    · left; congr 1; rw [Int.compare_eq_gt]; omega
theorem wd_whole32 {M : Nat} (h0 : 0 < M) (hM : M < 16777216) : (Ieee.single.read (wd32 M 0)).toInt .zero = some (M : Int) := by
  obtain ⟨t, hr, h2, _⟩ := wd_read32 h0 hM (q := 0) (by omega)
  rw [hr]
  unfold Datum.toInt Datum.integral
  dsimp only
  have e1 : (0 - (t : Int)).toNat = 0 := by omega
  have e2 : (-(0 - (t : Int))).toNat = t := by omega
  rw [e1, e2, Nat.shiftLeft_zero, cut_exact]
  unfold signed
  simp
end Go.Proofs.YtlcjfafmmoncpaaGreatDoor
