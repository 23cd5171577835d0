/- The model's numbers with a point: a number whose digits are moved is the same. No program stands here. -/
import Derived.Laws.FloatArith
namespace Go.Proofs.YtlcjfafmmoncpaaGreatDoor
open Ieee

theorem log2_shift {M : Nat} (t : Nat) (h : 0 < M) : (M * 2 ^ t).log2 = M.log2 + t := by
  have hM : M ≠ 0 := by omega
  have h1 := Nat.log2_self_le hM
  have h2 := @Nat.lt_log2_self M
  have hp : 0 < 2 ^ t := Nat.two_pow_pos t
  refine (Nat.log2_eq_iff (by have := Nat.mul_pos h hp; omega)).2 ⟨?_, ?_⟩
  · rw [Nat.pow_add]; exact Nat.mul_le_mul_right _ h1
  · have e : 2 ^ (M.log2 + t + 1) = 2 ^ (M.log2 + 1) * 2 ^ t := by rw [← Nat.pow_add]; congr 1; omega
    rw [e]; exact Nat.mul_lt_mul_of_pos_right h2 hp
theorem cut_zero (way : Toward) (neg : Bool) (n : Nat) : way.cut neg n 0 = n := by
  unfold Toward.cut
  dsimp only
  rw [Nat.zero_min, Nat.shiftLeft_zero, Nat.div_one, Nat.mod_one]
  cases way <;> cases neg <;> rfl
theorem cut_shift (way : Toward) (neg : Bool) {n : Nat} (t d : Nat) (h : 0 < n) : way.cut neg (n * 2 ^ t) (d + t) = way.cut neg n d := by
  unfold Toward.cut
  dsimp only
  have hp : 0 < 2 ^ t := Nat.two_pow_pos t
  have e : 1 <<< min (d + t) ((n * 2 ^ t).log2 + 2) = (1 <<< min d (n.log2 + 2)) * 2 ^ t := by
    rw [log2_shift t h, Nat.shiftLeft_eq, Nat.shiftLeft_eq, Nat.one_mul, Nat.one_mul, ← Nat.pow_add]
    congr 1; omega
  rw [e]
  generalize 1 <<< min d (n.log2 + 2) = G
  rw [Nat.mul_div_mul_right _ _ hp, Nat.mul_mod_mul_right]
  generalize n / G = low
  generalize n % G = r
  have e1 : decide (G * 2 ^ t < 2 * (r * 2 ^ t)) = decide (G < 2 * r) := by
    rw [← Nat.mul_assoc, decide_eq_decide]
    exact Nat.mul_lt_mul_right hp
  have e2 : (G * 2 ^ t == 2 * (r * 2 ^ t)) = (G == 2 * r) := by
    rw [← Nat.mul_assoc, Bool.eq_iff_iff, beq_iff_eq, beq_iff_eq]
    exact Nat.mul_left_inj (by omega)
  have e3 : (r * 2 ^ t != 0) = (r != 0) := by
    rw [Bool.eq_iff_iff, bne_iff_ne, bne_iff_ne]
    constructor
    · intro h1 h2; exact h1 (by rw [h2, Nat.zero_mul])
    · intro h1 h2; rcases Nat.mul_eq_zero.1 h2 with h3 | h3
      · exact h1 h3
      · omega
  cases way <;> simp only [e1, e2, e3]
theorem cut_exact (way : Toward) (neg : Bool) (n d : Nat) : way.cut neg (n * 2 ^ d) d = n := by
  by_cases h : n = 0
  · subst h
    rw [Nat.zero_mul]
    unfold Toward.cut
    dsimp only
    rw [Nat.zero_div, Nat.zero_mod]
    cases way <;> cases neg <;> simp
    all_goals rw [Nat.shiftLeft_eq]; exact Nat.pos_of_ne_zero (by simp)
  · have := cut_shift way neg (n := n) d 0 (by omega)
    rw [Nat.zero_add] at this
    rw [this, cut_zero]
theorem nearest_shift (f : Format) (neg : Bool) {M : Nat} (t : Nat) (q : Int) (h : 0 < M) : f.nearest neg (M * 2 ^ t) (q - t) = f.nearest neg M q := by
  have hp : 0 < 2 ^ t := Nat.two_pow_pos t
  unfold Format.nearest
  rw [if_neg (by have := Nat.mul_pos h hp; omega), if_neg (by omega), log2_shift t h]
  have e : max (q - (t : Int) + ((M.log2 + t : Nat) : Int) - (f.fractionBits : Int)) f.leastPlace = max (q + (M.log2 : Int) - (f.fractionBits : Int)) f.leastPlace := by congr 1; omega
  rw [e]
  generalize max (q + (M.log2 : Int) - (f.fractionBits : Int)) f.leastPlace = L
  have key : Toward.even.cut neg ((M * 2 ^ t) <<< (q - t - L).toNat) (L - (q - t)).toNat = Toward.even.cut neg (M <<< (q - L).toNat) (L - q).toNat := by
    rw [Nat.shiftLeft_eq, Nat.shiftLeft_eq]
    by_cases h1 : L ≤ q - t
    · have a1 : (q - L).toNat = t + (q - t - L).toNat := by omega
      have a2 : (L - (q - t)).toNat = 0 := by omega
      have a3 : (L - q).toNat = 0 := by omega
      rw [a1, a2, a3, Nat.pow_add, Nat.mul_assoc]
    · by_cases h2 : L ≤ q
      · have a1 : (q - t - L).toNat = 0 := by omega
        have a3 : (L - q).toNat = 0 := by omega
        have a4 : t = (q - L).toNat + (L - (q - t)).toNat := by omega
        rw [a1, a3, cut_zero, Nat.pow_zero, Nat.mul_one]
        have a5 : M * 2 ^ t = M * 2 ^ (q - L).toNat * 2 ^ (L - (q - t)).toNat := by
          rw [Nat.mul_assoc, ← Nat.pow_add, ← a4]
        rw [a5]
        exact cut_exact _ _ _ _
      · have a1 : (q - t - L).toNat = 0 := by omega
        have a2 : (q - L).toNat = 0 := by omega
        have a3 : (L - (q - t)).toNat = (L - q).toNat + t := by omega
        rw [a1, a2, a3, Nat.pow_zero, Nat.mul_one, Nat.mul_one]
        exact cut_shift _ _ _ _ h
  simp only [key]
theorem nearest_neg (f : Format) (M : Nat) (q : Int) : f.nearest true M q = f.signWeight + f.nearest false M q := by
  unfold Format.nearest
  by_cases h : M = 0
  · rw [if_pos h, if_pos h]; rfl
  · rw [if_neg h, if_neg h]
    rfl
end Go.Proofs.YtlcjfafmmoncpaaGreatDoor
