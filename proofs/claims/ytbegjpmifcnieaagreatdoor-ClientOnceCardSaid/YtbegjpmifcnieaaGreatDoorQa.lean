/- The model's numbers with a point: a number whose digits are moved is the same. No program stands here. -/
import Derived.Laws.FloatArith
import Derived.Test.YtbegjpmifcnieaaGreatDoorXw
import Derived.Laws.Cover2
import Derived.WalkLawsBesides
import Derived.Deep.CutBlock
namespace Go.Proofs.YtbegjpmifcnieaaGreatDoor
open Ieee

theorem log2_shift {M : Nat} (t : Nat) (h : 0 < M) : (M * 2 ^ t).log2 = M.log2 + t := by
  have hM : M ≠ 0 := by omega
  have h1 := Nat.log2_self_le hM
  have h2 := @Nat.lt_log2_self M
  have hp : 0 < 2 ^ t := Nat.two_pow_pos t
  refine (Nat.log2_eq_iff (by have := Nat.mul_pos h hp; omega)).2 ⟨?_, ?_⟩
  · rw [Nat.pow_add]; exact Nat.mul_le_mul_right _ h1
  · have e : 2 ^ (M.log2 + t + 1) = 2 ^ (M.log2 + 1) * 2 ^ t := by rw [← Nat.pow_add]; congr 1; omega
    rw [e]; exact Nat.mul_lt_mul_of_pos_right h2 hp
theorem cut_zero (way : Toward) (neg : Bool) (n : Nat) : way.cut neg n 0 = n := by
  unfold Toward.cut
  dsimp only
  rw [Nat.zero_min, Nat.shiftLeft_zero, Nat.div_one, Nat.mod_one]
  cases way <;> cases neg <;> rfl
theorem cut_shift (way : Toward) (neg : Bool) {n : Nat} (t d : Nat) (h : 0 < n) : way.cut neg (n * 2 ^ t) (d + t) = way.cut neg n d := by
  unfold Toward.cut
  dsimp only
  have hp : 0 < 2 ^ t := Nat.two_pow_pos t
  have e : 1 <<< min (d + t) ((n * 2 ^ t).log2 + 2) = (1 <<< min d (n.log2 + 2)) * 2 ^ t := by
    rw [log2_shift t h, Nat.shiftLeft_eq, Nat.shiftLeft_eq, Nat.one_mul, Nat.one_mul, ← Nat.pow_add]
    congr 1; omega
  rw [e]
  generalize 1 <<< min d (n.log2 + 2) = G
  rw [Nat.mul_div_mul_right _ _ hp, Nat.mul_mod_mul_right]
  generalize n / G = low
  generalize n % G = r
  have e1 : decide (G * 2 ^ t < 2 * (r * 2 ^ t)) = decide (G < 2 * r) := by
    rw [← Nat.mul_assoc, decide_eq_decide]
    exact Nat.mul_lt_mul_right hp
  have e2 : (G * 2 ^ t == 2 * (r * 2 ^ t)) = (G == 2 * r) := by
    rw [← Nat.mul_assoc, Bool.eq_iff_iff, beq_iff_eq, beq_iff_eq]
    exact Nat.mul_left_inj (by omega)
  have e3 : (r * 2 ^ t != 0) = (r != 0) := by
    rw [Bool.eq_iff_iff, bne_iff_ne, bne_iff_ne]
    constructor
    · intro h1 h2; exact h1 (by rw [h2, Nat.zero_mul])
    · intro h1 h2; rcases Nat.mul_eq_zero.1 h2 with h3 | h3
      · exact h1 h3
      · omega
  cases way <;> simp only [e1, e2, e3]
theorem cut_exact (way : Toward) (neg : Bool) (n d : Nat) : way.cut neg (n * 2 ^ d) d = n := by
  by_cases h : n = 0
  · subst h
    rw [Nat.zero_mul]
    unfold Toward.cut
    dsimp only
    rw [Nat.zero_div, Nat.zero_mod]
    cases way <;> cases neg <;> simp
    all_goals rw [Nat.shiftLeft_eq]; exact Nat.pos_of_ne_zero (by simp)
  · have := cut_shift way neg (n := n) d 0 (by omega)
    rw [Nat.zero_add] at this
    rw [this, cut_zero]
theorem nearest_shift (f : Format) (neg : Bool) {M : Nat} (t : Nat) (q : Int) (h : 0 < M) : f.nearest neg (M * 2 ^ t) (q - t) = f.nearest neg M q := by
  have hp : 0 < 2 ^ t := Nat.two_pow_pos t
  unfold Format.nearest
  rw [if_neg (by have := Nat.mul_pos h hp; omega), if_neg (by omega), log2_shift t h]
  have e : max (q - (t : Int) + ((M.log2 + t : Nat) : Int) - (f.fractionBits : Int)) f.leastPlace = max (q + (M.log2 : Int) - (f.fractionBits : Int)) f.leastPlace := by congr 1; omega
  rw [e]
  generalize max (q + (M.log2 : Int) - (f.fractionBits : Int)) f.leastPlace = L
  have key : Toward.even.cut neg ((M * 2 ^ t) <<< (q - t - L).toNat) (L - (q - t)).toNat = Toward.even.cut neg (M <<< (q - L).toNat) (L - q).toNat := by
    rw [Nat.shiftLeft_eq, Nat.shiftLeft_eq]
    by_cases h1 : L ≤ q - t
    · have a1 : (q - L).toNat = t + (q - t - L).toNat := by omega
      have a2 : (L - (q - t)).toNat = 0 := by omega
      have a3 : (L - q).toNat = 0 := by omega
      rw [a1, a2, a3, Nat.pow_add, Nat.mul_assoc]
    · by_cases h2 : L ≤ q
      · have a1 : (q - t - L).toNat = 0 := by omega
        have a3 : (L - q).toNat = 0 := by omega
        have a4 : t = (q - L).toNat + (L - (q - t)).toNat := by omega
        rw [a1, a3, cut_zero, Nat.pow_zero, Nat.mul_one]
        have a5 : M * 2 ^ t = M * 2 ^ (q - L).toNat * 2 ^ (L - (q - t)).toNat := by
          rw [Nat.mul_assoc, ← Nat.pow_add, ← a4]
        rw [a5]
        exact cut_exact _ _ _ _
      · have a1 : (q - t - L).toNat = 0 := by omega
        have a2 : (q - L).toNat = 0 := by omega
        have a3 : (L - (q - t)).toNat = (L - q).toNat + t := by omega
        rw [a1, a2, a3, Nat.pow_zero, Nat.mul_one, Nat.mul_one]
        exact cut_shift _ _ _ _ h
  simp only [key]
theorem nearest_neg (f : Format) (M : Nat) (q : Int) : f.nearest true M q = f.signWeight + f.nearest false M q := by
  unfold Format.nearest
  by_cases h : M = 0
  · rw [if_pos h, if_pos h]; rfl
  · rw [if_neg h, if_neg h]
    rfl
end Go.Proofs.YtbegjpmifcnieaaGreatDoor

/- Numbers of single width within bounds: sums, differences, parts by powers of two, wholes. No program stands here. -/
namespace Go.Proofs.YtbegjpmifcnieaaGreatDoor
open Ieee

theorem cut_cases (neg : Bool) (n d : Nat) : ∃ low rest, n = 2 ^ d * low + rest ∧ rest < 2 ^ d ∧ (Toward.even.cut neg n d = low ∨ (Toward.even.cut neg n d = low + 1 ∧ (2 ^ d < 2 * rest ∨ (2 ^ d = 2 * rest ∧ low % 2 = 1)))) := by
  unfold Toward.cut
  dsimp only
  rw [Nat.shiftLeft_eq, Nat.one_mul]
  by_cases hd : d ≤ n.log2 + 2
  · rw [Nat.min_eq_left hd]
    have hp : 0 < 2 ^ d := Nat.two_pow_pos d
    refine ⟨n / 2 ^ d, n % 2 ^ d, (Nat.div_add_mod n (2 ^ d)).symm, Nat.mod_lt _ hp, ?_⟩
    generalize 2 ^ d = g at *
    generalize n / g = low
    generalize n % g = rest
    by_cases h1 : g < 2 * rest
    · right
      exact ⟨by simp [h1], .inl h1⟩
    · by_cases h2 : g = 2 * rest ∧ low % 2 = 1
      · right
        exact ⟨by simp [← h2.1, h2.2], .inr h2⟩
      · left
        have : (decide (g < 2 * rest) || g == 2 * rest && low % 2 == 1) = false := by
          rw [decide_eq_false h1, Bool.false_or, Bool.and_eq_false_iff]
          by_cases h3 : g = 2 * rest
          · right; exact beq_eq_false_iff_ne.2 (fun h => h2 ⟨h3, h⟩)
          · left; exact beq_eq_false_iff_ne.2 h3
        rw [this]; rfl
  · rw [Nat.min_eq_right (by omega)]
    have h0 := @Nat.lt_log2_self n
    have h1 : 2 ^ (n.log2 + 2) = 2 * 2 ^ (n.log2 + 1) := by rw [Nat.pow_succ 2 (n.log2 + 1), Nat.mul_comm]
    have h2 : 2 ^ (n.log2 + 1) ≤ 2 ^ d := Nat.pow_le_pow_right (by decide) (by omega)
    refine ⟨0, n, by omega, by omega, .inl ?_⟩
    have hlt : n < 2 ^ (n.log2 + 2) := by omega
    rw [Nat.div_eq_of_lt hlt, Nat.mod_eq_of_lt hlt]
    have e1 : decide (2 ^ (n.log2 + 2) < 2 * n) = false := decide_eq_false (by omega)
    have e2 : ((2 ^ (n.log2 + 2)) == 2 * n) = false := beq_eq_false_iff_ne.2 (by omega)
    rw [e1, e2]; rfl
theorem cut_le (neg : Bool) {n d c : Nat} (h : n ≤ c * 2 ^ d) : Toward.even.cut neg n d ≤ c := by
  obtain ⟨low, rest, e, hr, hc⟩ := cut_cases neg n d
  have hp : 0 < 2 ^ d := Nat.two_pow_pos d
  generalize 2 ^ d = g at *
  have hl : low ≤ c := by
    refine Nat.le_of_not_lt (fun hlt => ?_)
    have : g * (c + 1) ≤ g * low := Nat.mul_le_mul_left g hlt
    rw [Nat.mul_add, Nat.mul_one, Nat.mul_comm g c] at this
    omega
  rcases hc with hc | ⟨hc, h2⟩
  · omega
  · rw [hc]
    refine Nat.lt_of_le_of_ne hl (fun he => ?_)
    rw [he, Nat.mul_comm g c] at e
    omega
theorem cut_ge (neg : Bool) {n d c : Nat} (h : c * 2 ^ d ≤ n) : c ≤ Toward.even.cut neg n d := by
  obtain ⟨low, rest, e, hr, hc⟩ := cut_cases neg n d
  generalize 2 ^ d = g at *
  have hl : c ≤ low := by
    refine Nat.le_of_not_lt (fun hlt => ?_)
    have : g * (low + 1) ≤ g * c := Nat.mul_le_mul_left g hlt
    rw [Nat.mul_add, Nat.mul_one, Nat.mul_comm g c] at this
    omega
  omega
theorem cut_twice (neg : Bool) (n d : Nat) : Toward.even.cut neg n d * 2 ^ d ≤ 2 * n := by
  obtain ⟨low, rest, e, hr, hc⟩ := cut_cases neg n d
  generalize 2 ^ d = g at *
  rcases hc with hc | ⟨hc, h2⟩
  · rw [hc, Nat.mul_comm low g]; omega
  · rw [hc, Nat.add_mul, Nat.one_mul, Nat.mul_comm low g]
    cases low with
    | zero => rw [Nat.mul_zero] at *; omega
    | succ l => rw [Nat.mul_succ] at *; omega

theorem fields32 : single.fractionBits = 23 ∧ single.leastPlace = -149 ∧ single.binade = 8388608 ∧ single.infRung = 2139095040 ∧ single.signWeight = 2147483648 := by decide
/-- what a rung is read as. -/
theorem read_rung (s : Bool) (E kept : Nat) (hE : E ≤ 226) (hk : kept ≤ 16777216) (h : 8388608 ≤ kept ∨ E = 0) : ∃ K e : Nat, single.read (single.word s (E * 8388608 + kept)) = .number s K (-149 + (e : Int)) ∧ K * 2 ^ e = kept * 2 ^ E := by
  obtain ⟨f1, f2, f3, f4, f5⟩ := fields32
  unfold Format.read Format.word
  rw [f2, f3, f4, f5]
  have hr : E * 8388608 + kept < 2139095040 := by omega
  have hS : ((if s = true then 2147483648 + (E * 8388608 + kept) else E * 8388608 + kept) / 2147483648 % 2 == 1) = s := by
    cases s
    · simp only [Bool.false_eq_true, if_false]
      exact beq_eq_false_iff_ne.2 (by omega)
    · simp only [if_true]
      exact beq_iff_eq.2 (by omega)
  have hR : (if s = true then 2147483648 + (E * 8388608 + kept) else E * 8388608 + kept) % 2147483648 = E * 8388608 + kept := by
    cases s
    · simp only [Bool.false_eq_true, if_false]; omega
    · simp only [if_true]; omega
  dsimp only
  rw [hS, hR]
  by_cases h1 : E * 8388608 + kept < 8388608
  · rw [if_pos h1]
    obtain rfl : E = 0 := by omega
    exact ⟨kept, 0, by simp, by simp⟩
  · rw [if_neg h1, if_pos hr]
    by_cases h2 : kept = 16777216
    · subst h2
      refine ⟨8388608, E + 1, ?_, ?_⟩
      · have e1 : (E * 8388608 + 16777216) % 8388608 = 0 := by omega
        have e2 : (E * 8388608 + 16777216) / 8388608 - 1 = E + 1 := by omega
        rw [e1, e2]
      · rw [Nat.pow_succ, ← Nat.mul_assoc, Nat.mul_comm _ 2, ← Nat.mul_assoc]
    · by_cases h3 : 8388608 ≤ kept
      · refine ⟨kept, E, ?_, rfl⟩
        have e1 : 8388608 + (E * 8388608 + kept) % 8388608 = kept := by omega
        have e2 : (E * 8388608 + kept) / 8388608 - 1 = E := by omega
        rw [e1, e2]
      · exfalso; omega
/-- rounded: within the same bound, and no more than twice as far from nought. -/
theorem nearest_num (s : Bool) (M a j : Nat) (h1 : 11 ≤ j) (h2 : j ≤ 230) (hb : M * 2 ^ a ≤ 2 ^ j) :
    ∃ K e : Nat, single.read (single.nearest s M (-160 + (a : Int))) = .number s K (-149 + (e : Int)) ∧ K * 2 ^ (e + 11) ≤ 2 ^ j ∧ K * 2 ^ (e + 11) ≤ 2 * (M * 2 ^ a) := by
  obtain ⟨f1, f2, f3, f4, f5⟩ := fields32
  by_cases h0 : M = 0
  · subst h0
    refine ⟨0, 0, ?_, by simp, by simp⟩
    unfold Format.nearest
    rw [if_pos rfl]
    cases s <;> decide
  unfold Format.nearest
  rw [if_neg h0, f1, f2, f3, f4]
  have hlo := Nat.log2_self_le h0
  have hhi := @Nat.lt_log2_self M
  generalize M.log2 = l at *
  have hla : l + a ≤ j := by
    have : 2 ^ (l + a) ≤ 2 ^ j := by rw [Nat.pow_add]; exact Nat.le_trans (Nat.mul_le_mul_right _ hlo) hb
    exact (Nat.pow_le_pow_iff_right (by decide)).1 this
  obtain ⟨E, hE⟩ : ∃ E : Nat, max (-160 + (a : Int) + (l : Int) - (23 : Nat)) (-149) = -149 + (E : Int) := ⟨(max (-160 + (a : Int) + (l : Int) - (23 : Nat)) (-149) + 149).toNat, by omega⟩
  rw [hE]
  have hEj : E + 11 ≤ j := by omega
  have key : ∃ kept, Toward.even.cut s (M <<< (-160 + (a : Int) - (-149 + (E : Int))).toNat) (-149 + (E : Int) - (-160 + (a : Int))).toNat = kept ∧ kept ≤ 16777216 ∧ (8388608 ≤ kept ∨ E = 0) ∧ kept * 2 ^ (E + 11) ≤ 2 ^ j ∧ kept * 2 ^ (E + 11) ≤ 2 * (M * 2 ^ a) := by
    refine ⟨_, rfl, ?_⟩
    rw [Nat.shiftLeft_eq]
    by_cases hc : E + 11 ≤ a
    · have a1 : (-160 + (a : Int) - (-149 + (E : Int))).toNat = a - (E + 11) := by omega
      have a2 : (-149 + (E : Int) - (-160 + (a : Int))).toNat = 0 := by omega
      rw [a1, a2, cut_zero]
      have e : M * 2 ^ (a - (E + 11)) * 2 ^ (E + 11) = M * 2 ^ a := by rw [Nat.mul_assoc, ← Nat.pow_add]; congr 2; omega
      refine ⟨?_, ?_, by rw [e]; exact hb, by rw [e]; omega⟩
      · have : M * 2 ^ (a - (E + 11)) ≤ 2 ^ (l + 1) * 2 ^ (a - (E + 11)) := Nat.mul_le_mul_right _ (by omega)
        rw [← Nat.pow_add] at this
        exact Nat.le_trans this (show 2 ^ (l + 1 + (a - (E + 11))) ≤ 2 ^ 24 from Nat.pow_le_pow_right (by decide) (by omega))
      · by_cases hE0 : E = 0
        · exact .inr hE0
        · left
          have : 2 ^ l * 2 ^ (a - (E + 11)) ≤ M * 2 ^ (a - (E + 11)) := Nat.mul_le_mul_right _ hlo
          rw [← Nat.pow_add, show l + (a - (E + 11)) = 23 by omega] at this
          exact this
    · have a1 : (-160 + (a : Int) - (-149 + (E : Int))).toNat = 0 := by omega
      have a2 : (-149 + (E : Int) - (-160 + (a : Int))).toNat = E + 11 - a := by omega
      rw [a1, a2, Nat.pow_zero, Nat.mul_one]
      obtain ⟨d, hd⟩ : ∃ d, E + 11 = d + a := ⟨E + 11 - a, by omega⟩
      rw [show E + 11 - a = d by omega, hd, Nat.pow_add]
      refine ⟨cut_le s ?_, ?_, ?_, ?_⟩
      · have : 2 ^ (l + 1) ≤ 2 ^ (24 + d) := Nat.pow_le_pow_right (by decide) (by omega)
        rw [Nat.pow_add 2 24] at this
        exact Nat.le_trans (Nat.le_of_lt hhi) this
      · by_cases hE0 : E = 0
        · exact .inr hE0
        · left
          refine cut_ge s ?_
          have : 2 ^ (23 + d) ≤ 2 ^ l := Nat.pow_le_pow_right (by decide) (by omega)
          rw [Nat.pow_add] at this
          exact Nat.le_trans this hlo
      · have hm : M ≤ 2 ^ (j - (E + 11)) * 2 ^ d := by
          have e : 2 ^ j = 2 ^ (j - (E + 11)) * 2 ^ d * 2 ^ a := by rw [Nat.mul_assoc, ← Nat.pow_add, ← Nat.pow_add]; congr 1; omega
          rw [e] at hb
          exact Nat.le_of_mul_le_mul_right hb (Nat.two_pow_pos a)
        have := Nat.mul_le_mul_right (2 ^ d * 2 ^ a) (cut_le s hm)
        refine Nat.le_trans this (Nat.le_of_eq ?_)
        rw [← Nat.pow_add, ← Nat.pow_add]; congr 1; omega
      · have := Nat.mul_le_mul_right (2 ^ a) (cut_twice s M d)
        rw [← Nat.mul_assoc, ← Nat.mul_assoc 2]
        exact this
  obtain ⟨kept, hk, k1, k2, k3, k4⟩ := key
  dsimp only
  rw [hk, show (-149 + (E : Int) - -149).toNat = E by omega, Nat.min_eq_left (by omega)]
  obtain ⟨K, e, hr, he⟩ := read_rung s E kept (by omega) k1 k2
  refine ⟨K, e, hr, ?_, ?_⟩
  · rw [Nat.pow_add, ← Nat.mul_assoc, he, Nat.mul_assoc, ← Nat.pow_add]; exact k3
  · rw [Nat.pow_add, ← Nat.mul_assoc, he, Nat.mul_assoc, ← Nat.pow_add]; exact k4

def sgn (s : Bool) (n : Nat) : Int := if s = true then -(n : Int) else n
theorem signed_sgn (s : Bool) (m u : Nat) : signed s m u = sgn s (m * 2 ^ u) := by
  unfold signed sgn
  rw [Nat.shiftLeft_eq]
theorem sgn_mul (s : Bool) (n k : Nat) : sgn s n * (k : Int) = sgn s (n * k) := by
  unfold sgn
  cases s
  · simp
  · simp [Int.neg_mul]
theorem sgn_not (s : Bool) (n : Nat) : sgn (!s) n = - sgn s n := by
  unfold sgn
  cases s <;> simp
/-- a word that stands for a number: so many units of 2 ^ -160. -/
def Fl (r : Nat) (v : Int) : Prop := ∃ (s : Bool) (K e : Nat), single.read r = .number s K (-149 + (e : Int)) ∧ v = sgn s (K * 2 ^ (e + 11))
theorem nearest_fl (s : Bool) (M a j : Nat) (h1 : 11 ≤ j) (h2 : j ≤ 230) (hb : M * 2 ^ a ≤ 2 ^ j) :
    ∃ n : Nat, Fl (single.nearest s M (-160 + (a : Int))) (sgn s n) ∧ n ≤ 2 ^ j ∧ n ≤ 2 * (M * 2 ^ a) := by
  obtain ⟨K, e, hr, k1, k2⟩ := nearest_num s M a j h1 h2 hb
  exact ⟨_, ⟨s, K, e, hr, rfl⟩, k1, k2⟩
theorem sum_fl {s t : Bool} {K N e f j : Nat} (h1 : 11 ≤ j) (h2 : j ≤ 230) (hb : (sgn s (K * 2 ^ (e + 11)) + sgn t (N * 2 ^ (f + 11))).natAbs ≤ 2 ^ j) :
    ∃ r v, ((Datum.number s K (-149 + (e : Int))).sum (.number t N (-149 + (f : Int)))).map single.write = some r ∧ Fl r v ∧ v.natAbs ≤ 2 ^ j ∧ v.natAbs ≤ 2 * (sgn s (K * 2 ^ (e + 11)) + sgn t (N * 2 ^ (f + 11))).natAbs ∧
      (0 ≤ sgn s (K * 2 ^ (e + 11)) + sgn t (N * 2 ^ (f + 11)) → 0 ≤ v) ∧ (sgn s (K * 2 ^ (e + 11)) + sgn t (N * 2 ^ (f + 11)) ≤ 0 → v ≤ 0) := by
  unfold Datum.sum
  dsimp only
  obtain ⟨g, hg, e1, f1⟩ : ∃ g : Nat, min (-149 + (e : Int)) (-149 + (f : Int)) = -149 + (g : Int) ∧ g ≤ e ∧ g ≤ f := ⟨min e f, by omega, by omega, by omega⟩
  rw [hg, show (-149 + (e : Int) - (-149 + (g : Int))).toNat = e - g by omega, show (-149 + (f : Int) - (-149 + (g : Int))).toNat = f - g by omega, signed_sgn, signed_sgn]
  have x1 : sgn s (K * 2 ^ (e + 11)) = sgn s (K * 2 ^ (e - g)) * ((2 ^ (g + 11) : Nat) : Int) := by
    rw [sgn_mul, Nat.mul_assoc, ← Nat.pow_add]; congr 3; omega
  have x2 : sgn t (N * 2 ^ (f + 11)) = sgn t (N * 2 ^ (f - g)) * ((2 ^ (g + 11) : Nat) : Int) := by
    rw [sgn_mul, Nat.mul_assoc, ← Nat.pow_add]; congr 3; omega
  rw [x1, x2, ← Int.add_mul] at hb ⊢
  generalize sgn s (K * 2 ^ (e - g)) + sgn t (N * 2 ^ (f - g)) = T at *
  have hp : 0 < 2 ^ (g + 11) := Nat.two_pow_pos _
  have hn : (T * ((2 ^ (g + 11) : Nat) : Int)).natAbs = T.natAbs * 2 ^ (g + 11) := by rw [Int.natAbs_mul, Int.natAbs_natCast]
  rw [hn] at hb ⊢
  obtain ⟨n, hfl, n1, n2⟩ := nearest_fl (if T = 0 then s && t else decide (T < 0)) T.natAbs (g + 11) j h1 h2 hb
  rw [show (-160 + ((g + 11 : Nat) : Int)) = -149 + (g : Int) by omega] at hfl
  refine ⟨_, _, rfl, hfl, ?_, ?_, ?_, ?_⟩
  · unfold sgn; split <;> omega
  · unfold sgn; split <;> omega
  · intro h
    have hT : 0 ≤ T := by
      refine Int.not_lt.1 (fun hlt => ?_)
      have := Int.mul_neg_of_neg_of_pos hlt (show (0 : Int) < ((2 ^ (g + 11) : Nat) : Int) by omega)
      omega
    by_cases h0 : T = 0
    · have : n = 0 := by rw [h0] at n2; simpa using n2
      rw [this]; unfold sgn; split <;> omega
    · rw [if_neg h0, decide_eq_false (by omega)]; unfold sgn; simp
  · intro h
    have hT : T ≤ 0 := by
      refine Int.not_lt.1 (fun hlt => ?_)
      have := Int.mul_pos hlt (show (0 : Int) < ((2 ^ (g + 11) : Nat) : Int) by omega)
      omega
    by_cases h0 : T = 0
    · have : n = 0 := by rw [h0] at n2; simpa using n2
      rw [this]; unfold sgn; split <;> omega
    · rw [if_neg h0, decide_eq_true (by omega)]; unfold sgn; simp
theorem add_fl {x y : Nat} {a b : Int} (hx : Fl x a) (hy : Fl y b) {j : Nat} (h1 : 11 ≤ j) (h2 : j ≤ 230) (hb : (a + b).natAbs ≤ 2 ^ j) :
    ∃ r v, single.add x y = some r ∧ Fl r v ∧ v.natAbs ≤ 2 ^ j ∧ v.natAbs ≤ 2 * (a + b).natAbs ∧ (0 ≤ a + b → 0 ≤ v) ∧ (a + b ≤ 0 → v ≤ 0) := by
  obtain ⟨s, K, e, hr, rfl⟩ := hx
  obtain ⟨t, N, f, hs, rfl⟩ := hy
  unfold Format.add
  rw [hr, hs]
  exact sum_fl h1 h2 hb
theorem sub_fl {x y : Nat} {a b : Int} (hx : Fl x a) (hy : Fl y b) {j : Nat} (h1 : 11 ≤ j) (h2 : j ≤ 230) (hb : (a - b).natAbs ≤ 2 ^ j) :
    ∃ r v, single.sub x y = some r ∧ Fl r v ∧ v.natAbs ≤ 2 ^ j ∧ v.natAbs ≤ 2 * (a - b).natAbs ∧ (0 ≤ a - b → 0 ≤ v) ∧ (a - b ≤ 0 → v ≤ 0) := by
  obtain ⟨s, K, e, hr, rfl⟩ := hx
  obtain ⟨t, N, f, hs, rfl⟩ := hy
  unfold Format.sub
  rw [hr, hs]
  show ∃ r v, ((Datum.number s K (-149 + (e : Int))).sum (.number (!t) N (-149 + (f : Int)))).map single.write = some r ∧ _
  have hh := @sum_fl s (!t) K N e f j h1 h2
  rw [sgn_not, ← Int.sub_eq_add_neg] at hh
  exact hh hb
/-- parts: through 2 ^ k. -/
theorem div_fl {x : Nat} {a : Int} (hx : Fl x a) {j k c : Nat} (hk : k ≤ 11) (h1 : 11 ≤ j) (h2 : j ≤ 230) (hb : a.natAbs ≤ 2 ^ j) (hc : single.read c = .number false 8388608 ((k : Int) - 23)) :
    ∃ r v, single.div x c = some r ∧ Fl r v ∧ v.natAbs ≤ 2 ^ j ∧ v.natAbs * 2 ^ k ≤ 2 * a.natAbs ∧ (0 ≤ a → 0 ≤ v) ∧ (a ≤ 0 → v ≤ 0) := by
  obtain ⟨s, K, e, hr, rfl⟩ := hx
  unfold Format.div
  rw [hr, hc, fields32.1]
  unfold Datum.quotient
  dsimp only
  rw [if_neg (by decide), show Nat.log2 8388608 = 23 by decide, Bool.xor_false]
  have hna : (sgn s (K * 2 ^ (e + 11))).natAbs = K * 2 ^ (e + 11) := by unfold sgn; split <;> omega
  rw [hna] at hb ⊢
  by_cases hK : K = 0
  · subst hK
    refine ⟨_, sgn s 0, rfl, ?_, ?_, ?_, ?_, ?_⟩
    · rw [show (2 * (0 <<< (23 + 2 + 23 - Nat.log2 0) / 8388608) + ((0 <<< (23 + 2 + 23 - Nat.log2 0) % 8388608 != 0).toNat)) = 0 by decide]
      refine ⟨s, 0, 0, ?_, ?_⟩
      · show single.read (single.nearest s 0 _) = _
        unfold Format.nearest
        rw [if_pos rfl]
        cases s <;> decide
      · simp
    · unfold sgn; split <;> simp
    · unfold sgn; split <;> simp
    · intro _; unfold sgn; split <;> simp
    · intro _; unfold sgn; split <;> simp
  have hm : ∃ m : Nat, 23 + 2 + 23 - K.log2 = 23 + m ∨ 23 + 2 + 23 - K.log2 < 23 := by
    by_cases h : 23 ≤ 23 + 2 + 23 - K.log2
    · exact ⟨23 + 2 - K.log2, .inl (by omega)⟩
    · exact ⟨0, .inr (by omega)⟩
  have hlog : K.log2 ≤ 23 := by
    have hlt : K < 16777216 := by
      have h := single.read x
      unfold Format.read at hr
      dsimp only at hr
      rw [fields32.2.1, fields32.2.2.1, fields32.2.2.2.1, fields32.2.2.2.2] at hr
      split at hr
      · injection hr with _ hr; omega
      · split at hr
        · injection hr with _ hr; omega
        · split at hr
          · cases hr
          · cases hr
    have := (Nat.log2_lt hK (k := 24)).2 hlt
    omega
  obtain ⟨m, hm⟩ := hm
  have hm : 23 + 2 + 23 - K.log2 = 23 + m := by omega
  rw [hm, Nat.shiftLeft_eq]
  have e0 : K * 2 ^ (23 + m) = K * 2 ^ m * 8388608 := by
    rw [Nat.add_comm, Nat.pow_add, ← Nat.mul_assoc]
  rw [e0, Nat.mul_div_cancel _ (by decide), Nat.mul_mod_left]
  have e1 : 2 * (K * 2 ^ m) + ((0 : Nat) != 0).toNat = K * 2 ^ (m + 1) := by
    rw [show ((0 : Nat) != 0).toNat = 0 by decide, Nat.add_zero, Nat.pow_succ, Nat.mul_comm 2, Nat.mul_assoc]
  rw [e1]
  have e2 : single.nearest s (K * 2 ^ (m + 1)) (-149 + (e : Int) - ((k : Int) - 23) - ((23 + m : Nat) : Int) - 1) = single.nearest s K (-160 + ((e + 11 - k : Nat) : Int)) := by
    rw [← nearest_shift single s (m + 1) (-160 + ((e + 11 - k : Nat) : Int)) (by omega)]
    congr 1; omega
  have hp : K * 2 ^ (e + 11 - k) * 2 ^ k = K * 2 ^ (e + 11) := by rw [Nat.mul_assoc, ← Nat.pow_add]; congr 2; omega
  have hle : K * 2 ^ (e + 11 - k) ≤ 2 ^ j := by
    refine Nat.le_trans ?_ hb
    rw [← hp]
    exact Nat.le_mul_of_pos_right _ (Nat.two_pow_pos k)
  obtain ⟨n, hfl, n1, n2⟩ := nearest_fl s K (e + 11 - k) j h1 h2 hle
  rw [← e2] at hfl
  refine ⟨_, _, rfl, hfl, ?_, ?_, ?_, ?_⟩
  · unfold sgn; split <;> omega
  · have : n * 2 ^ k ≤ 2 * (K * 2 ^ (e + 11 - k)) * 2 ^ k := Nat.mul_le_mul_right _ n2
    rw [Nat.mul_assoc 2, hp] at this
    have hn : (sgn s n).natAbs = n := by unfold sgn; split <;> omega
    rw [hn]; exact this
  · intro h
    have hpos : 0 < K * 2 ^ (e + 11) := Nat.mul_pos (by omega) (Nat.two_pow_pos _)
    cases s
    · unfold sgn; simp
    · unfold sgn at h; simp only [if_true] at h; omega
  · intro h
    have hpos : 0 < K * 2 ^ (e + 11) := Nat.mul_pos (by omega) (Nat.two_pow_pos _)
    cases s
    · unfold sgn at h; simp only [Bool.false_eq_true, if_false] at h; omega
    · unfold sgn; simp
/-- four times as much. -/
theorem mul_fl {x : Nat} {a : Int} (hx : Fl x a) {j k c : Nat} (h1 : 11 ≤ j) (h2 : j ≤ 230) (hb : a.natAbs * 2 ^ k ≤ 2 ^ j) (hc : single.read c = .number false 8388608 ((k : Int) - 23)) :
    ∃ r v, single.mul c x = some r ∧ Fl r v ∧ v.natAbs ≤ 2 ^ j ∧ (0 ≤ a → 0 ≤ v) := by
  obtain ⟨s, K, e, hr, rfl⟩ := hx
  unfold Format.mul
  rw [hr, hc]
  unfold Datum.product
  dsimp only
  rw [Bool.false_xor]
  have hna : (sgn s (K * 2 ^ (e + 11))).natAbs = K * 2 ^ (e + 11) := by unfold sgn; split <;> omega
  rw [hna] at hb
  by_cases hK : K = 0
  · subst hK
    refine ⟨_, sgn s 0, rfl, ⟨s, 0, 0, ?_, by simp⟩, ?_, ?_⟩
    · show single.read (single.nearest s (8388608 * 0) _) = _
      unfold Format.nearest
      rw [if_pos (Nat.mul_zero _)]
      cases s <;> decide
    · unfold sgn; split <;> simp
    · intro _; unfold sgn; split <;> simp
  have e2 : single.nearest s (8388608 * K) ((k : Int) - 23 + (-149 + (e : Int))) = single.nearest s K (-160 + ((e + 11 + k : Nat) : Int)) := by
    rw [← nearest_shift single s 23 (-160 + ((e + 11 + k : Nat) : Int)) (by omega), Nat.mul_comm]
    congr 1; omega
  obtain ⟨n, hfl, n1, n2⟩ := nearest_fl s K (e + 11 + k) j h1 h2 (by rw [Nat.pow_add, ← Nat.mul_assoc]; exact hb)
  rw [← e2] at hfl
  refine ⟨_, _, rfl, hfl, ?_, ?_⟩
  · unfold sgn; split <;> omega
  · intro h
    have hpos : 0 < K * 2 ^ (e + 11) := Nat.mul_pos (by omega) (Nat.two_pow_pos _)
    cases s
    · unfold sgn; simp
    · unfold sgn at h; simp only [if_true] at h; omega
theorem order_fl {x y : Nat} {a b : Int} (hx : Fl x a) (hy : Fl y b) : single.order x y = some (compare a b) := by
  obtain ⟨s, K, e, hr, rfl⟩ := hx
  obtain ⟨t, N, f, hs, rfl⟩ := hy
  unfold Format.order
  rw [hr, hs]
  unfold Datum.order
  dsimp only
  obtain ⟨g, hg, e1, f1⟩ : ∃ g : Nat, min (-149 + (e : Int)) (-149 + (f : Int)) = -149 + (g : Int) ∧ g ≤ e ∧ g ≤ f := ⟨min e f, by omega, by omega, by omega⟩
  rw [hg, show (-149 + (e : Int) - (-149 + (g : Int))).toNat = e - g by omega, show (-149 + (f : Int) - (-149 + (g : Int))).toNat = f - g by omega, signed_sgn, signed_sgn]
  have x1 : sgn s (K * 2 ^ (e + 11)) = sgn s (K * 2 ^ (e - g)) * ((2 ^ (g + 11) : Nat) : Int) := by
    rw [sgn_mul, Nat.mul_assoc, ← Nat.pow_add]; congr 3; omega
  have x2 : sgn t (N * 2 ^ (f + 11)) = sgn t (N * 2 ^ (f - g)) * ((2 ^ (g + 11) : Nat) : Int) := by
    rw [sgn_mul, Nat.mul_assoc, ← Nat.pow_add]; congr 3; omega
  rw [x1, x2]
  have hp : (0 : Int) < ((2 ^ (g + 11) : Nat) : Int) := by have := Nat.two_pow_pos (g + 11); omega
  generalize ((2 ^ (g + 11) : Nat) : Int) = p at *
  generalize sgn s (K * 2 ^ (e - g)) = A
  generalize sgn t (N * 2 ^ (f - g)) = B
  congr 1
  rcases Int.lt_trichotomy A B with h | h | h
  · rw [Int.compare_eq_lt.2 h, Int.compare_eq_lt.2 (Int.mul_lt_mul_of_pos_right h hp)]
  · subst h; rw [Int.compare_eq_eq.2 rfl, Int.compare_eq_eq.2 rfl]
  · rw [Int.compare_eq_gt.2 h, Int.compare_eq_gt.2 (Int.mul_lt_mul_of_pos_right h hp)]
/-- the word of a whole number. -/
theorem whole_fl (n : Nat) (hn : n ≤ 1048576) : ∃ v, Fl (floatOfInt .f32 (n : Int)) v ∧ 0 ≤ v ∧ v.natAbs ≤ 2 ^ 180 := by
  obtain ⟨m, hfl, m1, _⟩ := nearest_fl false n 160 180 (by decide) (by decide) (by
    rw [show 2 ^ 180 = 1048576 * 2 ^ 160 by decide]
    exact Nat.mul_le_mul_right _ hn)
  have e : floatOfInt .f32 (n : Int) = single.nearest false n (-160 + ((160 : Nat) : Int)) := by
    show single.nearest (decide ((n : Int) < 0)) (n : Int).natAbs 0 = _
    rw [decide_eq_false (by omega), Int.natAbs_natCast]
    rfl
  rw [e]
  exact ⟨_, hfl, by unfold sgn; simp, by unfold sgn; simpa using m1⟩
/-- made whole, towards nought. -/
theorem toInt_fl {r : Nat} {v : Int} (h : Fl r v) (h0 : 0 ≤ v) (h1 : v < 2 ^ 180) : ∃ n : Nat, n ≤ 1048576 ∧ floatToIntVal .f32 r .i64 = some (n : Int) := by
  obtain ⟨s, K, e, hr, rfl⟩ := h
  have hz : K * 2 ^ (e + 11) < 2 ^ 180 ∧ (s = true → K = 0) := by
    have hp : 0 < 2 ^ (e + 11) := Nat.two_pow_pos _
    cases s
    · unfold sgn at h1
      simp only [Bool.false_eq_true, if_false] at h1
      exact ⟨by have : ((K * 2 ^ (e + 11) : Nat) : Int) < ((2 ^ 180 : Nat) : Int) := h1; omega, by simp⟩
    · unfold sgn at h0
      simp only [if_true] at h0
      have : K * 2 ^ (e + 11) = 0 := by omega
      exact ⟨by rw [this]; decide, fun _ => by rcases Nat.mul_eq_zero.1 this with h | h <;> omega⟩
  have hread : FloatKind.f32.decode r = .number s K (-149 + (e : Int)) := hr
  unfold floatToIntVal
  rw [hread]
  unfold Datum.toInt Datum.integral
  dsimp only
  have hcut : ∃ n : Nat, n ≤ 1048576 ∧ Toward.zero.cut s (K <<< (-149 + (e : Int)).toNat) (-(-149 + (e : Int))).toNat = n ∧ (s = true → n = 0) := by
    refine ⟨_, ?_, rfl, ?_⟩
    · unfold Toward.cut
      dsimp only
      rw [show (false).toNat = 0 from rfl, Nat.add_zero, Nat.shiftLeft_eq, Nat.shiftLeft_eq, Nat.one_mul]
      by_cases hc : 149 ≤ e
      · rw [show (-(-149 + (e : Int))).toNat = 0 by omega, Nat.zero_min, Nat.pow_zero, Nat.div_one, show (-149 + (e : Int)).toNat = e - 149 by omega]
        have e1 : K * 2 ^ (e + 11) = K * 2 ^ (e - 149) * 2 ^ 160 := by rw [Nat.mul_assoc, ← Nat.pow_add]; congr 2; omega
        have h2 := hz.1
        rw [e1, show 2 ^ 180 = 1048576 * 2 ^ 160 by decide] at h2
        exact Nat.le_of_lt (Nat.lt_of_mul_lt_mul_right h2)
      · rw [show (-149 + (e : Int)).toNat = 0 by omega, show (-(-149 + (e : Int))).toNat = 149 - e by omega, Nat.pow_zero, Nat.mul_one]
        by_cases hd : 149 - e ≤ K.log2 + 2
        · rw [Nat.min_eq_left hd]
          have h2 : K < 1048576 * 2 ^ (149 - e) := by
            have e1 : 1048576 * 2 ^ (149 - e) * 2 ^ (e + 11) = 2 ^ 180 := by
              rw [Nat.mul_assoc, ← Nat.pow_add, show 149 - e + (e + 11) = 160 by omega]
            have := hz.1
            rw [← e1] at this
            exact Nat.lt_of_mul_lt_mul_right this
          exact Nat.le_of_lt (Nat.div_lt_of_lt_mul (by rw [Nat.mul_comm]; exact h2))
        · rw [Nat.min_eq_right (by omega)]
          have h0 := @Nat.lt_log2_self K
          have h1 : 2 ^ (K.log2 + 2) = 2 * 2 ^ (K.log2 + 1) := by rw [Nat.pow_succ 2 (K.log2 + 1), Nat.mul_comm]
          rw [Nat.div_eq_of_lt (by omega)]
          decide
    · intro hs
      rw [hz.2 hs, Nat.shiftLeft_eq, Nat.zero_mul]
      unfold Toward.cut
      dsimp only
      rw [Nat.zero_div]
      rfl
  obtain ⟨n, hn, hc, hs⟩ := hcut
  refine ⟨n, hn, ?_⟩
  rw [hc, signed_sgn, Nat.pow_zero, Nat.mul_one]
  have : sgn s n = (n : Int) := by
    unfold sgn
    cases s
    · simp
    · simp [hs rfl]
  rw [this, if_pos]
  refine ⟨?_, ?_⟩
  · show (-9223372036854775808 : Int) ≤ n; omega
  · show (n : Int) ≤ 9223372036854775807; omega
theorem neg_fl {r : Nat} {v : Int} (h : Fl r v) : Fl (Op.negFloat .f32 r) (-v) := by
  obtain ⟨s, K, e, hr, rfl⟩ := h
  refine ⟨!s, K, e, ?_, (sgn_not _ _).symm⟩
  obtain ⟨f1, f2, f3, f4, f5⟩ := fields32
  have e1 : (r ^^^ 2147483648) % 2147483648 = r % 2147483648 := by
    have := @Nat.xor_mod_two_pow r 2147483648 31
    rw [show (2 : Nat) ^ 31 = 2147483648 by decide] at this
    rw [this, show 2147483648 % 2147483648 = 0 by decide, Nat.xor_zero]
  have e2 : (r ^^^ 2147483648) / 2147483648 % 2 = 1 - r / 2147483648 % 2 := by
    have h1 := @Nat.xor_div_two_pow r 2147483648 31
    rw [show (2 : Nat) ^ 31 = 2147483648 by decide] at h1
    rw [h1, show 2147483648 / 2147483648 = 1 by decide]
    have h2 := @Nat.xor_mod_two_pow (r / 2147483648) 1 1
    rw [Nat.pow_one] at h2
    rw [h2]
    have h3 : r / 2147483648 % 2 < 2 := Nat.mod_lt _ (by decide)
    generalize r / 2147483648 % 2 = b at *
    match b, h3 with
    | 0, _ => decide
    | 1, _ => decide
  have e3 : ((r ^^^ 2147483648) / 2147483648 % 2 == 1) = !(r / 2147483648 % 2 == 1) := by
    rw [e2]
    have h3 : r / 2147483648 % 2 < 2 := Nat.mod_lt _ (by decide)
    generalize r / 2147483648 % 2 = b at *
    match b, h3 with
    | 0, _ => decide
    | 1, _ => decide
  show single.read (r ^^^ 2 ^ 31) = _
  rw [show (2 : Nat) ^ 31 = 2147483648 by decide]
  unfold Format.read at hr ⊢
  rw [f2, f3, f4, f5] at hr ⊢
  dsimp only at hr ⊢
  rw [e1, e3]
  generalize r % 2147483648 = g at *
  generalize (r / 2147483648 % 2 == 1) = t at *
  split at hr
  · rename_i h1
    rw [if_pos h1]
    injection hr with h2 h3 h4
    rw [h2, h3, ← h4]
  · rename_i h1
    rw [if_neg h1]
    split at hr
    · rename_i h5
      rw [if_pos h5]
      injection hr with h2 h3 h4
      rw [h2, h3, ← h4]
    · split at hr <;> cases hr
end Go.Proofs.YtbegjpmifcnieaaGreatDoor

/- How long answers take: a meter's numbers stay within bounds; package pace's Meter and callboxref16's. -/
namespace Go.Proofs.YtbegjpmifcnieaaGreatDoor
open Go.RowKit Ieee
set_option linter.unusedVariables false
set_option linter.unusedSimpArgs false

/-- a number of a meter's: from nought to 2 ^ 20. -/
def MetNum (r : Nat) : Prop := ∃ v, Fl r v ∧ 0 ≤ v ∧ v.natAbs ≤ 2 ^ 180
theorem fl_zero : Fl 0 0 := ⟨false, 0, 0, by decide, by decide⟩
theorem metNum_zero : MetNum 0 := ⟨0, fl_zero, by decide, by decide⟩
def tickF (t : Int) : Nat := floatOfInt .f32 (max 0 (min t 1048576))
theorem tick_num (t : Int) : MetNum (tickF t) := by
  obtain ⟨n, hn, h⟩ : ∃ n : Nat, n ≤ 1048576 ∧ max 0 (min t 1048576) = (n : Int) := ⟨(max 0 (min t 1048576)).toNat, by omega, by omega⟩
  unfold tickF
  rw [h]
  exact whole_fl n hn
def absF (e : Nat) : Nat := if single.order e 0 = some .lt then Op.negFloat .f32 e else e
theorem abs_fl {e : Nat} {v : Int} (h : Fl e v) : ∃ u, Fl (absF e) u ∧ 0 ≤ u ∧ u.natAbs = v.natAbs := by
  unfold absF
  rw [order_fl h fl_zero]
  by_cases hv : v < 0
  · rw [Int.compare_eq_lt.2 hv, if_pos rfl]
    exact ⟨-v, neg_fl h, by omega, by omega⟩
  · rw [if_neg (fun e => hv (Int.compare_eq_lt.1 (Option.some.inj e)))]
    exact ⟨v, h, by omega, rfl⟩
theorem half_step {x : Nat} (hx : MetNum x) : ∃ h, single.div x 1073741824 = some h ∧ MetNum h := by
  obtain ⟨v, fv, v0, v1⟩ := hx
  obtain ⟨r, u, hr, fu, u1, u2, u3, _⟩ := div_fl fv (k := 1) (j := 180) (c := 1073741824) (by decide) (by decide) (by decide) v1 (by decide)
  exact ⟨r, hr, u, fu, u3 v0, u1⟩
/-- a number goes a part of the way to another one. -/
theorem way_step {m x : Nat} (hm : MetNum m) (hx : MetNum x) (k c : Nat) (hk : 2 ≤ k) (hk2 : k ≤ 11) (hc : single.read c = .number false 8388608 ((k : Int) - 23)) :
    ∃ e p r, single.sub x m = some e ∧ single.div e c = some p ∧ single.add m p = some r ∧ MetNum r ∧ ∃ v, Fl e v ∧ v.natAbs ≤ 2 ^ 180 := by
  obtain ⟨a, fa, a0, a1⟩ := hm
  obtain ⟨b, fb, b0, b1⟩ := hx
  have hB : (b - a).natAbs ≤ 2 ^ 180 := by generalize 2 ^ 180 = B at *; omega
  obtain ⟨e, ve, he, fe, e1, e2, e3, e4⟩ := sub_fl fb fa (j := 180) (by decide) (by decide) hB
  obtain ⟨p, vp, hp, fp, p1, p2, p3, p4⟩ := div_fl fe hk2 (j := 180) (by decide) (by decide) e1 hc
  have hq : vp.natAbs * 4 ≤ 2 * ve.natAbs := Nat.le_trans (Nat.mul_le_mul_left _ (show 2 ^ 2 ≤ 2 ^ k from Nat.pow_le_pow_right (by decide) hk)) p2
  have hpos : 0 ≤ a + vp ∧ (a + vp).natAbs ≤ 2 ^ 180 := by
    generalize 2 ^ 180 = B at *
    by_cases h : a ≤ b
    · have h1 := p3 (e3 (by omega))
      omega
    · have h1 := p4 (e4 (by omega))
      omega
  obtain ⟨r, vr, hr, fr, r1, _, r3, _⟩ := add_fl fa fp (j := 180) (by decide) (by decide) hpos.2
  exact ⟨e, p, r, he, hp, hr, ⟨vr, fr, r3 hpos.1, r1⟩, ve, fe, e1⟩
theorem abs_num {e : Nat} (h : ∃ v, Fl e v ∧ v.natAbs ≤ 2 ^ 180) : MetNum (absF e) := by
  obtain ⟨v, fv, h1⟩ := h
  obtain ⟨u, fu, u0, e⟩ := abs_fl fv
  exact ⟨u, fu, u0, by rw [e]; exact h1⟩

structure MetM where
  heard : Bool
  mean : Nat
  spread : Nat
structure MetM.Ok (m : MetM) : Prop where
  mn : MetNum m.mean
  sp : MetNum m.spread
def MetM.hear (m : MetM) (t : Int) : MetM :=
  if m.heard = true then
    ⟨true, (single.add m.mean ((single.div ((single.sub (tickF t) m.mean).getD 0) 1090519040).getD 0)).getD 0,
      (single.add m.spread ((single.div ((single.sub (absF ((single.sub (tickF t) m.mean).getD 0)) m.spread).getD 0) 1082130432).getD 0)).getD 0⟩
  else ⟨true, tickF t, (single.div (tickF t) 1073741824).getD 0⟩
/-- the steps, one by one: none asks for bits. -/
theorem MetM.hear_first {m : MetM} (t : Int) (h : m.heard = false) : ∃ s, single.div (tickF t) 1073741824 = some s ∧ m.hear t = ⟨true, tickF t, s⟩ ∧ (m.hear t).Ok := by
  obtain ⟨s, hs, hn⟩ := half_step (tick_num t)
  have e : m.hear t = ⟨true, tickF t, s⟩ := by
    unfold MetM.hear
    rw [if_neg (by rw [h]; decide), hs]; rfl
  exact ⟨s, hs, e, by rw [e]; exact ⟨tick_num t, hn⟩⟩
theorem MetM.hear_next {m : MetM} (t : Int) (h : m.heard = true) (ho : m.Ok) : ∃ e p r d q s, single.sub (tickF t) m.mean = some e ∧ single.div e 1090519040 = some p ∧ single.add m.mean p = some r ∧
    single.sub (absF e) m.spread = some d ∧ single.div d 1082130432 = some q ∧ single.add m.spread q = some s ∧ (∃ c, single.order e 0 = some c) ∧ m.hear t = ⟨true, r, s⟩ ∧ (m.hear t).Ok := by
  obtain ⟨e, p, r, h1, h2, h3, h4, h5⟩ := way_step ho.mn (tick_num t) 3 1090519040 (by decide) (by decide) (by decide)
  obtain ⟨d, q, s, k1, k2, k3, k4, _⟩ := way_step ho.sp (abs_num h5) 2 1082130432 (by decide) (by decide) (by decide)
  have e0 : m.hear t = ⟨true, r, s⟩ := by
    unfold MetM.hear
    rw [if_pos h, h1]
    simp only [Option.getD_some]
    rw [h2]
    simp only [Option.getD_some]
    rw [h3, k1]
    simp only [Option.getD_some]
    rw [k2]
    simp only [Option.getD_some]
    rw [k3]
    rfl
  obtain ⟨v, fv, _⟩ := h5
  exact ⟨e, p, r, d, q, s, h1, h2, h3, k1, k2, k3, ⟨_, order_fl fv fl_zero⟩, e0, by rw [e0]; exact ⟨h4, k4⟩⟩
def MetM.sum (m : MetM) : Nat := (single.add m.mean ((single.mul 1082130432 m.spread).getD 0)).getD 0
def MetM.guess (m : MetM) : Int :=
  if m.heard = true then
    (if single.order m.sum 1233125376 = some .gt ∨ single.order m.sum 1233125376 = some .eq then 1048576
     else (if single.order (floatOfInt .f32 ((floatToIntVal .f32 m.sum .i64).getD 0)) m.sum = some .lt then (floatToIntVal .f32 m.sum .i64).getD 0 + 1 else (floatToIntVal .f32 m.sum .i64).getD 0))
  else 0
theorem fl_bound : Fl 1233125376 (2 ^ 180) := ⟨false, 8388608, 146, by decide, by decide⟩
theorem MetM.sum_steps {m : MetM} (ho : m.Ok) : ∃ f g v, single.mul 1082130432 m.spread = some f ∧ single.add m.mean f = some g ∧ m.sum = g ∧ Fl g v ∧ 0 ≤ v := by
  obtain ⟨a, fa, a0, a1⟩ := ho.mn
  obtain ⟨b, fb, b0, b1⟩ := ho.sp
  obtain ⟨f, vf, hf, ff, f1, f2⟩ := mul_fl fb (k := 2) (j := 182) (c := 1082130432) (by decide) (by decide) (by rw [show 2 ^ 182 = 2 ^ 180 * 2 ^ 2 by decide]; exact Nat.mul_le_mul_right _ b1) (by decide)
  have hb : (a + vf).natAbs ≤ 2 ^ 184 := by
    rw [show 2 ^ 182 = 4 * 2 ^ 180 by decide] at f1
    rw [show 2 ^ 184 = 16 * 2 ^ 180 by decide]
    generalize 2 ^ 180 = B at *
    omega
  obtain ⟨g, vg, hg, fg, _, _, g3, _⟩ := add_fl fa ff (j := 184) (by decide) (by decide) hb
  refine ⟨f, g, vg, hf, hg, ?_, fg, g3 (by have := f2 b0; omega)⟩
  unfold MetM.sum
  rw [hf, Option.getD_some, hg, Option.getD_some]
theorem MetM.guess_far {m : MetM} (h : m.heard = true) (hc : single.order m.sum 1233125376 = some .gt ∨ single.order m.sum 1233125376 = some .eq) : m.guess = 1048576 := by
  unfold MetM.guess
  rw [if_pos h, if_pos hc]
/-- below the bound it is made whole. -/
theorem MetM.guess_near {m : MetM} (ho : m.Ok) (h : m.heard = true) (hc : ¬ (single.order m.sum 1233125376 = some .gt ∨ single.order m.sum 1233125376 = some .eq)) :
    ∃ n : Nat, n ≤ 1048576 ∧ floatToIntVal .f32 m.sum .i64 = some (n : Int) ∧ (∃ c, single.order (floatOfInt .f32 (n : Int)) m.sum = some c) ∧ m.guess = (if single.order (floatOfInt .f32 (n : Int)) m.sum = some .lt then (n : Int) + 1 else n) := by
  obtain ⟨f, g, v, _, _, hs, fg, v0⟩ := MetM.sum_steps ho
  rw [← hs] at fg
  have ho2 := order_fl fg fl_bound
  have hv : v < 2 ^ 180 := by
    refine Int.not_le.1 (fun hle => hc ?_)
    rw [ho2]
    rcases Int.lt_or_eq_of_le hle with h | h
    · left; rw [Int.compare_eq_gt.2 h]
    · right; rw [Int.compare_eq_eq.2 h.symm]
  obtain ⟨n, hn, hi⟩ := toInt_fl fg v0 hv
  obtain ⟨u, fu, _, _⟩ := whole_fl n hn
  refine ⟨n, hn, hi, ⟨_, order_fl fu fg⟩, ?_⟩
  unfold MetM.guess
  rw [if_pos h, if_neg hc, hi, Option.getD_some]

theorem run_fq {P : Program} {x y r : Nat} (h : single.div x y = some r) : ∀ (t : TypeId) (w : World), (binOp .quo t (.float .f32 x) (.float .f32 y)).run P w = .ok (.float .f32 r) w := fun t w => run_float_arith w .quo t .f32 x y r h
theorem run_fa {P : Program} {x y r : Nat} (h : single.add x y = some r) : ∀ (t : TypeId) (w : World), (binOp .add t (.float .f32 x) (.float .f32 y)).run P w = .ok (.float .f32 r) w := fun t w => run_float_arith w .add t .f32 x y r h
theorem run_fs {P : Program} {x y r : Nat} (h : single.sub x y = some r) : ∀ (t : TypeId) (w : World), (binOp .sub t (.float .f32 x) (.float .f32 y)).run P w = .ok (.float .f32 r) w := fun t w => run_float_arith w .sub t .f32 x y r h
theorem run_fm {P : Program} {x y r : Nat} (h : single.mul x y = some r) : ∀ (t : TypeId) (w : World), (binOp .mul t (.float .f32 x) (.float .f32 y)).run P w = .ok (.float .f32 r) w := fun t w => run_float_arith w .mul t .f32 x y r h
section
variable {P : Program} (w : World) (a : Addr) (m : Mode)
@[go_sem] theorem run_store_float (k : FloatKind) (b : Nat) : (store a (.float k b) m).run P w = stored P w a (.float k b) m := run_store P w a _ m rfl
end
@[go_sem] theorem run_neg_f {P : Program} (k : FloatKind) (b : Nat) (w : World) : (Op.unary .neg (.float k b)).run P w = .ok (.float k (Op.negFloat k b)) w := rfl
end Go.Proofs.YtbegjpmifcnieaaGreatDoor

/- package pace's Meter, walked. -/
namespace Go.Proofs.YtbegjpmifcnieaaGreatDoor
open Go.RowKit
set_option linter.unusedVariables false
set_option linter.unusedSimpArgs false

set_option maxRecDepth 100000 in
set_option maxHeartbeats 1000000 in
theorem MHear_any {w : World} {b : Nat} {m : MetM} (t : Int) (hb : w.heap[b]? = some (.cells #[.bool m.heard, .float .f32 m.mean, .float .f32 m.spread] 254 (0, 0))) (ho : m.Ok) :
    Calls Tryz.prog 156 #[.pointer (some ⟨b, 0, none⟩), .int .i64 t] w fun r w' => r = .returned (.tuple #[]) ∧ w'.heap[b]? = some (.cells #[.bool (m.hear t).heard, .float .f32 (m.hear t).mean, .float .f32 (m.hear t).spread] 254 (0, 0)) ∧ Fr (fun k => k = b) w w' := by
  have x0 : w.cell? ⟨b, 0, none⟩ = some (.bool m.heard) := cellOf hb 0
  have x1 : w.cell? ⟨b, 1, none⟩ = some (.float .f32 m.mean) := cellOf hb 1
  have x2 : w.cell? ⟨b, 2, none⟩ = some (.float .f32 m.spread) := cellOf hb 2
  have f0 : w.frozen? ⟨b, 0, none⟩ = false := freeOf hb 0
  have f1 : w.frozen? ⟨b, 1, none⟩ = false := freeOf hb 1
  have f2 : w.frozen? ⟨b, 2, none⟩ = false := freeOf hb 2
  have HB := Lib.hid hb
  have HX : Hid ((t ≤ 0 → floatOfInt .f32 0 = tickF t) ∧ (0 ≤ t → t ≤ 1048576 → floatOfInt .f32 t = tickF t) ∧ (1048576 ≤ t → floatOfInt .f32 1048576 = tickF t)) := Lib.hid (by
    unfold tickF
    exact ⟨fun h => by rw [show max 0 (min t 1048576) = 0 by omega], fun h1 h2 => by rw [show max 0 (min t 1048576) = t by omega], fun h => by rw [show max 0 (min t 1048576) = 1048576 by omega]⟩)
  clear hb
  by_cases hh : m.heard = true
  · obtain ⟨e, p, r, d, q, s, h1, h2, h3, h4, h5, h6, ⟨c, h7⟩, h8, _⟩ := MetM.hear_next t hh ho
    have q1 := run_fs (P := Tryz.prog) h1
    have q2 := run_fq (P := Tryz.prog) h2
    have q3 := run_fa (P := Tryz.prog) h3
    have q4 := run_fs (P := Tryz.prog) h4
    have q5 := run_fq (P := Tryz.prog) h5
    have q6 := run_fa (P := Tryz.prog) h6
    rw [h8]
    rw [hh] at x0 HB
    have HF : Hid (absF e = if c = .lt then Op.negFloat .f32 e else e) := Lib.hid (by unfold absF; rw [h7]; simp)
    have h7 : FloatKind.f32.format.order e 0 = some c := h7
    clear h1 h2 h3 h4 h5 h6 h8 ho
    generalize tickF t = x at *
    by_cases hc : c = .lt
    · have e1 := HF.out.trans (if_pos hc)
      rw [e1] at q4
      subst hc
      clear HF e1
      go_enter Tryz.func156, Tryz.ntmps156
      go_upto_region 0 with fail
      go_cut [4] from 8 (fun v wx => v = .float .f32 x ∧ wx = w)
      case first =>
        go_wp2
        all_goals (
          go_meet
          case rel =>
            refine ⟨?_, rfl⟩
            first
              | rw [HX.out.1 (by omega)]
              | rw [HX.out.2.1 (by omega) (by omega)]
              | rw [HX.out.2.2 (by omega)])
      case rest =>
      obtain ⟨rfl, hwc⟩ := hcut
      obtain rfl : w = wc := hwc.symm
      go_wp2
      go_end0
      refine ⟨rfl, ?_, ?_⟩
      · exact ((setOf' (setOf' HB.out 1 _) 2 _).trans rfl)
      · exact ((Fr.refl (fun k => k = b) w).setCell (p := ⟨b, 1, none⟩) (.inl rfl) _).setCell (p := ⟨b, 2, none⟩) (.inl rfl) _
    · have e1 := HF.out.trans (if_neg hc)
      rw [e1] at q4
      have hc2 : (c == Ordering.lt) = false := beq_eq_false_iff_ne.2 hc
      clear HF e1 hc
      go_enter Tryz.func156, Tryz.ntmps156
      go_upto_region 0 with fail
      go_cut [4] from 8 (fun v wx => v = .float .f32 x ∧ wx = w)
      case first =>
        go_wp2
        all_goals (
          go_meet
          case rel =>
            refine ⟨?_, rfl⟩
            first
              | rw [HX.out.1 (by omega)]
              | rw [HX.out.2.1 (by omega) (by omega)]
              | rw [HX.out.2.2 (by omega)])
      case rest =>
      obtain ⟨rfl, hwc⟩ := hcut
      obtain rfl : w = wc := hwc.symm
      go_wp2
      go_end0
      refine ⟨rfl, ?_, ?_⟩
      · exact ((setOf' (setOf' HB.out 1 _) 2 _).trans rfl)
      · exact ((Fr.refl (fun k => k = b) w).setCell (p := ⟨b, 1, none⟩) (.inl rfl) _).setCell (p := ⟨b, 2, none⟩) (.inl rfl) _
  · rw [Bool.not_eq_true] at hh
    obtain ⟨s, h1, h2, _⟩ := MetM.hear_first t hh
    have q1 := run_fq (P := Tryz.prog) h1
    rw [h2]
    rw [hh] at x0 HB
    clear h1 h2 ho
    generalize tickF t = x at *
    go_enter Tryz.func156, Tryz.ntmps156
    go_upto_region 0 with fail
    go_cut [4] from 8 (fun v wx => v = .float .f32 x ∧ wx = w)
    case first =>
      go_wp2
      all_goals (
        go_meet
        case rel =>
          refine ⟨?_, rfl⟩
          first
            | rw [HX.out.1 (by omega)]
            | rw [HX.out.2.1 (by omega) (by omega)]
            | rw [HX.out.2.2 (by omega)])
    case rest =>
    obtain ⟨rfl, hwc⟩ := hcut
    obtain rfl : w = wc := hwc.symm
    go_wp2
    refine bodyPost_ret (results_none rfl _ _ _) rfl ⟨rfl, ?_, ?_⟩
    · exact (setOf' (setOf' (setOf' HB.out 0 _) 1 _) 2 _).trans rfl
    · exact (((Fr.refl (fun k => k = b) w).setCell (p := ⟨b, 0, none⟩) (.inl rfl) _).setCell (p := ⟨b, 1, none⟩) (.inl rfl) _).setCell (p := ⟨b, 2, none⟩) (.inl rfl) _

set_option maxRecDepth 100000 in
set_option maxHeartbeats 1000000 in
theorem MGuess_any {w : World} {b : Nat} {m : MetM} (hb : w.heap[b]? = some (.cells #[.bool m.heard, .float .f32 m.mean, .float .f32 m.spread] 254 (0, 0))) (ho : m.Ok) :
    Calls Tryz.prog 141 #[.pointer (some ⟨b, 0, none⟩)] w fun r w' => r = .returned (.int .i64 m.guess) ∧ w' = w := by
  have x0 : w.cell? ⟨b, 0, none⟩ = some (.bool m.heard) := cellOf hb 0
  have x1 : w.cell? ⟨b, 1, none⟩ = some (.float .f32 m.mean) := cellOf hb 1
  have x2 : w.cell? ⟨b, 2, none⟩ = some (.float .f32 m.spread) := cellOf hb 2
  clear hb
  by_cases hh : m.heard = true
  · rw [hh] at x0
    obtain ⟨f, g, v, h1, h2, h3, h4, h5⟩ := MetM.sum_steps ho
    have q1 := run_fm (P := Tryz.prog) h1
    have q2 := run_fa (P := Tryz.prog) h2
    by_cases hc : Ieee.single.order m.sum 1233125376 = some .gt ∨ Ieee.single.order m.sum 1233125376 = some .eq
    · rw [MetM.guess_far hh hc]
      rw [h3] at hc
      obtain ⟨c, hc1, hc2⟩ : ∃ c, FloatKind.f32.format.order g 1233125376 = some c ∧ (c == Ordering.gt || c == Ordering.eq) = true := by
        rcases hc with h | h
        · exact ⟨_, h, rfl⟩
        · exact ⟨_, h, rfl⟩
      clear hc h1 h2 h3 h4 h5 ho hh
      go_enter Tryz.func141, Tryz.ntmps141
      go_wp2
      go_ret
      exact ⟨rfl, rfl⟩
    · obtain ⟨n, hn, hi, ⟨k, hk⟩, hg⟩ := MetM.guess_near ho hh hc
      rw [hg]
      rw [h3] at hc hi hk ⊢
      obtain ⟨c, hc1, hc2⟩ : ∃ c, FloatKind.f32.format.order g 1233125376 = some c ∧ (c == Ordering.gt || c == Ordering.eq) = false := by
        refine ⟨_, order_fl h4 fl_bound, ?_⟩
        rw [order_fl h4 fl_bound] at hc
        cases h : compare v (2 ^ 180)
        · rfl
        · rw [h] at hc; exact absurd (.inr rfl) hc
        · rw [h] at hc; exact absurd (.inl rfl) hc
      have qc : ∀ w, (convert 238 3 (.float .f32 g)).run Tryz.prog w = .ok (.int .i64 (n : Int)) w := fun w => run_convert_float_int w 238 3 .f32 .i64 g (n : Int) (by kernel_rfl) Tryz.underlying3 hi
      have hk : FloatKind.f32.format.order (floatOfInt .f32 (n : Int)) g = some k := hk
      rw [show Ieee.single.order (floatOfInt .f32 (n : Int)) g = some k from hk]
      have hn : (n : Int) ≤ 1048576 := by omega
      have hn0 : (0 : Int) ≤ n := by omega
      clear hc h1 h2 h3 h4 h5 ho hh hi hg
      generalize (n : Int) = z at *
      by_cases hl : k = .lt
      · subst hl
        rw [if_pos rfl]
        go_enter Tryz.func141, Tryz.ntmps141
        go_wp2
        go_ret
        exact ⟨by go_num, rfl⟩
      · rw [if_neg (fun e => hl (Option.some.inj e))]
        have hl2 : (k == Ordering.lt) = false := beq_eq_false_iff_ne.2 hl
        clear hl
        go_enter Tryz.func141, Tryz.ntmps141
        go_wp2
        go_ret
        exact ⟨rfl, rfl⟩
  · rw [Bool.not_eq_true] at hh
    have hg : m.guess = 0 := by unfold MetM.guess; rw [if_neg (by rw [hh]; decide)]
    rw [hg]
    rw [hh] at x0
    clear ho hh hg
    go_enter Tryz.func141, Tryz.ntmps141
    go_wp2
    go_ret
    exact ⟨rfl, rfl⟩
end Go.Proofs.YtbegjpmifcnieaaGreatDoor
