/- The document's numbers (callboxref01): a number's sign; is it infinite? -/
import Derived.Test.YtlcjfafmmoncpaaGreatDoorIb
import Derived.Test.YtlcjfafmmoncpaaGreatDoorFa
namespace Go.Proofs.YtlcjfafmmoncpaaGreatDoor
open Go.RowKit
set_option linter.unusedVariables false
set_option linter.unusedSimpArgs false

theorem read_neg64 {r : Nat} (h : r < 9223372036854775808) : Ieee.double.read (9223372036854775808 + r) = (Ieee.double.read r).opposite := by
  obtain ⟨f1, f2, f3, f4, f5⟩ := fields64
  unfold Ieee.Format.read
  rw [f2, f3, f4, f5]
  dsimp only
  have e1 : (9223372036854775808 + r) / 9223372036854775808 % 2 = 1 := by omega
  have e2 : (9223372036854775808 + r) % 9223372036854775808 = r := by omega
  have e3 : r / 9223372036854775808 % 2 = 0 := by omega
  have e4 : r % 9223372036854775808 = r := by omega
  rw [e1, e2, e3, e4]
  split
  · rfl
  · split
    · rfl
    · split
      · rfl
      · rfl
/-- beside nought. -/
theorem ord_pos64 {r : Nat} (h0 : 0 < r) (h : r ≤ 9218868437227405312) : FloatKind.f64.format.order r 0 = some .gt := by
  by_cases hi : r = 9218868437227405312
  · subst hi; decide
  · obtain ⟨M, q, rfl, h1, h2, h3, h4, _⟩ := canon64 h0 (by omega)
    exact wd_zero64 h1 h2 ⟨h3, h4⟩
theorem ord_neg64 {r : Nat} (h0 : 0 < r) (h : r ≤ 9218868437227405312) : FloatKind.f64.format.order (9223372036854775808 + r) 0 = some .lt := by
  by_cases hi : r = 9218868437227405312
  · subst hi; decide
  · obtain ⟨M, q, rfl, h1, h2, h3, h4, _⟩ := canon64 h0 (by omega)
    obtain ⟨t, hr, h2, hlt⟩ := wd_read64 h1 h2 ⟨h3, h4⟩
    have hK0 : 0 < M * 2 ^ t := Nat.mul_pos h1 (Nat.two_pow_pos t)
    show (Ieee.double).order _ _ = _
    unfold Ieee.Format.order
    rw [read_neg64 (by omega), hr, show Ieee.double.read 0 = .number false 0 (-1074) by decide]
    unfold Ieee.Datum.opposite Ieee.Datum.order
    dsimp only
    unfold Ieee.signed
    simp only [Bool.not_false, if_true, Bool.false_eq_true, if_false, Nat.shiftLeft_eq, Nat.zero_mul]
    congr 1
    rw [Int.compare_eq_lt]
    have := Nat.mul_pos hK0 (Nat.two_pow_pos (q - (t : Int) - min (q - (t : Int)) (-1074)).toNat)
    omega
/-- what is no NaN: a sign, and what it is without. -/
theorem parts_of64 {x : Nat} (hx : x < 18446744073709551616) (h : nanF .f64 x = false) : ∃ (s : Bool) (r : Nat), x = (if s = true then 9223372036854775808 else 0) + r ∧ r ≤ 9218868437227405312 := by
  have key : ∀ r, r < 9223372036854775808 → 9218868437227405312 < r → Ieee.double.read r = .nan false (r - 9218868437227405312) := by
    intro r h1 h2
    obtain ⟨f1, f2, f3, f4, f5⟩ := fields64
    unfold Ieee.Format.read
    rw [f2, f3, f4, f5]
    dsimp only
    have e3 : r / 9223372036854775808 % 2 = 0 := by omega
    have e4 : r % 9223372036854775808 = r := by omega
    rw [e3, e4, if_neg (by omega), if_neg (by omega), if_neg (by omega)]
    rfl
  by_cases hs : x < 9223372036854775808
  · refine ⟨false, x, by simp, ?_⟩
    apply Nat.le_of_not_lt
    intro hc
    have hk := key x hs hc
    have : nanF .f64 x = true := by
      show (Ieee.double.order x x != some .eq) = true
      unfold Ieee.Format.order
      rw [hk]; rfl
    rw [this] at h; cases h
  · refine ⟨true, x - 9223372036854775808, by simp; omega, ?_⟩
    apply Nat.le_of_not_lt
    intro hc
    have hk := key (x - 9223372036854775808) (by omega) hc
    have hr := read_neg64 (r := x - 9223372036854775808) (by omega)
    rw [hk, show 9223372036854775808 + (x - 9223372036854775808) = x by omega] at hr
    have : nanF .f64 x = true := by
      show (Ieee.double.order x x != some .eq) = true
      unfold Ieee.Format.order
      rw [hr]; rfl
    rw [this] at h; cases h
theorem neg_bits64 {r : Nat} (h : r < 9223372036854775808) : (9223372036854775808 + r) ^^^ 2 ^ (FloatKind.f64.format.exponentBits + FloatKind.f64.format.fractionBits) = r := by
  show (9223372036854775808 + r) ^^^ 2 ^ 63 = r
  have e : 9223372036854775808 + r = 2 ^ 63 ^^^ r := by
    have := Nat.two_pow_add_eq_or_of_lt (i := 63) (b := r) h 1
    rw [Nat.mul_one] at this
    apply Nat.eq_of_testBit_eq
    intro i
    rw [show 9223372036854775808 + r = 2 ^ 63 ||| r from this, Nat.testBit_or, Nat.testBit_xor, Nat.testBit_two_pow]
    by_cases hi : 63 = i
    · subst hi
      rw [Nat.testBit_lt_two_pow h]; rfl
    · simp [hi]
  rw [e, Nat.xor_comm (2 ^ 63) r, Nat.xor_assoc, Nat.xor_self, Nat.xor_zero]

@[go_sem] theorem run_neg_float {P : Program} (k : FloatKind) (b : Nat) (w : World) : (Op.unary .neg (.float k b)).run P w = .ok (.float k (Op.negFloat k b)) w := rfl
theorem run_quo {P : Program} {k : FloatKind} {x y r : Nat} (h : k.format.div x y = some r) : ∀ (t : TypeId) (w : World), (binOp .quo t (.float k x) (.float k y)).run P w = .ok (.float k r) w := fun t w => run_float_arith w .quo t k x y r h
theorem run_mul {P : Program} {k : FloatKind} {x y r : Nat} (h : k.format.mul x y = some r) : ∀ (t : TypeId) (w : World), (binOp .mul t (.float k x) (.float k y)).run P w = .ok (.float k r) w := fun t w => run_float_arith w .mul t k x y r h

set_option maxRecDepth 100000 in
theorem half_any (s : Bool) (r : Nat) (w : World) (h : r ≤ 9218868437227405312) : Calls Tryz.prog 162 #[.float .f64 ((if s = true then 9223372036854775808 else 0) + r)] w fun e w' => e = .returned (.tuple #[.bool s, .float .f64 r]) ∧ w = w' := by
  by_cases h0 : r = 0
  · subst h0
    cases s
    · have o1 : FloatKind.f64.format.order 0 0 = some .eq := by decide
      have o2 : FloatKind.f64.format.div 4607182418800017408 0 = some 9218868437227405312 := by decide
      have q2 := run_quo (P := Tryz.prog) o2
      clear o2
      have o3 : FloatKind.f64.format.order 9218868437227405312 0 = some .gt := by decide
      simp only [Bool.false_eq_true, if_false, Nat.zero_add]
      go_enter Tryz.func162, Tryz.ntmps162
      go_wp2
      go_ret2
      exact ⟨rfl, rfl⟩
    · have o1 : FloatKind.f64.format.order 9223372036854775808 0 = some .eq := by decide
      have o2 : FloatKind.f64.format.div 4607182418800017408 9223372036854775808 = some 18442240474082181120 := by decide
      have q2 := run_quo (P := Tryz.prog) o2
      clear o2
      have o3 : FloatKind.f64.format.order 18442240474082181120 0 = some .lt := by decide
      have o4 : Op.negFloat .f64 9223372036854775808 = 0 := neg_bits64 (r := 0) (by decide)
      simp only [if_true, Nat.add_zero]
      go_enter Tryz.func162, Tryz.ntmps162
      go_wp2
      go_ret2
      exact ⟨rfl, rfl⟩
  · cases s
    · have o1 := ord_pos64 (by omega) h
      simp only [Bool.false_eq_true, if_false, Nat.zero_add]
      go_enter Tryz.func162, Tryz.ntmps162
      go_wp2
      go_ret2
      exact ⟨rfl, rfl⟩
    · have o1 := ord_neg64 (by omega) h
      have o4 : Op.negFloat .f64 (9223372036854775808 + r) = r := neg_bits64 (by omega)
      simp only [if_true]
      generalize 9223372036854775808 + r = x at *
      go_enter Tryz.func162, Tryz.ntmps162
      go_wp2
      go_ret2
      exact ⟨rfl, rfl⟩
theorem wd_lt64 {A C : Nat} {p q : Int} (hA : 0 < A ∧ A < 9007199254740992) (hp : -1074 ≤ p ∧ p ≤ 971) (hC : 0 < C ∧ C < 9007199254740992) (hq : -1074 ≤ q ∧ q ≤ 971) (h : p ≤ q ∧ A ≤ C ∧ (p < q ∨ A < C)) : FloatKind.f64.format.order (wd64 A p) (wd64 C q) = some .lt := by
  obtain ⟨t, h1, _, _⟩ := wd_read64 hA.1 hA.2 hp
  obtain ⟨u, h2, _, _⟩ := wd_read64 hC.1 hC.2 hq
  show Ieee.double.order _ _ = _
  unfold Ieee.Format.order
  rw [h1, h2]
  unfold Ieee.Datum.order
  dsimp only
  unfold Ieee.signed
  simp only [Bool.false_eq_true, if_false, Nat.shiftLeft_eq]
  obtain ⟨a, ha⟩ : ∃ a : Nat, (p - (t : Int) - min (p - (t : Int)) (q - (u : Int))).toNat = a := ⟨_, rfl⟩
  obtain ⟨b, hb⟩ : ∃ b : Nat, (q - (u : Int) - min (p - (t : Int)) (q - (u : Int))).toNat = b := ⟨_, rfl⟩
  rw [ha, hb]
  have e1 : A * 2 ^ t * 2 ^ a = A * 2 ^ (t + a) := by rw [Nat.mul_assoc, ← Nat.pow_add]
  have e2 : C * 2 ^ u * 2 ^ b = C * 2 ^ (u + b) := by rw [Nat.mul_assoc, ← Nat.pow_add]
  rw [e1, e2]
  congr 1
  rw [Int.compare_eq_lt]
  have key : A * 2 ^ (t + a) < C * 2 ^ (u + b) := by
    rcases h.2.2 with h3 | h3
    · have h4 : 2 ^ (t + a + 1) ≤ 2 ^ (u + b) := Nat.pow_le_pow_right (by decide) (by omega)
      have h5 : C * 2 ^ (t + a + 1) ≤ C * 2 ^ (u + b) := Nat.mul_le_mul_left _ h4
      have h6 : A * 2 ^ (t + a + 1) ≤ C * 2 ^ (t + a + 1) := Nat.mul_le_mul_right _ h.2.1
      have h7 : 0 < A * 2 ^ (t + a) := Nat.mul_pos hA.1 (Nat.two_pow_pos _)
      have h8 : A * 2 ^ (t + a + 1) = 2 * (A * 2 ^ (t + a)) := by rw [Nat.pow_succ, ← Nat.mul_assoc, Nat.mul_comm]
      omega
    · have h4 : 2 ^ (t + a) ≤ 2 ^ (u + b) := Nat.pow_le_pow_right (by decide) (by omega)
      have h5 : C * 2 ^ (t + a) ≤ C * 2 ^ (u + b) := Nat.mul_le_mul_left _ h4
      exact Nat.lt_of_lt_of_le (Nat.mul_lt_mul_of_pos_right h3 (Nat.two_pow_pos _)) h5
  omega
/-- half of a number is another one. -/
theorem wd_half_lt64 {M : Nat} {q : Int} (h0 : 0 < M) (hM : M < 9007199254740992) (hq : -1074 ≤ q ∧ q ≤ 971) : FloatKind.f64.format.order (wd64 M (q - 1)) (wd64 M q) = some .lt := by
  by_cases hc : q = -1074
  · subst hc
    have hM0 : M ≠ 0 := by omega
    have hlog : M.log2 ≤ 52 := by
      have := (Nat.log2_lt hM0 (k := 53)).2 hM
      omega
    have e : wd64 M (-1074 - 1) = M / 2 + (decide (2 < 2 * (M % 2)) || (2 == 2 * (M % 2)) && M / 2 % 2 == 1).toNat := by
      obtain ⟨f1, f2, f3, f4, f5⟩ := fields64
      unfold wd64 Ieee.Format.nearest
      rw [if_neg hM0, f1, f2, f3, f4]
      dsimp only
      have e1 : max (-1074 - 1 + (M.log2 : Int) - (52 : Nat)) (-1074) = -1074 := by omega
      rw [e1]
      have e2 : ((-1074 : Int) - 1 - -1074).toNat = 0 := by decide
      have e3 : ((-1074 : Int) - (-1074 - 1)).toNat = 1 := by decide
      rw [e2, e3, Nat.shiftLeft_zero]
      unfold Ieee.Toward.cut
      dsimp only
      rw [show min 1 (M.log2 + 2) = 1 by omega, show 1 <<< 1 = 2 from rfl]
      generalize hb : (decide (2 < 2 * (M % 2)) || (2 == 2 * (M % 2)) && M / 2 % 2 == 1) = bb
      have : bb.toNat ≤ 1 := Bool.toNat_le bb
      show min (((-1074 : Int) - -1074).toNat * _ + (M / 2 + bb.toNat)) 9218868437227405312 = _
      rw [show ((-1074 : Int) - -1074).toNat = 0 by decide, Nat.zero_mul, Nat.zero_add]
      omega
    have hk : wd64 M (-1074 - 1) < M := by
      rw [e]
      by_cases h1 : M = 1
      · subst h1; decide
      · generalize hb : (decide (2 < 2 * (M % 2)) || (2 == 2 * (M % 2)) && M / 2 % 2 == 1) = bb
        have : bb.toNat ≤ 1 := Bool.toNat_le bb
        by_cases h2 : M = 2
        · subst h2; subst hb; decide
        · by_cases h3 : M % 2 = 0
          · rw [h3] at hb; subst hb; simp; omega
          · omega
    generalize wd64 M (-1074 - 1) = K at *
    by_cases hK : K = 0
    · subst hK
      obtain ⟨t, hr, _, _⟩ := wd_read64 h0 hM hq
      show Ieee.double.order _ _ = _
      unfold Ieee.Format.order
      rw [hr, show Ieee.double.read 0 = .number false 0 (-1074) by decide]
      unfold Ieee.Datum.order
      dsimp only
      unfold Ieee.signed
      simp only [Bool.false_eq_true, if_false, Nat.shiftLeft_eq, Nat.zero_mul]
      congr 1
      rw [Int.compare_eq_lt]
      have := Nat.mul_pos (Nat.mul_pos h0 (Nat.two_pow_pos t)) (Nat.two_pow_pos (-1074 - (t : Int) - min (-1074) (-1074 - (t : Int))).toNat)
      omega
    · obtain ⟨N, p, e1, h1, h2, h3, h4, h5⟩ := canon64 (r := K) (by omega) (by omega)
      by_cases hb : K < 4503599627370496
      · rcases h5 with ⟨h6, h7⟩ | ⟨h6, h7, h8⟩
        · omega
        · subst h7; subst h8
          rw [e1]
          exact wd_lt64 ⟨h1, h2⟩ ⟨by omega, by omega⟩ ⟨h0, hM⟩ hq ⟨Int.le_refl _, by omega, .inr (by omega)⟩
      · rcases h5 with ⟨h6, h7⟩ | ⟨h6, h7, h8⟩
        · have hp : p = -1074 := by omega
          subst hp
          have hN : N = K := by omega
          subst hN
          rw [e1]
          exact wd_lt64 ⟨h1, h2⟩ ⟨by omega, by omega⟩ ⟨h0, hM⟩ hq ⟨Int.le_refl _, by omega, .inr (by omega)⟩
        · omega
  · exact wd_lt64 ⟨h0, hM⟩ ⟨by omega, by omega⟩ ⟨h0, hM⟩ hq ⟨by omega, Nat.le_refl _, .inl (by omega)⟩

set_option maxRecDepth 100000 in
theorem infinite_any (r : Nat) (w : World) (h : r ≤ 9218868437227405312) : Calls Tryz.prog 163 #[.float .f64 r] w fun e w' => e = .returned (.bool (r == 9218868437227405312)) ∧ w = w' := by
  by_cases h0 : r = 0
  · subst h0
    have o1 : FloatKind.f64.format.order 0 0 = some .eq := by decide
    go_enter Tryz.func163, Tryz.ntmps163
    go_wp2
    go_ret
    exact ⟨rfl, rfl⟩
  · by_cases hi : r = 9218868437227405312
    · subst hi
      have o1 : FloatKind.f64.format.order 9218868437227405312 0 = some .gt := by decide
      have q2 := run_quo (P := Tryz.prog) (show FloatKind.f64.format.div 9218868437227405312 4611686018427387904 = some 9218868437227405312 by decide)
      have o3 : FloatKind.f64.format.order 9218868437227405312 9218868437227405312 = some .eq := by decide
      go_enter Tryz.func163, Tryz.ntmps163
      go_wp2
      go_ret
      exact ⟨rfl, rfl⟩
    · obtain ⟨M, q, hr, h1, h2, h3, h4, _⟩ := canon64 (by omega) (by omega : r < 9218868437227405312)
      have o1 := ord_pos64 (by omega) h
      have q2 := run_quo (P := Tryz.prog) (k := .f64) (wd_half64 h1 h2 ⟨h3, h4⟩)
      have o3 := wd_half_lt64 h1 h2 ⟨h3, h4⟩
      rw [show (r == 9218868437227405312) = false by simpa using hi]
      rw [← hr] at q2 o3
      generalize wd64 M (q - 1) = y at *
      clear hr h0 hi
      go_enter Tryz.func163, Tryz.ntmps163
      go_wp2
      go_ret
      exact ⟨rfl, rfl⟩
end Go.Proofs.YtlcjfafmmoncpaaGreatDoor
