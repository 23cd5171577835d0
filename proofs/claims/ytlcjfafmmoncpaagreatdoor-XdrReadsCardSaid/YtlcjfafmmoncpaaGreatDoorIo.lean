/- The document's numbers (callboxref01): the number that any bits say. -/
import Derived.Test.YtlcjfafmmoncpaaGreatDoorIn
namespace Go.Proofs.YtlcjfafmmoncpaaGreatDoor
open Go.RowKit
set_option linter.unusedVariables false
set_option linter.unusedSimpArgs false

theorem nan_no32 (s : Bool) {r : Nat} (h : r ≤ 2139095040) : nanF .f32 ((if s = true then 2147483648 else 0) + r) = false := by
  by_cases h0 : r = 0
  · subst h0; cases s <;> decide
  · by_cases hi : r = 2139095040
    · subst hi; cases s <;> decide
    · obtain ⟨M, q, rfl, h1, h2, h3, h4, _⟩ := canon32 (by omega) (by omega : r < 2139095040)
      obtain ⟨t, hr, _, hlt⟩ := wd_read32 h1 h2 ⟨h3, h4⟩
      show (Ieee.single.order _ _ != some .eq) = false
      unfold Ieee.Format.order
      cases s
      · simp only [Bool.false_eq_true, if_false, Nat.zero_add]
        rw [hr, cmp_self]; rfl
      · simp only [if_true]
        rw [read_neg32 (by omega), hr]
        show ((Ieee.Datum.number _ _ _).order (.number _ _ _) != some .eq) = false
        rw [cmp_self]; rfl

theorem from64_fin {s : Bool} {r : Nat} (h : r ≤ 9218868437227405312) : fromF .f64 ((if s = true then 9223372036854775808 else 0) + r) = (if s = true then 9223372036854775808 else 0) + r ∧ fromE .f64 ((if s = true then 9223372036854775808 else 0) + r) = 0 := by
  have hb : badF .f64 ((if s = true then 9223372036854775808 else 0) + r) = false := by unfold badF; rw [nan_no64 s h]; rfl
  unfold fromF fromE
  rw [hb]
  exact ⟨rfl, rfl⟩
theorem rFrom64_any (b : Nat) (w : World) (hb : b < 18446744073709551616) : Calls Tryz.prog 137 #[.int .u64 (b : Int)] w fun e w' => ∃ x, e = .returned (.tuple #[.float .f64 x, .int .i64 (fromE .f64 b)]) ∧ bitsF .f64 x = bitsF .f64 (fromF .f64 b) ∧ Fr (fun _ => False) w w' := by
  have hE : bits .and .u64 ((b : Int) / 4503599627370496) 2047 = ((b / 4503599627370496 % 2048 : Nat) : Int) := by
    have e1 : ((b : Int) / 4503599627370496) = ((b / 4503599627370496 : Nat) : Int) := by simp
    rw [e1]
    exact and_low (b / 4503599627370496) 11 (by omega) (by decide)
  have hn : bits .and .u64 (b : Int) 4503599627370495 = ((b % 4503599627370496 : Nat) : Int) := and_low b 52 hb (by decide)
  by_cases h : nanF .f64 b = true
  · by_cases h2 : b = 9221120237041090560
    · subst h2
      have e1 : badF .f64 9221120237041090560 = false := by unfold badF theNan; rw [h]; decide
      rw [show fromF .f64 9221120237041090560 = 9221120237041090560 by unfold fromF; rw [e1]; rfl, show fromE .f64 9221120237041090560 = 0 by unfold fromE; rw [e1]; rfl]
      refine (rFrom64_nan w).mono ?_
      rintro e w' ⟨x, hx, rfl, rfl⟩
      exact ⟨x, rfl, by unfold bitsF; rw [if_pos hx, if_pos h], (Fr.refl _ _).drew⟩
    · have e1 : badF .f64 b = true := by unfold badF theNan; rw [h]; simpa using h2
      rw [show fromF .f64 b = 0 by unfold fromF; rw [e1]; rfl, show fromE .f64 b = 10 by unfold fromE; rw [e1]; rfl]
      have hr : 9218868437227405312 < b % 9223372036854775808 := by
        apply Nat.lt_of_not_le
        intro hc
        by_cases hs : b < 9223372036854775808
        · have := nan_no64 false (r := b % 9223372036854775808) hc
          simp only [Bool.false_eq_true, if_false, Nat.zero_add] at this
          rw [Nat.mod_eq_of_lt hs, h] at this
          cases this
        · have := nan_no64 true (r := b % 9223372036854775808) hc
          simp only [if_true] at this
          rw [show 9223372036854775808 + b % 9223372036854775808 = b by omega, h] at this
          cases this
      have hne : ((b : Int) == 9221120237041090560) = false := by rw [beq_eq_false_iff_ne]; omega
      have hEv : b / 4503599627370496 % 2048 = 2047 := by omega
      rw [hEv] at hE
      refine (rFrom64_bad (b : Int) (b % 4503599627370496) w hne (by omega)  hE hn).mono ?_
      rintro e w' ⟨rfl, rfl⟩
      exact ⟨0, rfl, rfl, Fr.refl _ _⟩
  · obtain ⟨s, r, rfl, hr⟩ := parts_of64 hb (by simpa using h)
    obtain ⟨f1, f2⟩ := from64_fin (s := s) hr
    rw [f1, f2]
    have hs : (((if s = true then 9223372036854775808 else 0) + r : Nat) : Int) / 9223372036854775808 = if s = true then 1 else 0 := by split <;> omega
    by_cases h0 : r = 0
    · subst h0
      have hz := rFrom64_zero s w
      have e1 : (((if s = true then 9223372036854775808 else 0) + 0 : Nat) : Int) = if s = true then 9223372036854775808 else 0 := by split <;> rfl
      rw [e1]
      refine hz.mono ?_
      rintro e w' ⟨rfl, rfl⟩
      exact ⟨_, rfl, rfl, Fr.refl _ _⟩
    · by_cases hi : r = 9218868437227405312
      · subst hi
        have hz := rFrom64_inf s w
        have e1 : (((if s = true then 9223372036854775808 else 0) + 9218868437227405312 : Nat) : Int) = (if s = true then 9223372036854775808 else 0) + 9218868437227405312 := by split <;> rfl
        rw [e1]
        refine hz.mono ?_
        rintro e w' ⟨rfl, rfl⟩
        exact ⟨_, rfl, rfl, Fr.refl _ _⟩
      · obtain ⟨M, q, rfl, h1, h2, h3, h4, h5⟩ := canon64 (by omega) (by omega : r < 9218868437227405312)
        rcases h5 with ⟨h5, h6⟩ | ⟨h5, h6, h7⟩
        · have hEv : ((if s = true then 9223372036854775808 else 0) + wd64 M q) / 4503599627370496 % 2048 = (q + 1075).toNat := by split <;> omega
          have hnv : ((if s = true then 9223372036854775808 else 0) + wd64 M q) % 4503599627370496 = M - 4503599627370496 := by split <;> omega
          rw [hEv] at hE
          rw [hnv] at hn
          refine (rFrom64_norm s _ (q + 1075).toNat (M - 4503599627370496) w (by omega) (by omega) hs hE hn).mono ?_
          rintro e w' ⟨rfl, rfl⟩
          refine ⟨_, rfl, ?_, Fr.refl _ _⟩
          have e1 : 4503599627370496 + (M - 4503599627370496) = M := by omega
          have e2 : (((q + 1075).toNat : Nat) : Int) - 1075 = q := by omega
          rw [e1, e2]
        · subst h6
          have hEv : ((if s = true then 9223372036854775808 else 0) + wd64 M (-1074)) / 4503599627370496 % 2048 = 0 := by rw [h7]; split <;> omega
          have hnv : ((if s = true then 9223372036854775808 else 0) + wd64 M (-1074)) % 4503599627370496 = M := by rw [h7]; split <;> omega
          rw [hEv] at hE
          rw [hnv] at hn
          refine (rFrom64_sub s _ M w h1 h5 hs hE hn).mono ?_
          rintro e w' ⟨rfl, rfl⟩
          exact ⟨_, rfl, rfl, Fr.refl _ _⟩

theorem from32_fin {s : Bool} {r : Nat} (h : r ≤ 2139095040) : fromF .f32 ((if s = true then 2147483648 else 0) + r) = (if s = true then 2147483648 else 0) + r ∧ fromE .f32 ((if s = true then 2147483648 else 0) + r) = 0 := by
  have hb : badF .f32 ((if s = true then 2147483648 else 0) + r) = false := by unfold badF; rw [nan_no32 s h]; rfl
  unfold fromF fromE
  rw [hb]
  exact ⟨rfl, rfl⟩
theorem rFrom32_any (b : Nat) (w : World) (hb : b < 4294967296) : Calls Tryz.prog 136 #[.int .u32 (b : Int)] w fun e w' => ∃ x, e = .returned (.tuple #[.float .f32 x, .int .i64 (fromE .f32 b)]) ∧ bitsF .f32 x = bitsF .f32 (fromF .f32 b) ∧ Fr (fun _ => False) w w' := by
  have hE : bits .and .u32 ((b : Int) / 8388608) 255 = ((b / 8388608 % 256 : Nat) : Int) := by
    have e1 : ((b : Int) / 8388608) = ((b / 8388608 : Nat) : Int) := by simp
    rw [e1]
    exact and_low32 (b / 8388608) 8 (by omega) (by decide)
  have hn : bits .and .u32 (b : Int) 8388607 = ((b % 8388608 : Nat) : Int) := and_low32 b 23 hb (by decide)
  by_cases h : nanF .f32 b = true
  · by_cases h2 : b = 2143289344
    · subst h2
      have e1 : badF .f32 2143289344 = false := by unfold badF theNan; rw [h]; decide
      rw [show fromF .f32 2143289344 = 2143289344 by unfold fromF; rw [e1]; rfl, show fromE .f32 2143289344 = 0 by unfold fromE; rw [e1]; rfl]
      refine (rFrom32_nan w).mono ?_
      rintro e w' ⟨x, hx, rfl, rfl⟩
      exact ⟨x, rfl, by unfold bitsF; rw [if_pos hx, if_pos h], (Fr.refl _ _).drew.drew⟩
    · have e1 : badF .f32 b = true := by unfold badF theNan; rw [h]; simpa using h2
      rw [show fromF .f32 b = 0 by unfold fromF; rw [e1]; rfl, show fromE .f32 b = 10 by unfold fromE; rw [e1]; rfl]
      have hr : 2139095040 < b % 2147483648 := by
        apply Nat.lt_of_not_le
        intro hc
        by_cases hs : b < 2147483648
        · have := nan_no32 false (r := b % 2147483648) hc
          simp only [Bool.false_eq_true, if_false, Nat.zero_add] at this
          rw [Nat.mod_eq_of_lt hs, h] at this
          cases this
        · have := nan_no32 true (r := b % 2147483648) hc
          simp only [if_true] at this
          rw [show 2147483648 + b % 2147483648 = b by omega, h] at this
          cases this
      have hne : ((b : Int) == 2143289344) = false := by rw [beq_eq_false_iff_ne]; omega
      have hEv : b / 8388608 % 256 = 255 := by omega
      rw [hEv] at hE
      refine (rFrom32_bad (b : Int) (b % 8388608) w hne (by omega) (by omega) hE hn).mono ?_
      rintro e w' ⟨rfl, rfl⟩
      exact ⟨0, rfl, rfl, Fr.refl _ _⟩
  · obtain ⟨s, r, rfl, hr⟩ := parts_of32 hb (by simpa using h)
    obtain ⟨f1, f2⟩ := from32_fin (s := s) hr
    rw [f1, f2]
    have hs : (((if s = true then 2147483648 else 0) + r : Nat) : Int) / 2147483648 = if s = true then 1 else 0 := by split <;> omega
    by_cases h0 : r = 0
    · subst h0
      have hz := rFrom32_zero s w
      have e1 : (((if s = true then 2147483648 else 0) + 0 : Nat) : Int) = if s = true then 2147483648 else 0 := by split <;> rfl
      rw [e1]
      refine hz.mono ?_
      rintro e w' ⟨rfl, rfl⟩
      exact ⟨_, rfl, rfl, Fr.refl _ _⟩
    · by_cases hi : r = 2139095040
      · subst hi
        have hz := rFrom32_inf s w
        have e1 : (((if s = true then 2147483648 else 0) + 2139095040 : Nat) : Int) = (if s = true then 2147483648 else 0) + 2139095040 := by split <;> rfl
        rw [e1]
        refine hz.mono ?_
        rintro e w' ⟨rfl, rfl⟩
        exact ⟨_, rfl, rfl, Fr.refl _ _⟩
      · obtain ⟨M, q, rfl, h1, h2, h3, h4, h5⟩ := canon32 (by omega) (by omega : r < 2139095040)
        rcases h5 with ⟨h5, h6⟩ | ⟨h5, h6, h7⟩
        · have hEv : ((if s = true then 2147483648 else 0) + wd32 M q) / 8388608 % 256 = (q + 150).toNat := by split <;> omega
          have hnv : ((if s = true then 2147483648 else 0) + wd32 M q) % 8388608 = M - 8388608 := by split <;> omega
          rw [hEv] at hE
          rw [hnv] at hn
          refine (rFrom32_norm s _ (q + 150).toNat (M - 8388608) w (by omega) (by omega) hs hE hn).mono ?_
          rintro e w' ⟨rfl, rfl⟩
          refine ⟨_, rfl, ?_, Fr.refl _ _⟩
          have e1 : 8388608 + (M - 8388608) = M := by omega
          have e2 : (((q + 150).toNat : Nat) : Int) - 150 = q := by omega
          rw [e1, e2]
        · subst h6
          have hEv : ((if s = true then 2147483648 else 0) + wd32 M (-149)) / 8388608 % 256 = 0 := by rw [h7]; split <;> omega
          have hnv : ((if s = true then 2147483648 else 0) + wd32 M (-149)) % 8388608 = M := by rw [h7]; split <;> omega
          rw [hEv] at hE
          rw [hnv] at hn
          refine (rFrom32_sub s _ M w h1 h5 hs hE hn).mono ?_
          rintro e w' ⟨rfl, rfl⟩
          exact ⟨_, rfl, rfl, Fr.refl _ _⟩
end Go.Proofs.YtlcjfafmmoncpaaGreatDoor
