/- Numbers of bits, package real; a number that raw bits say. -/
import Derived.Test.YtlcjfafmmoncpaaGreatDoorFa
namespace Go.Proofs.YtlcjfafmmoncpaaGreatDoor
open Go.RowKit
set_option linter.unusedVariables false
set_option linter.unusedSimpArgs false

theorem From32_any (b : Nat) (w : World) : Calls Tryz.prog 126 #[.int .u32 b] w fun r w' => r = .returned (.tuple #[.float .f32 (fromF .f32 b), .int .i64 (fromE .f32 b)]) ∧ w = w' := by
  by_cases h : nanF .f32 b = true
  · by_cases h2 : b = 2143289344
    · have e1 : badF .f32 b = false := by unfold badF; rw [h, h2]; decide
      rw [show fromF .f32 b = b by unfold fromF; rw [e1]; rfl, show fromE .f32 b = 0 by unfold fromE; rw [e1]; rfl]
      unfold nanF at h
      have h3 : (((b : Nat) : Int) != 2143289344) = false := by rw [h2]; decide
      clear h2 e1
      go_enter Tryz.func126, Tryz.ntmps126
      go_wp2
      go_ret2
      exact ⟨rfl, rfl⟩
    · have e1 : badF .f32 b = true := by unfold badF theNan; rw [h]; simpa using h2
      rw [show fromF .f32 b = 0 by unfold fromF; rw [e1]; rfl, show fromE .f32 b = 10 by unfold fromE; rw [e1]; rfl]
      unfold nanF at h
      have h3 : (((b : Nat) : Int) != 2143289344) = true := by rw [bne_iff_ne]; omega
      clear h2 e1
      go_enter Tryz.func126, Tryz.ntmps126
      go_wp2
      go_ret2
      exact ⟨rfl, rfl⟩
  · have e1 : badF .f32 b = false := by unfold badF; simp [h]
    rw [show fromF .f32 b = b by unfold fromF; rw [e1]; rfl, show fromE .f32 b = 0 by unfold fromE; rw [e1]; rfl]
    rw [Bool.not_eq_true] at h
    unfold nanF at h
    clear e1
    go_enter Tryz.func126, Tryz.ntmps126
    go_wp2
    go_ret2
    exact ⟨rfl, rfl⟩

theorem Same32_any (a b : Nat) (w : World) : Calls Tryz.prog 81 #[.float .f32 a, .float .f32 b] w fun r w' => r = .returned (.bool (bitsF .f32 a == bitsF .f32 b)) ∧ w = w' := by
  have e : (bitsF .f32 a == bitsF .f32 b) = (((bitsF .f32 a : Nat) : Int) == ((bitsF .f32 b : Nat) : Int)) := by
    rw [Bool.eq_iff_iff, beq_iff_eq, beq_iff_eq]; omega
  rw [e]
  clear e
  go_enter Tryz.func81, Tryz.ntmps81
  go_wp2_with (go_at_call 121; refine (Bits32_any _ _).mono ?_; rintro e w' ⟨rfl, rfl⟩)
  go_ret
  exact ⟨rfl, rfl⟩

theorem single_any (b : Nat) (w : World) : Calls Tryz.prog 58 #[.int .u32 b] w fun r w' => ∃ x, r = .returned (.float .f32 x) ∧ bitsF .f32 x = bitsF .f32 b ∧ (w' = w ∨ w' = w.drew) := by
  by_cases h : badF .f32 b = true
  · obtain ⟨y, hy, hr⟩ := run_nan32 (P := Tryz.prog) 91 w
    have e1 : fromE .f32 b = 10 := if_pos h
    have e2 : bitsF .f32 y = bitsF .f32 b := by
      have hb : nanF .f32 b = true := by unfold badF at h; rw [Bool.and_eq_true] at h; exact h.1
      unfold bitsF; rw [if_pos hy, if_pos hb]
    have E2 := Lib.hid e2
    have HF := fun w => From32_any b w
    rw [e1] at HF
    clear h hy e1 e2
    generalize bitsF .f32 b = B at *
    generalize fromF .f32 b = F at *
    go_enter Tryz.func58, Tryz.ntmps58
    go_wp2_with (go_at_call 126; refine (HF _).mono ?_; rintro e w' ⟨rfl, rfl⟩)
    go_ret
    exact ⟨y, rfl, E2.out, .inr rfl⟩
  · have e1 : fromE .f32 b = 0 := if_neg h
    have e2 : fromF .f32 b = b := if_neg h
    have HF := fun w => From32_any b w
    rw [e1, e2] at HF
    clear h e1 e2
    go_enter Tryz.func58, Tryz.ntmps58
    go_wp2_with (go_at_call 126; refine (HF _).mono ?_; rintro e w' ⟨rfl, rfl⟩)
    go_ret
    exact ⟨b, rfl, rfl, .inl rfl⟩

theorem From64_any (b : Nat) (w : World) : Calls Tryz.prog 129 #[.int .u64 b] w fun r w' => r = .returned (.tuple #[.float .f64 (fromF .f64 b), .int .i64 (fromE .f64 b)]) ∧ w = w' := by
  by_cases h : nanF .f64 b = true
  · by_cases h2 : b = 9221120237041090560
    · have e1 : badF .f64 b = false := by unfold badF; rw [h, h2]; decide
      rw [show fromF .f64 b = b by unfold fromF; rw [e1]; rfl, show fromE .f64 b = 0 by unfold fromE; rw [e1]; rfl]
      unfold nanF at h
      have h3 : (((b : Nat) : Int) != 9221120237041090560) = false := by rw [h2]; decide
      clear h2 e1
      go_enter Tryz.func129, Tryz.ntmps129
      go_wp2
      go_ret2
      exact ⟨rfl, rfl⟩
    · have e1 : badF .f64 b = true := by unfold badF theNan; rw [h]; simpa using h2
      rw [show fromF .f64 b = 0 by unfold fromF; rw [e1]; rfl, show fromE .f64 b = 10 by unfold fromE; rw [e1]; rfl]
      unfold nanF at h
      have h3 : (((b : Nat) : Int) != 9221120237041090560) = true := by rw [bne_iff_ne]; omega
      clear h2 e1
      go_enter Tryz.func129, Tryz.ntmps129
      go_wp2
      go_ret2
      exact ⟨rfl, rfl⟩
  · have e1 : badF .f64 b = false := by unfold badF; simp [h]
    rw [show fromF .f64 b = b by unfold fromF; rw [e1]; rfl, show fromE .f64 b = 0 by unfold fromE; rw [e1]; rfl]
    rw [Bool.not_eq_true] at h
    unfold nanF at h
    clear e1
    go_enter Tryz.func129, Tryz.ntmps129
    go_wp2
    go_ret2
    exact ⟨rfl, rfl⟩

theorem Same64_any (a b : Nat) (w : World) : Calls Tryz.prog 84 #[.float .f64 a, .float .f64 b] w fun r w' => r = .returned (.bool (bitsF .f64 a == bitsF .f64 b)) ∧ w = w' := by
  have e : (bitsF .f64 a == bitsF .f64 b) = (((bitsF .f64 a : Nat) : Int) == ((bitsF .f64 b : Nat) : Int)) := by
    rw [Bool.eq_iff_iff, beq_iff_eq, beq_iff_eq]; omega
  rw [e]
  clear e
  go_enter Tryz.func84, Tryz.ntmps84
  go_wp2_with (go_at_call 128; refine (Bits64_any _ _).mono ?_; rintro e w' ⟨rfl, rfl⟩)
  go_ret
  exact ⟨rfl, rfl⟩

theorem double_any (b : Nat) (w : World) : Calls Tryz.prog 61 #[.int .u64 b] w fun r w' => ∃ x, r = .returned (.float .f64 x) ∧ bitsF .f64 x = bitsF .f64 b ∧ (w' = w ∨ w' = w.drew) := by
  by_cases h : badF .f64 b = true
  · obtain ⟨y, hy, hr⟩ := run_nan64 (P := Tryz.prog) 103 w
    have e1 : fromE .f64 b = 10 := if_pos h
    have e2 : bitsF .f64 y = bitsF .f64 b := by
      have hb : nanF .f64 b = true := by unfold badF at h; rw [Bool.and_eq_true] at h; exact h.1
      unfold bitsF; rw [if_pos hy, if_pos hb]
    have E2 := Lib.hid e2
    have HF := fun w => From64_any b w
    rw [e1] at HF
    clear h hy e1 e2
    generalize bitsF .f64 b = B at *
    generalize fromF .f64 b = F at *
    go_enter Tryz.func61, Tryz.ntmps61
    go_wp2_with (go_at_call 129; refine (HF _).mono ?_; rintro e w' ⟨rfl, rfl⟩)
    go_ret
    exact ⟨y, rfl, E2.out, .inr rfl⟩
  · have e1 : fromE .f64 b = 0 := if_neg h
    have e2 : fromF .f64 b = b := if_neg h
    have HF := fun w => From64_any b w
    rw [e1, e2] at HF
    clear h e1 e2
    go_enter Tryz.func61, Tryz.ntmps61
    go_wp2_with (go_at_call 129; refine (HF _).mono ?_; rintro e w' ⟨rfl, rfl⟩)
    go_ret
    exact ⟨b, rfl, rfl, .inl rfl⟩

end Go.Proofs.YtlcjfafmmoncpaaGreatDoor
