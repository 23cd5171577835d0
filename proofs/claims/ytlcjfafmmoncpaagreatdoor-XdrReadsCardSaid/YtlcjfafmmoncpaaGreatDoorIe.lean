/- The document's numbers (callboxref01): narrow numbers' bits. -/
import Derived.Test.YtlcjfafmmoncpaaGreatDoorId
namespace Go.Proofs.YtlcjfafmmoncpaaGreatDoor
open Go.RowKit
set_option linter.unusedVariables false
set_option linter.unusedSimpArgs false

set_option maxRecDepth 100000 in
theorem parts_any (B E n : Nat) (w : World) (hE : 1 ≤ E ∧ E ≤ 2046) (hn : n < 4503599627370496) (a1 : bits .and .u64 ((B : Int) / 4503599627370496) 2047 = E) (a2 : bits .and .u64 (B : Int) 4503599627370495 = n) :
    Calls Tryz.prog 184 #[.int .u64 B] w fun r w' => r = .returned (.tuple #[.int .u64 ((n : Int) + 4503599627370496), .int .i64 ((E : Int) - 1075)]) ∧ w = w' := by
  have e1 : ((E : Int) == 0) = false := by rw [beq_eq_false_iff_ne]; omega
  have e2 : IntKind.i64.wrap ((E : Int) - 1075) = (E : Int) - 1075 := by rw [IntKind.wrap_i64]; omega
  have e3 : IntKind.u64.wrap ((n : Int) + 4503599627370496) = (n : Int) + 4503599627370496 := by rw [IntKind.wrap_u64]; omega
  have e4 : IntKind.i64.wrap (E : Int) = E := by rw [IntKind.wrap_i64]; omega
  go_enter Tryz.func184, Tryz.ntmps184
  go_wp2
  go_ret2
  exact ⟨rfl, rfl⟩

set_option maxRecDepth 100000 in
set_option maxHeartbeats 2000000 in
theorem narrow_core (s : Bool) (B X : Int) (N M T : Nat) (Q q : Int) (w : World) (hN : 4503599627370496 ≤ N ∧ N < 9007199254740992) (hQ : -1074 ≤ Q ∧ Q ≤ 971) (hu : max (Q + 52) (-126) - 23 = q) (hd : q - Q = T) (hT : 29 ≤ T ∧ T ≤ 52) (hM : N / 2 ^ T = M) (hM2 : N = M * 2 ^ T) (hM3 : M < 16777216) (hq : q ≤ 104)
    (hs : B / 9223372036854775808 = if s = true then 1 else 0) (hB1 : B ≠ 9221120237041090560) (hB2 : IntKind.u64.wrap (B * 2) ≠ 18437736874454810624)
    (hx1 : M < 8388608 → bits .or .u32 (if s = true then 2147483648 else 0) (M : Int) = X) (hx2 : 8388608 ≤ M → bits .or .u32 (bits .or .u32 (if s = true then 2147483648 else 0) ((q + 150) % 4294967296 * 8388608 % 4294967296)) ((M : Int) - 8388608) = X)
    (hcs : (Q + 52 < -126 → M < 8388608) ∧ (-126 ≤ Q + 52 → 8388608 ≤ M)) (hB3 : s = false → B * 2 ≠ 18437736874454810624)
    (hP : Calls Tryz.prog 184 #[.int .u64 B] w fun r w' => r = .returned (.tuple #[.int .u64 N, .int .i64 Q]) ∧ w = w') :
    Calls Tryz.prog 159 #[.int .u64 B] w fun r w' => r = .returned (.tuple #[.int .u32 X, .bool true]) ∧ w = w' := by
  have HP := Lib.hid hP
  have HX1 := Lib.hid (show (M : Int) < 8388608 → _ from fun h => hx1 (by omega))
  have HX2 := Lib.hid (show (8388608 : Int) ≤ M → _ from fun h => hx2 (by omega))
  clear hx1 hx2
  have HM2 := Lib.hid hM2
  have HM := Lib.hid hM
  have HT := Lib.hid hT
  have HN := Lib.hid hN
  have HQ := Lib.hid hQ
  have HU := Lib.hid hu
  have HD := Lib.hid hd
  have hN0 : ((N : Int) == 0) = false := by rw [beq_eq_false_iff_ne]; omega
  have hB1 : (B == 9221120237041090560) = false := by rw [beq_eq_false_iff_ne]; exact hB1
  have hB2 : (IntKind.u64.wrap (B * 2) == 18437736874454810624) = false := by rw [beq_eq_false_iff_ne]; exact hB2
  have hsgn : IntKind.u32.wrap (IntKind.u32.wrap (if s = true then 1 else 0) * 2147483648) = if s = true then 2147483648 else 0 := by cases s <;> decide
  have hc52 : (N : Int) / 4503599627370496 ≤ 1 := by omega
  have HC := Lib.hid (show ∀ k : Nat, k < 52 → (1 : Int) < (N : Int) / 2 ^ k from fun k hk => by
    have h1 : 2 ^ (k + 1) ≤ 2 ^ 52 := Nat.pow_le_pow_right (by decide) (by omega)
    have h2 : 2 ^ (k + 1) ≤ N := Nat.le_trans h1 hN.1
    have h3 : 2 ≤ N / 2 ^ k := (Nat.le_div_iff_mul_le (Nat.two_pow_pos k)).2 (by rw [Nat.mul_comm, ← Nat.pow_succ]; exact h2)
    have h4 : ((N / 2 ^ k : Nat) : Int) = (N : Int) / 2 ^ k := by simp
    omega)
  have hB3 : s = false → (B * 2 == 18437736874454810624) = false := fun h => by rw [beq_eq_false_iff_ne]; exact hB3 h
  obtain ⟨Z, hZ⟩ : ∃ Z : Int, Z = Q + 52 := ⟨_, rfl⟩
  have hs1 : IntKind.i64.wrap (Q + 52) = Z := by rw [IntKind.wrap_i64]; omega
  have hs3 : IntKind.i64.wrap (q - Q) = (T : Int) := by rw [IntKind.wrap_i64]; omega
  have hT60 : (T : Int) ≤ 60 := by omega
  have hNM : (N : Int) / 2 ^ T = M := by
    have h4 : ((N / 2 ^ T : Nat) : Int) = (N : Int) / 2 ^ T := by simp
    rw [← h4, hM]
  have hMN : IntKind.u64.wrap ((M : Int) * 2 ^ T) = N := by
    have h4 : ((M * 2 ^ T : Nat) : Int) = (M : Int) * 2 ^ T := by simp
    rw [← h4, ← hM2, IntKind.wrap_u64]
    omega
  have hlt : Z < -126 ∧ q = -149 ∧ (M : Int) < 8388608 ∨ -126 ≤ Z ∧ IntKind.i64.wrap (Z - 23) = q ∧ (8388608 : Int) ≤ M := by
    have h1 := hcs.1; have h2 := hcs.2
    rw [IntKind.wrap_i64]; omega
  have HLt := Lib.hid hlt
  obtain ⟨P, hP2⟩ : ∃ P : Int, P = 2 ^ T := ⟨_, rfl⟩
  have hPb : 536870912 ≤ P ∧ P ≤ 4503599627370496 := by
    have h1 : 2 ^ 29 ≤ 2 ^ T := Nat.pow_le_pow_right (by decide) hT.1
    have h2 : 2 ^ T ≤ 2 ^ 52 := Nat.pow_le_pow_right (by decide) hT.2
    have h3 : ((2 ^ T : Nat) : Int) = 2 ^ T := by simp
    rw [hP2, ← h3]
    omega
  have hp1 : IntKind.u64.wrap (2 ^ T) = P := by rw [← hP2, IntKind.wrap_u64]; omega
  obtain ⟨D, hD⟩ : ∃ D : Int, D = P.tdiv 2 := ⟨_, rfl⟩
  have hp2 : IntKind.u64.wrap (P.tdiv 2) = D := by rw [hD, Int.tdiv_eq_ediv_of_nonneg (by omega), IntKind.wrap_u64]; omega
  have hD0 : (0 : Int) < D := by rw [hD, Int.tdiv_eq_ediv_of_nonneg (by omega)]; omega
  have hD1 : ¬ (0 : Int) = D := by omega
  have hD2 : (0 : Int) ≤ D := by omega
  have hq1 : IntKind.i64.wrap (q + 150) = q + 150 := by rw [IntKind.wrap_i64]; omega
  have hq2 : q + 150 < 255 := by omega
  clear hP2 hD hPb hcs
  have hm3 : (M : Int) < 16777216 := by omega
  have hm0 : (0 : Int) ≤ M := by omega
  have hne : ((M : Int) == 16777216) = false := by rw [beq_eq_false_iff_ne]; omega
  clear hP hM2 hM hT hN hQ hu hd hlt hZ hM3 HM HM2
  generalize (M : Int) = m at *
  generalize (N : Int) = n at *
  cases s
  all_goals
    have hB3 := hB3
    simp only [Bool.false_eq_true, if_false, if_true, reduceCtorEq, false_implies, forall_const] at hs hsgn hB3 HX1 HX2
    go_enter Tryz.func159, Tryz.ntmps159
    go_wp2_with fail
    refine HP.out.mono ?_
    rintro e w' ⟨rfl, hw⟩
    obtain rfl : w = w' := hw
    go_wp2_with fail
    go_loopw [7] (fun h wr => ∃ k : Nat, k ≤ 52 ∧ h = .int .i64 k ∧ wr = w) (fun h _ => 52 - (intOf h).toNat)
    case atStart => exact ⟨0, by decide, rfl, rfl⟩
    case round =>
      obtain ⟨k, hk, rfl, hwr⟩ := hrel
      obtain rfl : w = wr := hwr.symm
      by_cases hc : k < 52
      · have hck := HC.out k hc
        go_wp2_with fail
        go_roundw
        case rel => exact ⟨k + 1, by omega, by go_num, trivial⟩
        case measure => simp [intOf]; omega
      · obtain rfl : k = 52 := by omega
        rcases HLt.out with ⟨h6, rfl, h8⟩ | ⟨h6, h7, h8⟩
        · have hx := HX1.out h8
          go_wp2_with fail
          go_ret2
          exact ⟨rfl, rfl⟩
        · have hx := HX2.out h8
          go_wp2_with fail
          go_ret2
          exact ⟨rfl, rfl⟩
end Go.Proofs.YtlcjfafmmoncpaaGreatDoor
