/- The document's numbers (callboxref01): From64: the number that has some bits, by halving and doubling. -/
import Derived.Test.YtlcjfafmmoncpaaGreatDoorIf
namespace Go.Proofs.YtlcjfafmmoncpaaGreatDoor
open Go.RowKit
set_option linter.unusedVariables false
set_option linter.unusedSimpArgs false

theorem neg_up64 {r : Nat} (h : r < 9223372036854775808) : Op.negFloat .f64 r = 9223372036854775808 + r := by
  have e := neg_bits64 h
  show r ^^^ 2 ^ (FloatKind.f64.format.exponentBits + FloatKind.f64.format.fractionBits) = _
  conv => lhs; rw [← e]
  rw [Nat.xor_assoc, Nat.xor_self, Nat.xor_zero]
theorem conv_up64 (N : Nat) (w : World) : (convert 42 103 (.int .u64 (N : Int))).run Tryz.prog w = .ok (.float .f64 (wd64 N 0)) w := by
  have e : FloatKind.f64.nearest (N : Int) = wd64 N 0 := by
    unfold FloatKind.nearest FloatKind.encode wd64
    have h1 : decide ((N : Int) < 0) = false := by rw [decide_eq_false]; omega
    rw [h1]
    rfl
  simp [convert, run_underlying Tryz.underlying42, run_underlying Tryz.underlying103, Conv.intToFloat, e]

set_option maxRecDepth 100000 in
set_option maxHeartbeats 2000000 in
theorem rFrom64_norm (s : Bool) (B : Int) (E n : Nat) (w : World) (hE : 1 ≤ E ∧ E ≤ 2046) (hn : n < 4503599627370496) (hs : B / 9223372036854775808 = if s = true then 1 else 0) (a1 : bits .and .u64 (B / 4503599627370496) 2047 = E) (a2 : bits .and .u64 B 4503599627370495 = n) :
    Calls Tryz.prog 137 #[.int .u64 B] w fun e w' => e = .returned (.tuple #[.float .f64 ((if s = true then 9223372036854775808 else 0) + wd64 (4503599627370496 + n) (E - 1075)), .int .i64 0]) ∧ w = w' := by
  obtain ⟨N, hN⟩ : ∃ N : Nat, N = 4503599627370496 + n := ⟨_, rfl⟩
  have h1 : 0 < N := by omega
  have h2 : N < 9007199254740992 := by omega
  have HC0 := Lib.hid (conv_up64 n)
  have HC := Lib.hid (show ∀ w, (convert 42 103 (.int .u64 ((n : Int) + 4503599627370496))).run Tryz.prog w = .ok (.float .f64 (wd64 N 0)) w from fun w => by
    have := conv_up64 N w
    rwa [show ((N : Nat) : Int) = (n : Int) + 4503599627370496 by omega] at this)
  have HD := Lib.hid (fun p (hp : -1074 ≤ p ∧ p ≤ 971) => run_quo (P := Tryz.prog) (k := .f64) (wd_half64 h1 h2 hp))
  have HM := Lib.hid (fun p (hp : -1074 ≤ p ∧ p ≤ 971) => run_mul (P := Tryz.prog) (k := .f64) (wd_mul64 h1 h2 hp (c := 4611686018427387904) (k := 52) (j := -51) (by decide)))
  have HL := Lib.hid (fun p (hp : -1074 ≤ p ∧ p ≤ 971) => by
    obtain ⟨_, _, _, hl⟩ := wd_read64 h1 h2 hp
    exact (show wd64 N p < 9223372036854775808 from Nat.lt_trans hl (by decide)))
  have e4 : IntKind.i64.wrap (E : Int) = E := by rw [IntKind.wrap_i64]; omega
  have e5 : IntKind.u64.wrap ((n : Int) + 4503599627370496) = (n : Int) + 4503599627370496 := by rw [IntKind.wrap_u64]; omega
  have e6 : ((E : Int) == 2047) = false := by rw [beq_eq_false_iff_ne]; omega
  have e7 : (0 : Int) < E := by omega
  rw [← hN]
  obtain ⟨P, hP⟩ : ∃ P : Int, P = max 0 ((E : Int) - 1075) := ⟨_, rfl⟩
  have HPd := Lib.hid (And.intro hP (show (1 : Int) ≤ E ∧ (E : Int) ≤ 2046 by omega))
  have hc0 := HC0.out
  have hcv := HC.out
  generalize hEi : (E : Int) = Ei at *
  generalize (n : Int) = ni at *
  generalize wd64 n 0 = y0 at *
  clear h1 h2 hN hP hn HC0 hE hEi
  cases s
  all_goals
    simp only [Bool.false_eq_true, if_false, if_true, Nat.zero_add] at hs ⊢
    go_enter Tryz.func137, Tryz.ntmps137
    go_wp2_with fail
    go_loopw [6, 8] (fun f i wr => ∃ p : Int, 0 ≤ p ∧ p ≤ P ∧ f = .float .f64 (wd64 N p) ∧ i = .int .i64 (1075 + p) ∧ wr = w) (fun _ i _ => (P + 1075 - intOf i).toNat)
    case atStart => exact ⟨0, Int.le_refl _, by have := HPd.out.1; omega, rfl, rfl, rfl⟩
    case round =>
      obtain ⟨p, hp1, hp2, rfl, rfl, hwr⟩ := hrel
      obtain rfl : w = wr := hwr.symm
      by_cases hc : 1075 + p < Ei
      · have qm := HM.out p (by have := HPd.out; omega)
        have hsum : IntKind.i64.wrap (1075 + p + 1) = 1075 + p + 1 := by have := HPd.out; rw [IntKind.wrap_i64]; omega
        obtain ⟨z, hz⟩ : ∃ z, z = wd64 N (p + -51 + (52 : Nat)) := ⟨_, rfl⟩
        have HZ := Lib.hid (show z = wd64 N (p + 1) by rw [hz]; congr 1; omega)
        rw [← hz] at qm
        clear hz
        generalize wd64 N p = y at *
        go_wp2_with fail
        go_roundw
        case rel => exact ⟨p + 1, by omega, by have := HPd.out; omega, by rw [HZ.out], by congr 1; omega, trivial⟩
        case measure => simp [intOf]; have := HPd.out; omega
      · have hpP : p = P := by have := HPd.out; omega
        have HpP := Lib.hid hpP
        obtain ⟨y, hy⟩ : ∃ y, y = wd64 N p := ⟨_, rfl⟩
        have HY := Lib.hid hy
        rw [← hy]
        have hc := Int.not_lt.1 hc
        clear hy hpP
        go_wp2_with fail
        go_loopw [6, 9] (fun f i wr => ∃ p : Int, Ei - 1075 ≤ p ∧ p ≤ P ∧ f = .float .f64 (wd64 N p) ∧ i = .int .i64 (Ei + P - p) ∧ wr = w) (fun _ i _ => (1075 - intOf i).toNat)
        case atStart => exact ⟨P, by have := HPd.out; omega, Int.le_refl _, by rw [HY.out, HpP.out], by congr 1; omega, rfl⟩
        case round =>
          clear HY HpP hc hp1 hp2
          obtain ⟨p2, hp1, hp2, rfl, rfl, hwr⟩ := hrel
          obtain rfl : w = wr := hwr.symm
          by_cases hc : Ei + P - p2 < 1075
          · have qd := HD.out p2 (by have := HPd.out; omega)
            have hsum : IntKind.i64.wrap (Ei + P - p2 + 1) = Ei + P - p2 + 1 := by have := HPd.out; rw [IntKind.wrap_i64]; omega
            have HP2 := Lib.hid (show Ei - 1075 ≤ p2 - 1 by have := HPd.out; omega)
            obtain ⟨z, hz⟩ : ∃ z, z = wd64 N (p2 - 1) := ⟨_, rfl⟩
            have HZ := Lib.hid hz
            rw [← hz] at qd
            clear hz
            generalize wd64 N p2 = y2 at *
            go_wp2_with fail
            go_roundw
            case rel => exact ⟨p2 - 1, HP2.out, by omega, by rw [HZ.out], by congr 1; omega, trivial⟩
            case measure => simp [intOf]; omega
          · have hpe : p2 = Ei - 1075 := by have := HPd.out; omega
            have hl := HL.out p2 (by have := HPd.out; omega)
            have hng := neg_up64 hl
            rw [hpe] at hng ⊢
            have hc : (1075 : Int) ≤ Ei + P - (Ei - 1075) := by omega
            obtain ⟨y2, hy2⟩ : ∃ y, y = wd64 N (Ei - 1075) := ⟨_, rfl⟩
            rw [← hy2] at hng ⊢
            have HY2 := Lib.hid hy2
            clear hy2 hl hpe hp1 hp2
            go_wp2_with fail
            go_ret2
            exact ⟨by rw [← HY2.out]; rfl, rfl⟩

set_option maxRecDepth 100000 in
set_option maxHeartbeats 2000000 in
theorem rFrom64_sub (s : Bool) (B : Int) (n : Nat) (w : World) (h1 : 0 < n) (hn : n < 4503599627370496) (hs : B / 9223372036854775808 = if s = true then 1 else 0) (a1 : bits .and .u64 (B / 4503599627370496) 2047 = 0) (a2 : bits .and .u64 B 4503599627370495 = n) :
    Calls Tryz.prog 137 #[.int .u64 B] w fun e w' => e = .returned (.tuple #[.float .f64 ((if s = true then 9223372036854775808 else 0) + wd64 n (-1074)), .int .i64 0]) ∧ w = w' := by
  have h2 : n < 9007199254740992 := by omega
  have HC0 := Lib.hid (conv_up64 n)
  have HD := Lib.hid (fun p (hp : -1074 ≤ p ∧ p ≤ 971) => run_quo (P := Tryz.prog) (k := .f64) (wd_half64 h1 h2 hp))
  have HL := Lib.hid (show wd64 n (-1074) < 9223372036854775808 from by
    obtain ⟨_, _, _, hl⟩ := wd_read64 h1 h2 (q := -1074) (by decide)
    exact Nat.lt_trans hl (by decide))
  have hc0 := HC0.out
  have HN := Lib.hid (show ∀ p, wd64 n p = wd64 n p from fun _ => rfl)
  generalize (n : Int) = ni at *
  clear h1 h2 hn HC0
  cases s
  all_goals
    simp only [Bool.false_eq_true, if_false, if_true, Nat.zero_add] at hs ⊢
    go_enter Tryz.func137, Tryz.ntmps137
    go_wp2_with fail
    go_loopw [6, 10] (fun f i wr => ∃ k : Nat, k ≤ 1074 ∧ f = .float .f64 (wd64 n (-(k : Int))) ∧ i = .int .i64 k ∧ wr = w) (fun _ i _ => 1074 - (intOf i).toNat)
    case atStart => exact ⟨0, by decide, rfl, rfl, rfl⟩
    case round =>
      obtain ⟨k, hk, rfl, rfl, hwr⟩ := hrel
      obtain rfl : w = wr := hwr.symm
      by_cases hc : k < 1074
      · have qd := HD.out (-(k : Int)) (by omega)
        obtain ⟨z, hz⟩ : ∃ z, z = wd64 n (-(k : Int) - 1) := ⟨_, rfl⟩
        have HZ := Lib.hid (show z = wd64 n (-((k + 1 : Nat) : Int)) by rw [hz]; congr 1; omega)
        rw [← hz] at qd
        clear hz
        generalize wd64 n (-(k : Int)) = y at *
        go_wp2_with fail
        go_roundw
        case rel => exact ⟨k + 1, by omega, by rw [HZ.out], by go_num, trivial⟩
        case measure => simp [intOf]; omega
      · obtain rfl : k = 1074 := by omega
        have hng := neg_up64 HL.out
        obtain ⟨y2, hy2⟩ : ∃ y, y = wd64 n (-1074) := ⟨_, rfl⟩
        have hy3 : wd64 n (-((1074 : Nat) : Int)) = y2 := hy2.symm
        rw [hy3]
        rw [← hy2] at hng
        have HY2 := Lib.hid hy2
        clear hy2 hy3
        go_wp2_with fail
        go_ret2
        exact ⟨by rw [← HY2.out]; rfl, rfl⟩
set_option maxRecDepth 100000 in
theorem rFrom64_zero (s : Bool) (w : World) :
    Calls Tryz.prog 137 #[.int .u64 (if s = true then 9223372036854775808 else 0)] w fun e w' => e = .returned (.tuple #[.float .f64 (if s = true then 9223372036854775808 else 0), .int .i64 0]) ∧ w = w' := by
  have hc0 := conv_up64 0
  have e0 : wd64 0 0 = 0 := by decide
  rw [e0] at hc0
  have b1 : bits .and .u64 2048 2047 = 0 := by decide
  have b2 : bits .and .u64 0 2047 = 0 := by decide
  have b3 : bits .and .u64 9223372036854775808 4503599627370495 = 0 := by decide
  have b4 : bits .and .u64 0 4503599627370495 = 0 := by decide
  have hng := neg_up64 (r := 0) (by decide)
  have qd := run_quo (P := Tryz.prog) (show FloatKind.f64.format.div 0 4611686018427387904 = some 0 by decide)
  change ∀ w, (convert 42 103 (.int .u64 0)).run Tryz.prog w = .ok (.float .f64 0) w at hc0
  cases s
  all_goals
    simp only [Bool.false_eq_true, if_false, if_true]
    go_enter Tryz.func137, Tryz.ntmps137
    go_wp2_with fail
    go_loopw [6, 10] (fun f i wr => ∃ k : Nat, k ≤ 1074 ∧ f = .float .f64 0 ∧ i = .int .i64 k ∧ wr = w) (fun _ i _ => 1074 - (intOf i).toNat)
    case atStart => exact ⟨0, by decide, rfl, rfl, rfl⟩
    case round =>
      obtain ⟨k, hk, rfl, rfl, hwr⟩ := hrel
      obtain rfl : w = wr := hwr.symm
      by_cases hc : k < 1074
      · go_wp2_with fail
        go_roundw
        case rel => exact ⟨k + 1, by omega, rfl, by go_num, trivial⟩
        case measure => simp [intOf]; omega
      · obtain rfl : k = 1074 := by omega
        go_wp2_with fail
        go_ret2
        exact ⟨rfl, rfl⟩
theorem rFrom64_inf (s : Bool) (w : World) :
    Calls Tryz.prog 137 #[.int .u64 ((if s = true then 9223372036854775808 else 0) + 9218868437227405312)] w fun e w' => e = .returned (.tuple #[.float .f64 ((if s = true then 9223372036854775808 else 0) + 9218868437227405312), .int .i64 0]) ∧ w = w' := by
  have hc0 := conv_up64 0
  have e0 : wd64 0 0 = 0 := by decide
  rw [e0] at hc0
  have b1 : bits .and .u64 4095 2047 = 2047 := by decide
  have b2 : bits .and .u64 2047 2047 = 2047 := by decide
  have b3 : bits .and .u64 18442240474082181120 4503599627370495 = 0 := by decide
  have b4 : bits .and .u64 9218868437227405312 4503599627370495 = 0 := by decide
  have hng := neg_up64 (r := 9218868437227405312) (by decide)
  have qd := run_quo (P := Tryz.prog) (show FloatKind.f64.format.div 4607182418800017408 0 = some 9218868437227405312 by decide)
  change ∀ w, (convert 42 103 (.int .u64 0)).run Tryz.prog w = .ok (.float .f64 0) w at hc0
  cases s
  all_goals
    simp only [Bool.false_eq_true, if_false, if_true, Nat.zero_add]
    go_enter Tryz.func137, Tryz.ntmps137
    go_wp2_with fail
    go_ret2
    exact ⟨rfl, rfl⟩
theorem rFrom64_bad (B : Int) (n : Nat) (w : World) (h0 : (B == 9221120237041090560) = false) (h1 : 0 < n) (a1 : bits .and .u64 (B / 4503599627370496) 2047 = 2047) (a2 : bits .and .u64 B 4503599627370495 = n) :
    Calls Tryz.prog 137 #[.int .u64 B] w fun e w' => e = .returned (.tuple #[.float .f64 0, .int .i64 10]) ∧ w = w' := by
  have hc0 := conv_up64 n
  have hne : ((n : Int) != 0) = true := by rw [bne_iff_ne]; omega
  generalize (n : Int) = ni at *
  generalize wd64 n 0 = y at *
  clear h1
  go_enter Tryz.func137, Tryz.ntmps137
  go_wp2_with fail
  go_ret2
  exact ⟨rfl, rfl⟩
theorem rFrom64_nan (w : World) :
    Calls Tryz.prog 137 #[.int .u64 9221120237041090560] w fun e w' => ∃ x, nanF .f64 x = true ∧ e = .returned (.tuple #[.float .f64 x, .int .i64 0]) ∧ w' = w.drew := by
  have hc0 := conv_up64 2251799813685248
  change ∀ w, (convert 42 103 (.int .u64 2251799813685248)).run Tryz.prog w = .ok (.float .f64 (wd64 2251799813685248 0)) w at hc0
  have b1 : bits .and .u64 2047 2047 = 2047 := by decide
  have b3 : bits .and .u64 9221120237041090560 4503599627370495 = 2251799813685248 := by decide
  obtain ⟨y, hy, hr⟩ := run_nan64 (P := Tryz.prog) 103 w
  have HY := Lib.hid hy
  generalize wd64 2251799813685248 0 = y0 at *
  clear hy
  go_enter Tryz.func137, Tryz.ntmps137
  go_wp2_with fail
  go_ret2
  exact ⟨y, HY.out, rfl, rfl⟩
end Go.Proofs.YtlcjfafmmoncpaaGreatDoor
