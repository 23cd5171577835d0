/- The document's numbers (callboxref01): From32. -/
import Derived.Test.YtlcjfafmmoncpaaGreatDoorIl
namespace Go.Proofs.YtlcjfafmmoncpaaGreatDoor
open Go.RowKit
set_option linter.unusedVariables false
set_option linter.unusedSimpArgs false

theorem slim_fin (s : Bool) {M : Nat} {q : Int} (h1 : 0 < M) (h2 : M < 16777216) (h3 : -149 ≤ q) (h4 : q ≤ 104) : floatToFloatBits .f64 ((if s = true then 9223372036854775808 else 0) + wd64 M q) .f32 = some ((if s = true then 2147483648 else 0) + wd32 M q) := by
  obtain ⟨t, hr, _, hlt⟩ := wd_read32 h1 h2 ⟨h3, h4⟩
  obtain ⟨u, hr2, _, hlt2⟩ := wd_read64 h1 (by omega : M < 9007199254740992) (q := q) (by omega)
  have hd : FloatKind.decode .f64 ((if s = true then 9223372036854775808 else 0) + wd64 M q) = .number s (M * 2 ^ u) (q - u) := by
    show Ieee.double.read _ = _
    cases s
    · simp only [Bool.false_eq_true, if_false, Nat.zero_add]; exact hr2
    · simp only [if_true]; rw [read_neg64 (by omega), hr2]; rfl
  have he : FloatKind.encode .f32 (.number s (M * 2 ^ u) (q - u)) = (if s = true then 2147483648 else 0) + wd32 M q := by
    show Ieee.single.nearest s _ _ = _
    rw [nearest_shift _ _ _ _ h1]
    cases s
    · simp only [Bool.false_eq_true, if_false, Nat.zero_add]; rfl
    · simp only [if_true]; rw [nearest_neg, fields32.2.2.2.2]; rfl
  have hi : (FloatKind.decode .f32 ((if s = true then 2147483648 else 0) + wd32 M q)).isInfinity = false := by
    show (Ieee.single.read _).isInfinity = false
    cases s
    · simp only [Bool.false_eq_true, if_false, Nat.zero_add]; rw [hr]; rfl
    · simp only [if_true]; rw [read_neg32 (by omega), hr]; rfl
  unfold floatToFloatBits
  rw [if_neg (by decide), hd]
  dsimp only
  rw [he, hi]
  rfl
theorem run_slim {x y : Nat} (h : floatToFloatBits .f64 x .f32 = some y) (w : World) : (convert 103 91 (.float .f64 x)).run Tryz.prog w = .ok (.float .f32 y) w :=
  run_convert_float_float w 103 91 .f64 .f32 x y (by kernel_rfl) Tryz.underlying91 h
theorem nan_read64 {x : Nat} (h : nanF .f64 x = true) : ∃ b f, Ieee.double.read x = .nan b f := by
  have h : (Ieee.double.order x x != some .eq) = true := h
  unfold Ieee.Format.order at h
  cases hr : Ieee.double.read x with
  | number s m i => rw [hr, cmp_self] at h; cases h
  | infinity s => rw [hr] at h; cases s <;> cases h
  | nan b f => exact ⟨b, f, rfl⟩
theorem run_slim_nan {x : Nat} (h : nanF .f64 x = true) (w : World) : ∃ y, nanF .f32 y = true ∧ (convert 103 91 (.float .f64 x)).run Tryz.prog w = .ok (.float .f32 y) w.drew := by
  obtain ⟨b, f, hr⟩ := nan_read64 h
  refine ⟨_, nan_drawn32 (w.tape w.drawn (.nanConv .f32 x)), ?_⟩
  have hr' : FloatKind.decode .f64 x = .nan b f := hr
  simp [convert, run_underlying Tryz.underlying91, run_underlying Tryz.underlying103, Conv.floatToFloat, hr', Question.forced, Question.cut]
theorem neg_up32 {r : Nat} (h : r < 2147483648) : Op.negFloat .f32 r = 2147483648 + r := by
  show r ^^^ 2 ^ 31 = 2147483648 + r
  have := Nat.two_pow_add_eq_or_of_lt (i := 31) (b := r) h 1
  rw [Nat.mul_one] at this
  apply Nat.eq_of_testBit_eq
  intro i
  rw [show 2147483648 + r = 2 ^ 31 ||| r from this, Nat.testBit_or, Nat.testBit_xor, Nat.testBit_two_pow]
  by_cases hi : 31 = i
  · subst hi
    rw [Nat.testBit_lt_two_pow h]; rfl
  · simp [hi]
theorem conv_up32 (N : Nat) (w : World) : (convert 42 91 (.int .u64 (N : Int))).run Tryz.prog w = .ok (.float .f32 (wd32 N 0)) w := by
  have e : FloatKind.f32.nearest (N : Int) = wd32 N 0 := by
    unfold FloatKind.nearest FloatKind.encode wd32
    have h1 : decide ((N : Int) < 0) = false := by rw [decide_eq_false]; omega
    rw [h1]
    rfl
  simp [convert, run_underlying Tryz.underlying42, run_underlying Tryz.underlying91, Conv.intToFloat, e]
theorem and_low32 (a k : Nat) (ha : a < 4294967296) (hk : k ≤ 31) : bits .and .u32 (a : Int) (((2 ^ k - 1 : Nat) : Int)) = ((a % 2 ^ k : Nat) : Int) := by
  have h1 : 2 ^ k - 1 < 4294967296 := by
    have : 2 ^ k ≤ 2 ^ 31 := Nat.pow_le_pow_right (by decide) hk
    omega
  rw [u32_and_nat a _ ha h1, Nat.and_two_pow_sub_one_eq_mod]

set_option maxRecDepth 100000 in
theorem rFrom32_norm (s : Bool) (B : Int) (E n : Nat) (w : World) (hE : 1 ≤ E ∧ E ≤ 254) (hn : n < 8388608) (hs : B / 2147483648 = if s = true then 1 else 0) (a1 : bits .and .u32 (B / 8388608) 255 = E) (a2 : bits .and .u32 B 8388607 = n) :
    Calls Tryz.prog 136 #[.int .u32 B] w fun e w' => e = .returned (.tuple #[.float .f32 ((if s = true then 2147483648 else 0) + wd32 (8388608 + n) (E - 150)), .int .i64 0]) ∧ w = w' := by
  obtain ⟨C, hC⟩ : ∃ C : Nat, C = (if s = true then 9223372036854775808 else 0) + ((E + 896) * 4503599627370496 + n * 536870912) := ⟨_, rfl⟩
  have hC18 : C < 18446744073709551616 := by rw [hC]; split <;> omega
  have hor : bits .or .u64 (bits .or .u64 (if s = true then 9223372036854775808 else 0) (((E : Int) + 896) * 4503599627370496)) ((n : Int) * 536870912) = C := by
    have h := or_norm64 s (q := (E : Int) - 179) (M := 4503599627370496 + n * 536870912) (by omega) (by omega) (by omega)
    have e1 : (E : Int) - 179 + 52 + 1023 = (E : Int) + 896 := by omega
    have e2 : ((4503599627370496 + n * 536870912 : Nat) : Int) - 4503599627370496 = (n : Int) * 536870912 := by omega
    rw [e1, e2] at h
    rw [h, hC]
    split <;> omega
  have b1 : bits .and .u64 ((C : Int) / 4503599627370496) 2047 = ((E + 896 : Nat) : Int) := by
    have e1 : ((C : Int) / 4503599627370496) = ((C / 4503599627370496 : Nat) : Int) := by simp
    rw [e1]
    refine (and_low (C / 4503599627370496) 11 (by omega) (by decide)).trans ?_
    show ((C / 4503599627370496 % 2048 : Nat) : Int) = _
    rw [hC]
    split <;> omega
  have b2 : bits .and .u64 (C : Int) 4503599627370495 = ((n * 536870912 : Nat) : Int) := by
    refine (and_low C 52 hC18 (by decide)).trans ?_
    show ((C % 4503599627370496 : Nat) : Int) = _
    rw [hC]
    split <;> omega
  have b3 : (C : Int) / 9223372036854775808 = if s = true then 1 else 0 := by rw [hC]; split <;> omega
  have HF := rFrom64_norm s (C : Int) (E + 896) (n * 536870912) w (by omega) (by omega) b3 b1 b2
  have hwd : wd64 (4503599627370496 + n * 536870912) (((E + 896 : Nat) : Int) - 1075) = wd64 (8388608 + n) ((E : Int) - 150) := by
    have e : 4503599627370496 + n * 536870912 = (8388608 + n) * 2 ^ 29 := by omega
    rw [e]
    unfold wd64
    rw [← nearest_shift Ieee.double false 29 ((E : Int) - 150) (by omega : 0 < 8388608 + n)]
    congr 1
    omega
  rw [hwd] at HF
  have hsl := run_slim (slim_fin s (M := 8388608 + n) (q := (E : Int) - 150) (by omega) (by omega) (by omega) (by omega))
  have HG := Lib.hid HF
  clear HF
  have e1 : ((E : Int) == 255) = false := by rw [beq_eq_false_iff_ne]; omega
  have e2 : (0 : Int) < E := by omega
  have e6 : IntKind.u64.wrap (E : Int) = E := by rw [IntKind.wrap_u64]; omega
  have e7 : IntKind.u64.wrap (n : Int) = n := by rw [IntKind.wrap_u64]; omega
  have e3 : IntKind.u64.wrap ((E : Int) + 896) = (E : Int) + 896 := by rw [IntKind.wrap_u64]; omega
  have e4 : IntKind.u64.wrap (((E : Int) + 896) * 4503599627370496) = ((E : Int) + 896) * 4503599627370496 := by rw [IntKind.wrap_u64]; omega
  have e5 : IntKind.u64.wrap ((n : Int) * 536870912) = (n : Int) * 536870912 := by rw [IntKind.wrap_u64]; omega
  clear hC b1 b2 b3 hC18 hwd
  generalize (C : Int) = c at *
  generalize hEi : (E : Int) = Ei at *
  generalize hni : (n : Int) = ni at *
  obtain ⟨y, hy⟩ : ∃ y, y = (if s = true then 9223372036854775808 else 0) + wd64 (8388608 + n) (Ei - 150) := ⟨_, rfl⟩
  obtain ⟨z, hz⟩ : ∃ z, z = (if s = true then 2147483648 else 0) + wd32 (8388608 + n) (Ei - 150) := ⟨_, rfl⟩
  rw [← hy] at HG hsl
  rw [← hz] at hsl ⊢
  clear hy hz hn hE hEi hni
  cases s
  all_goals
    simp only [Bool.false_eq_true, if_false, if_true] at hs hor
    go_enter Tryz.func136, Tryz.ntmps136
    go_wp2_with fail
    refine HG.out.mono ?_
    rintro e w' ⟨rfl, hw⟩
    obtain rfl : w = w' := hw
    go_wp2_with fail
    go_ret2
    exact ⟨rfl, rfl⟩

set_option maxRecDepth 100000 in
theorem rFrom32_sub (s : Bool) (B : Int) (n : Nat) (w : World) (h1 : 0 < n) (hn : n < 8388608) (hs : B / 2147483648 = if s = true then 1 else 0) (a1 : bits .and .u32 (B / 8388608) 255 = 0) (a2 : bits .and .u32 B 8388607 = n) :
    Calls Tryz.prog 136 #[.int .u32 B] w fun e w' => e = .returned (.tuple #[.float .f32 ((if s = true then 2147483648 else 0) + wd32 n (-149)), .int .i64 0]) ∧ w = w' := by
  have h2 : n < 16777216 := by omega
  have hcv := conv_up32 n
  have HD := Lib.hid (fun p (hp : -149 ≤ p ∧ p ≤ 104) => run_quo (P := Tryz.prog) (k := .f32) (wd_half32 h1 h2 hp))
  have HL := Lib.hid (show wd32 n (-149) < 2147483648 from by
    obtain ⟨_, _, _, hl⟩ := wd_read32 h1 h2 (q := -149) (by decide)
    exact Nat.lt_trans hl (by decide))
  have e7 : IntKind.u64.wrap (n : Int) = n := by rw [IntKind.wrap_u64]; omega
  generalize (n : Int) = ni at *
  clear h1 h2 hn
  cases s
  all_goals
    simp only [Bool.false_eq_true, if_false, if_true, Nat.zero_add] at hs ⊢
    go_enter Tryz.func136, Tryz.ntmps136
    go_wp2_with fail
    go_loopw [13, 14] (fun f i wr => ∃ k : Nat, k ≤ 149 ∧ f = .float .f32 (wd32 n (-(k : Int))) ∧ i = .int .i64 k ∧ wr = w) (fun _ i _ => 149 - (intOf i).toNat)
    case atStart => exact ⟨0, by decide, rfl, rfl, rfl⟩
    case round =>
      obtain ⟨k, hk, rfl, rfl, hwr⟩ := hrel
      obtain rfl : w = wr := hwr.symm
      by_cases hc : k < 149
      · have qd := HD.out (-(k : Int)) (by omega)
        obtain ⟨z, hz⟩ : ∃ z, z = wd32 n (-(k : Int) - 1) := ⟨_, rfl⟩
        have HZ := Lib.hid (show z = wd32 n (-((k + 1 : Nat) : Int)) by rw [hz]; congr 1; omega)
        rw [← hz] at qd
        clear hz
        generalize wd32 n (-(k : Int)) = y at *
        go_wp2_with fail
        go_roundw
        case rel => exact ⟨k + 1, by omega, by rw [HZ.out], by go_num, trivial⟩
        case measure => simp [intOf]; omega
      · obtain rfl : k = 149 := by omega
        have hng := neg_up32 HL.out
        obtain ⟨y2, hy2⟩ : ∃ y, y = wd32 n (-149) := ⟨_, rfl⟩
        have hy3 : wd32 n (-((149 : Nat) : Int)) = y2 := hy2.symm
        rw [hy3]
        rw [← hy2] at hng
        have HY2 := Lib.hid hy2
        clear hy2 hy3
        go_wp2_with fail
        go_ret2
        exact ⟨by rw [← HY2.out]; rfl, rfl⟩
set_option maxRecDepth 100000 in
theorem rFrom32_zero (s : Bool) (w : World) :
    Calls Tryz.prog 136 #[.int .u32 (if s = true then 2147483648 else 0)] w fun e w' => e = .returned (.tuple #[.float .f32 (if s = true then 2147483648 else 0), .int .i64 0]) ∧ w = w' := by
  have hc0 := conv_up32 0
  have e0 : wd32 0 0 = 0 := by decide
  rw [e0] at hc0
  have b1 : bits .and .u32 256 255 = 0 := by decide
  have b2 : bits .and .u32 0 255 = 0 := by decide
  have b3 : bits .and .u32 2147483648 8388607 = 0 := by decide
  have b4 : bits .and .u32 0 8388607 = 0 := by decide
  have hng := neg_up32 (r := 0) (by decide)
  have qd := run_quo (P := Tryz.prog) (show FloatKind.f32.format.div 0 1073741824 = some 0 by decide)
  change ∀ w, (convert 42 91 (.int .u64 0)).run Tryz.prog w = .ok (.float .f32 0) w at hc0
  cases s
  all_goals
    simp only [Bool.false_eq_true, if_false, if_true]
    go_enter Tryz.func136, Tryz.ntmps136
    go_wp2_with fail
    go_loopw [13, 14] (fun f i wr => ∃ k : Nat, k ≤ 149 ∧ f = .float .f32 0 ∧ i = .int .i64 k ∧ wr = w) (fun _ i _ => 149 - (intOf i).toNat)
    case atStart => exact ⟨0, by decide, rfl, rfl, rfl⟩
    case round =>
      obtain ⟨k, hk, rfl, rfl, hwr⟩ := hrel
      obtain rfl : w = wr := hwr.symm
      by_cases hc : k < 149
      · go_wp2_with fail
        go_roundw
        case rel => exact ⟨k + 1, by omega, rfl, by go_num, trivial⟩
        case measure => simp [intOf]; omega
      · obtain rfl : k = 149 := by omega
        go_wp2_with fail
        go_ret2
        exact ⟨rfl, rfl⟩
theorem rFrom32_inf (s : Bool) (w : World) :
    Calls Tryz.prog 136 #[.int .u32 ((if s = true then 2147483648 else 0) + 2139095040)] w fun e w' => e = .returned (.tuple #[.float .f32 ((if s = true then 2147483648 else 0) + 2139095040), .int .i64 0]) ∧ w = w' := by
  have b1 : bits .and .u32 511 255 = 255 := by decide
  have b2 : bits .and .u32 255 255 = 255 := by decide
  have b3 : bits .and .u32 4286578688 8388607 = 0 := by decide
  have b4 : bits .and .u32 2139095040 8388607 = 0 := by decide
  have b5 : bits .or .u64 9223372036854775808 9218868437227405312 = 18442240474082181120 := by decide
  have b6 : bits .or .u64 0 9218868437227405312 = 9218868437227405312 := by decide
  have hsl := fun y z (h : floatToFloatBits .f64 y .f32 = some z) => run_slim h
  have h1 := hsl 9218868437227405312 2139095040 (by decide)
  have h2 := hsl 18442240474082181120 4286578688 (by decide)
  have HF := Lib.hid (rFrom64_inf s w)
  clear hsl
  cases s
  all_goals
    simp only [Bool.false_eq_true, if_false, if_true, Nat.zero_add] at HF ⊢
    go_enter Tryz.func136, Tryz.ntmps136
    go_wp2_with fail
    refine HF.out.mono ?_
    rintro e w' ⟨rfl, hw⟩
    obtain rfl : w = w' := hw
    go_wp2_with fail
    go_ret2
    exact ⟨rfl, rfl⟩
theorem rFrom32_bad (B : Int) (n : Nat) (w : World) (h0 : (B == 2143289344) = false) (h1 : 0 < n) (hn : n < 8388608) (a1 : bits .and .u32 (B / 8388608) 255 = 255) (a2 : bits .and .u32 B 8388607 = n) :
    Calls Tryz.prog 136 #[.int .u32 B] w fun e w' => e = .returned (.tuple #[.float .f32 0, .int .i64 10]) ∧ w = w' := by
  have hne : ((n : Int) != 0) = true := by rw [bne_iff_ne]; omega
  have e7 : IntKind.u64.wrap (n : Int) = n := by rw [IntKind.wrap_u64]; omega
  generalize (n : Int) = ni at *
  clear h1 hn
  go_enter Tryz.func136, Tryz.ntmps136
  go_wp2_with fail
  go_ret2
  exact ⟨rfl, rfl⟩
theorem rFrom32_nan (w : World) :
    Calls Tryz.prog 136 #[.int .u32 2143289344] w fun e w' => ∃ x, nanF .f32 x = true ∧ e = .returned (.tuple #[.float .f32 x, .int .i64 0]) ∧ w' = w.drew.drew := by
  have b1 : bits .and .u32 255 255 = 255 := by decide
  have b3 : bits .and .u32 2143289344 8388607 = 4194304 := by decide
  have HF := Lib.hid (rFrom64_nan w)
  go_enter Tryz.func136, Tryz.ntmps136
  go_wp2_with fail
  refine HF.out.mono ?_
  rintro e w' ⟨x, hx, rfl, hw⟩
  obtain rfl : w' = w.drew := hw
  obtain ⟨y, hy, hr⟩ := run_slim_nan hx w.drew
  have HY := Lib.hid hy
  clear hx hy
  go_wp2_with fail
  go_ret2
  exact ⟨y, HY.out, rfl, rfl⟩
end Go.Proofs.YtlcjfafmmoncpaaGreatDoor
