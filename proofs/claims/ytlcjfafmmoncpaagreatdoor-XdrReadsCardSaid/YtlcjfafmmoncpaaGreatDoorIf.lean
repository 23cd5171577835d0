/- The document's numbers (callboxref01): Bits32. -/
import Derived.Test.YtlcjfafmmoncpaaGreatDoorIe
namespace Go.Proofs.YtlcjfafmmoncpaaGreatDoor
open Go.RowKit
set_option linter.unusedVariables false
set_option linter.unusedSimpArgs false

theorem and_low (a k : Nat) (ha : a < 18446744073709551616) (hk : k ≤ 63) : bits .and .u64 (a : Int) (((2 ^ k - 1 : Nat) : Int)) = ((a % 2 ^ k : Nat) : Int) := by
  have h1 : 2 ^ k - 1 < 18446744073709551616 := by
    have : 2 ^ k ≤ 2 ^ 63 := Nat.pow_le_pow_right (by decide) hk
    omega
  rw [u64_and_nat a _ ha h1, Nat.and_two_pow_sub_one_eq_mod]
theorem or32 (s : Bool) {a : Int} (h0 : 0 ≤ a) (h : a < 2147483648) : bits .or .u32 (if s = true then 2147483648 else 0) a = (if s = true then 2147483648 else 0) + a := by
  cases s
  · simp only [Bool.false_eq_true, if_false]
    rw [u32_or _ _ (by omega) (by omega) (by omega) (by omega)]
    simp
    omega
  · simp only [if_true]
    rw [u32_or _ _ (by omega) (by omega) (by omega) (by omega), nat_join 31 _ _ (by decide) (by omega)]
    omega

set_option maxRecDepth 100000 in
theorem narrow_fin (s : Bool) (M : Nat) (q : Int) (w : World) (h1 : 0 < M) (h2 : M < 16777216) (h3 : -149 ≤ q) (h4 : q ≤ 104) (h5 : (8388608 ≤ M ∧ (wd32 M q : Int) = (q + 149) * 8388608 + M) ∨ (M < 8388608 ∧ q = -149 ∧ wd32 M q = M)) :
    Calls Tryz.prog 159 #[.int .u64 (((if s = true then 9223372036854775808 else 0) + wd64 M q : Nat) : Int)] w fun e w' => e = .returned (.tuple #[.int .u32 (((if s = true then 2147483648 else 0) + wd32 M q : Nat) : Int), .bool true]) ∧ w = w' := by
  obtain ⟨T, t1, tv, t2, t3⟩ := wd_val64 h1 (by omega : M < 9007199254740992) (q := q) (by omega)
  have hbig : ∀ k, 53 ≤ k → 9007199254740992 ≤ M * 2 ^ k := fun k hk => by
    have a1 : 2 ^ 53 ≤ 2 ^ k := Nat.pow_le_pow_right (by decide) hk
    have a2 : 1 * 2 ^ k ≤ M * 2 ^ k := Nat.mul_le_mul_right _ h1
    omega
  have hT52 : T ≤ 52 := by
    apply Nat.le_of_not_lt
    intro hc
    have := hbig T (by omega)
    omega
  have hN : 4503599627370496 ≤ M * 2 ^ T := by
    rcases t3 with t3 | t3
    · exact t3
    · omega
  have hT29 : 29 ≤ T := by
    apply Nat.le_of_not_lt
    intro hc
    have a1 : 2 ^ T ≤ 2 ^ 28 := Nat.pow_le_pow_right (by decide) (by omega)
    have a2 : M * 2 ^ T ≤ M * 2 ^ 28 := Nat.mul_le_mul_left _ a1
    omega
  have hnT : 8388608 ≤ M → T = 29 := fun h => by
    apply Nat.le_antisymm _ hT29
    apply Nat.le_of_not_lt
    intro hc
    have a1 : 2 ^ 30 ≤ 2 ^ T := Nat.pow_le_pow_right (by decide) (by omega)
    have a2 : M * 2 ^ 30 ≤ M * 2 ^ T := Nat.mul_le_mul_left _ a1
    omega
  have hsT : M < 8388608 → 30 ≤ T := fun h => by
    apply Nat.le_of_not_lt
    intro hc
    have a1 : 2 ^ T ≤ 2 ^ 29 := Nat.pow_le_pow_right (by decide) (by omega)
    have a2 : M * 2 ^ T ≤ M * 2 ^ 29 := Nat.mul_le_mul_left _ a1
    omega
  have hdiv : M * 2 ^ T / 2 ^ T = M := Nat.mul_div_cancel _ (Nat.two_pow_pos T)
  obtain ⟨E, hE⟩ : ∃ E : Nat, (E : Int) = q - T + 1075 := ⟨(q - T + 1075).toNat, by omega⟩
  obtain ⟨n, hn⟩ : ∃ n : Nat, M * 2 ^ T = 4503599627370496 + n := ⟨M * 2 ^ T - 4503599627370496, by omega⟩
  obtain ⟨B, hB⟩ : ∃ B : Nat, B = (if s = true then 9223372036854775808 else 0) + wd64 M q := ⟨_, rfl⟩
  have hwd : wd64 M q = E * 4503599627370496 + n := by
    have e : E = (q - (T : Int) + 1074).toNat + 1 := by clear hbig hn hnT hsT hN t2 t3 tv hdiv hB; omega
    rw [tv, hn, e, Nat.add_mul, Nat.one_mul, Nat.add_assoc]
  have hE2 : 1 ≤ E ∧ E ≤ 2046 := by clear hbig hn hnT hsT hN t2 t3 tv hdiv hB; omega
  have hn2 : n < 4503599627370496 := by rw [hn] at t2; clear hbig hn hnT hsT hN t3 tv hdiv hB; omega
  have hlt : wd64 M q < 9218868437227405312 := by rw [hwd]; clear hbig hn hnT hsT hN t2 t3 tv hdiv hB; omega
  have hBE : B = ((if s = true then 2048 else 0) + E) * 4503599627370496 + n := by rw [hB]; split <;> omega
  have hB18 : B < 18446744073709551616 := by rw [hB]; split <;> omega
  have a1 : bits .and .u64 ((B : Int) / 4503599627370496) 2047 = E := by
    have e1 : ((B : Int) / 4503599627370496) = ((B / 4503599627370496 : Nat) : Int) := by simp
    have h := and_low (B / 4503599627370496) 11 (by omega) (by decide)
    rw [e1]
    refine h.trans ?_
    show ((B / 4503599627370496 % 2048 : Nat) : Int) = E
    rw [hBE]
    split <;> omega
  have a2 : bits .and .u64 (B : Int) 4503599627370495 = n := by
    have h := and_low B 52 hB18 (by decide)
    refine h.trans ?_
    show ((B % 4503599627370496 : Nat) : Int) = n
    rw [hBE]
    split <;> omega
  have hP := parts_any B E n w (by omega) (by omega) a1 a2
  have e1 : ((n : Int) + 4503599627370496) = ((M * 2 ^ T : Nat) : Int) := by omega
  have e2 : (E : Int) - 1075 = q - T := by omega
  rw [e1, e2] at hP
  have hb3 : (B : Int) / 9223372036854775808 = if s = true then 1 else 0 := by rw [hB]; split <;> omega
  have hbn : (B : Int) ≠ 9221120237041090560 := by rw [hB]; split <;> omega
  have hb2 : IntKind.u64.wrap ((B : Int) * 2) ≠ 18437736874454810624 := by rw [IntKind.wrap_u64, hB]; split <;> omega
  rw [← hB]
  refine narrow_core s B _ (M * 2 ^ T) M T (q - T) q w ⟨hN, t2⟩ (by omega) ?_ (by omega) ⟨hT29, hT52⟩ hdiv rfl h2 h4 hb3 hbn hb2 ?_ ?_ ?_ ?_ hP
  · rcases h5 with h5 | h5
    · have := hnT h5.1; omega
    · have := hsT h5.1; omega
  · intro h
    rcases h5 with h5 | h5
    · omega
    · rw [or32 s (by omega) (by omega), h5.2.2]; split <;> omega
  · intro h
    rcases h5 with h5 | h5
    · have em : (q + 150) % 4294967296 * 8388608 % 4294967296 = (q + 150) * 8388608 := by omega
      rw [em, or32 s (by omega) (by omega), u32_or _ _ (by split <;> omega) (by split <;> omega) (by omega) (by omega), nat_join 23 _ _ (by split <;> omega) (by omega)]
      split <;> omega
    · omega
  · constructor
    · intro h
      apply Nat.lt_of_not_le
      intro hc
      have := hnT hc; omega
    · intro h
      apply Nat.le_of_not_lt
      intro hc
      have := hsT hc
      rcases h5 with h5 | h5 <;> omega
  · intro hs
    rw [hB, hs]
    simp only [Bool.false_eq_true, if_false]
    omega

theorem parts_zero (s : Bool) (w : World) : Calls Tryz.prog 184 #[.int .u64 (if s = true then 9223372036854775808 else 0)] w fun r w' => r = .returned (.tuple #[.int .u64 0, .int .i64 (-1074)]) ∧ w = w' := by
  have a1 : bits .and .u64 2048 2047 = 0 := by decide
  have a2 : bits .and .u64 0 2047 = 0 := by decide
  have a3 : bits .and .u64 9223372036854775808 4503599627370495 = 0 := by decide
  have a4 : bits .and .u64 0 4503599627370495 = 0 := by decide
  cases s
  all_goals
    simp only [Bool.false_eq_true, if_false, if_true]
    go_enter Tryz.func184, Tryz.ntmps184
    go_wp2
    go_ret2
    exact ⟨rfl, rfl⟩
set_option maxRecDepth 100000 in
theorem narrow_zero (s : Bool) (w : World) : Calls Tryz.prog 159 #[.int .u64 (if s = true then 9223372036854775808 else 0)] w fun r w' => r = .returned (.tuple #[.int .u32 (if s = true then 2147483648 else 0), .bool true]) ∧ w = w' := by
  have HP := Lib.hid (parts_zero s w)
  cases s
  all_goals
    simp only [Bool.false_eq_true, if_false, if_true] at HP ⊢
    go_enter Tryz.func159, Tryz.ntmps159
    go_wp2_with fail
    refine HP.out.mono ?_
    rintro e w' ⟨rfl, hw⟩
    obtain rfl : w = w' := hw
    go_wp2_with fail
    go_ret2
    exact ⟨rfl, rfl⟩
theorem narrow_inf (s : Bool) (w : World) : Calls Tryz.prog 159 #[.int .u64 ((if s = true then 9223372036854775808 else 0) + 9218868437227405312)] w fun r w' => r = .returned (.tuple #[.int .u32 ((if s = true then 2147483648 else 0) + 2139095040), .bool true]) ∧ w = w' := by
  have a1 : bits .or .u32 2147483648 2139095040 = 4286578688 := by decide
  have a2 : bits .or .u32 0 2139095040 = 2139095040 := by decide
  cases s
  all_goals
    simp only [Bool.false_eq_true, if_false, if_true]
    go_enter Tryz.func159, Tryz.ntmps159
    go_wp2
    go_ret2
    exact ⟨rfl, rfl⟩
theorem narrow_nan (w : World) : Calls Tryz.prog 159 #[.int .u64 9221120237041090560] w fun r w' => r = .returned (.tuple #[.int .u32 2143289344, .bool true]) ∧ w = w' := by
  go_enter Tryz.func159, Tryz.ntmps159
  go_wp2
  go_ret2
  exact ⟨rfl, rfl⟩

theorem read_neg32 {r : Nat} (h : r < 2147483648) : Ieee.single.read (2147483648 + r) = (Ieee.single.read r).opposite := by
  obtain ⟨f1, f2, f3, f4, f5⟩ := fields32
  unfold Ieee.Format.read
  rw [f2, f3, f4, f5]
  dsimp only
  have e1 : (2147483648 + r) / 2147483648 % 2 = 1 := by omega
  have e2 : (2147483648 + r) % 2147483648 = r := by omega
  have e3 : r / 2147483648 % 2 = 0 := by omega
  have e4 : r % 2147483648 = r := by omega
  rw [e1, e2, e3, e4]
  split
  · rfl
  · split
    · rfl
    · split
      · rfl
      · rfl
theorem read_nan32 {r : Nat} (h1 : r < 2147483648) (h2 : 2139095040 < r) : Ieee.single.read r = .nan false (r - 2139095040) := by
  obtain ⟨f1, f2, f3, f4, f5⟩ := fields32
  unfold Ieee.Format.read
  rw [f2, f3, f4, f5]
  dsimp only
  have e3 : r / 2147483648 % 2 = 0 := by omega
  have e4 : r % 2147483648 = r := by omega
  rw [e3, e4, if_neg (by omega), if_neg (by omega), if_neg (by omega)]
  rfl
theorem parts_of32 {x : Nat} (hx : x < 4294967296) (h : nanF .f32 x = false) : ∃ (s : Bool) (r : Nat), x = (if s = true then 2147483648 else 0) + r ∧ r ≤ 2139095040 := by
  by_cases hs : x < 2147483648
  · refine ⟨false, x, by simp, ?_⟩
    apply Nat.le_of_not_lt
    intro hc
    have hk := read_nan32 hs hc
    have : nanF .f32 x = true := by
      show (Ieee.single.order x x != some .eq) = true
      unfold Ieee.Format.order
      rw [hk]; rfl
    rw [this] at h; cases h
  · refine ⟨true, x - 2147483648, by simp; omega, ?_⟩
    apply Nat.le_of_not_lt
    intro hc
    have hk := read_nan32 (r := x - 2147483648) (by omega) hc
    have hr := read_neg32 (r := x - 2147483648) (by omega)
    rw [hk, show 2147483648 + (x - 2147483648) = x by omega] at hr
    have : nanF .f32 x = true := by
      show (Ieee.single.order x x != some .eq) = true
      unfold Ieee.Format.order
      rw [hr]; rfl
    rw [this] at h; cases h
/-- a NaN's datum. -/
theorem nan_read32 {x : Nat} (h : nanF .f32 x = true) : ∃ b f, Ieee.single.read x = .nan b f := by
  have h : (Ieee.single.order x x != some .eq) = true := h
  unfold Ieee.Format.order at h
  cases hr : Ieee.single.read x with
  | number s m i => rw [hr, cmp_self] at h; cases h
  | infinity s => rw [hr] at h; cases s <;> cases h
  | nan b f => exact ⟨b, f, rfl⟩
/-- the wide number that a narrow one is. -/
theorem widen_fin (s : Bool) {M : Nat} {q : Int} (h1 : 0 < M) (h2 : M < 16777216) (h3 : -149 ≤ q) (h4 : q ≤ 104) : floatToFloatBits .f32 ((if s = true then 2147483648 else 0) + wd32 M q) .f64 = some ((if s = true then 9223372036854775808 else 0) + wd64 M q) := by
  obtain ⟨t, hr, _, hlt⟩ := wd_read32 h1 h2 ⟨h3, h4⟩
  obtain ⟨u, hr2, _, hlt2⟩ := wd_read64 h1 (by omega : M < 9007199254740992) (q := q) (by omega)
  have hd : FloatKind.decode .f32 ((if s = true then 2147483648 else 0) + wd32 M q) = .number s (M * 2 ^ t) (q - t) := by
    show Ieee.single.read _ = _
    cases s
    · simp only [Bool.false_eq_true, if_false, Nat.zero_add]; exact hr
    · simp only [if_true]; rw [read_neg32 (by omega), hr]; rfl
  have he : FloatKind.encode .f64 (.number s (M * 2 ^ t) (q - t)) = (if s = true then 9223372036854775808 else 0) + wd64 M q := by
    show Ieee.double.nearest s _ _ = _
    rw [nearest_shift _ _ _ _ h1]
    cases s
    · simp only [Bool.false_eq_true, if_false, Nat.zero_add]; rfl
    · simp only [if_true]; rw [nearest_neg, fields64.2.2.2.2]; rfl
  have hi : (FloatKind.decode .f64 ((if s = true then 9223372036854775808 else 0) + wd64 M q)).isInfinity = false := by
    show (Ieee.double.read _).isInfinity = false
    cases s
    · simp only [Bool.false_eq_true, if_false, Nat.zero_add]; rw [hr2]; rfl
    · simp only [if_true]; rw [read_neg64 (by omega), hr2]; rfl
  unfold floatToFloatBits
  rw [if_neg (by decide), hd]
  dsimp only
  rw [he, hi]
  rfl
theorem widen_any {x : Nat} (hx : x < 4294967296) (h : nanF .f32 x = false) : ∃ (s : Bool) (r : Nat), x = (if s = true then 2147483648 else 0) + r ∧
    ((r = 0 ∧ floatToFloatBits .f32 x .f64 = some ((if s = true then 9223372036854775808 else 0) + 0)) ∨ (r = 2139095040 ∧ floatToFloatBits .f32 x .f64 = some ((if s = true then 9223372036854775808 else 0) + 9218868437227405312)) ∨
      ∃ (M : Nat) (q : Int), r = wd32 M q ∧ 0 < M ∧ M < 16777216 ∧ -149 ≤ q ∧ q ≤ 104 ∧ ((8388608 ≤ M ∧ (wd32 M q : Int) = (q + 149) * 8388608 + M) ∨ (M < 8388608 ∧ q = -149 ∧ wd32 M q = M)) ∧ floatToFloatBits .f32 x .f64 = some ((if s = true then 9223372036854775808 else 0) + wd64 M q)) := by
  obtain ⟨s, r, rfl, hr⟩ := parts_of32 hx h
  refine ⟨s, r, rfl, ?_⟩
  by_cases h0 : r = 0
  · subst h0
    exact .inl ⟨rfl, by cases s <;> decide⟩
  · by_cases hi : r = 2139095040
    · subst hi
      exact .inr (.inl ⟨rfl, by cases s <;> decide⟩)
    · obtain ⟨M, q, rfl, h1, h2, h3, h4, h5⟩ := canon32 (by omega) (by omega : r < 2139095040)
      exact .inr (.inr ⟨M, q, rfl, h1, h2, h3, h4, h5, widen_fin s h1 h2 h3 h4⟩)
theorem run_widen {x y : Nat} (h : floatToFloatBits .f32 x .f64 = some y) (w : World) : (convert 91 103 (.float .f32 x)).run Tryz.prog w = .ok (.float .f64 y) w :=
  run_convert_float_float w 91 103 .f32 .f64 x y (by kernel_rfl) Tryz.underlying103 h
theorem run_widen_nan {x : Nat} (h : nanF .f32 x = true) (w : World) : ∃ y, nanF .f64 y = true ∧ y < 18446744073709551616 ∧ (convert 91 103 (.float .f32 x)).run Tryz.prog w = .ok (.float .f64 y) w.drew := by
  obtain ⟨b, f, hr⟩ := nan_read32 h
  refine ⟨_, nan_drawn64 (w.tape w.drawn (.nanConv .f64 x)), by omega, ?_⟩
  have hr' : FloatKind.decode .f32 x = .nan b f := hr
  simp [convert, run_underlying Tryz.underlying91, run_underlying Tryz.underlying103, Conv.floatToFloat, hr', Question.forced, Question.cut]
/-- callboxref01.Bits32. -/
theorem rBits32_core {x B : Nat} {X : Int} (w : World) (hc : ∀ w, (convert 91 103 (.float .f32 x)).run Tryz.prog w = .ok (.float .f64 B) w) (hB : B < 18446744073709551616) (hn : bitsF .f64 B = B)
    (hN : ∀ w, Calls Tryz.prog 159 #[.int .u64 (B : Int)] w fun e w' => e = .returned (.tuple #[.int .u32 X, .bool true]) ∧ w = w') :
    Calls Tryz.prog 127 #[.float .f32 x] w fun e w' => e = .returned (.int .u32 X) ∧ w = w' := by
  have HN := Lib.hid (hN w)
  have HB := Lib.hid (rBits64_any B w (by rw [hn]; exact hB))
  rw [hn] at HB
  clear hN hn hB
  go_enter Tryz.func127, Tryz.ntmps127
  go_wp2_with fail
  refine HB.out.mono ?_
  rintro e w' ⟨rfl, hw⟩
  obtain rfl : w = w' := hw
  go_wp2_with fail
  refine HN.out.mono ?_
  rintro e w' ⟨rfl, hw⟩
  obtain rfl : w = w' := hw
  go_wp2_with fail
  go_ret
  exact ⟨rfl, rfl⟩
theorem rBits32_any (x : Nat) (w : World) (hx : bitsF .f32 x < 4294967296) : Calls Tryz.prog 127 #[.float .f32 x] w fun e w' => e = .returned (.int .u32 (bitsF .f32 x : Nat)) ∧ (w' = w ∨ w' = w.drew) := by
  by_cases h : nanF .f32 x = true
  · rw [show bitsF .f32 x = 2143289344 from if_pos h]
    obtain ⟨y, hy, hy2, hr⟩ := run_widen_nan h w
    have HB := Lib.hid (rBits64_nan y w.drew hy)
    have HN := Lib.hid (narrow_nan w.drew)
    clear h hy hy2
    go_enter Tryz.func127, Tryz.ntmps127
    go_wp2_with fail
    refine HB.out.mono ?_
    rintro e w' ⟨rfl, hw⟩
    obtain rfl : w.drew = w' := hw
    go_wp2_with fail
    refine HN.out.mono ?_
    rintro e w' ⟨rfl, hw⟩
    obtain rfl : w.drew = w' := hw
    go_wp2_with fail
    go_ret
    exact ⟨rfl, .inr rfl⟩
  · rw [show bitsF .f32 x = x from if_neg h] at hx ⊢
    obtain ⟨s, r, rfl, hr⟩ := widen_any hx (by simpa using h)
    have hno : ∀ v, v ≤ 9218868437227405312 → bitsF .f64 ((if s = true then 9223372036854775808 else 0) + v) = (if s = true then 9223372036854775808 else 0) + v := fun v hv => by
      unfold bitsF
      rw [nan_no64 s hv]
      rfl
    have hlt : ∀ v, v ≤ 9218868437227405312 → (if s = true then 9223372036854775808 else 0) + v < 18446744073709551616 := fun v hv => by split <;> omega
    rcases hr with ⟨rfl, hw⟩ | ⟨rfl, hw⟩ | ⟨M, q, rfl, h1, h2, h3, h4, h5, hw⟩
    · refine (rBits32_core w (run_widen hw) (hlt _ (by decide)) (hno _ (by decide)) (X := ((if s = true then 2147483648 else 0) + 0 : Nat)) (fun w => ?_)).mono fun _ _ h => ⟨h.1, .inl h.2.symm⟩
      have := narrow_zero s w
      cases s <;> exact this
    · refine (rBits32_core w (run_widen hw) (hlt _ (by decide)) (hno _ (by decide)) (X := ((if s = true then 2147483648 else 0) + 2139095040 : Nat)) (fun w => ?_)).mono fun _ _ h => ⟨h.1, .inl h.2.symm⟩
      have := narrow_inf s w
      cases s <;> exact this
    · obtain ⟨t, _, _, hl⟩ := wd_read64 h1 (by omega : M < 9007199254740992) (q := q) (by omega)
      exact (rBits32_core w (run_widen hw) (hlt _ (by omega)) (hno _ (by omega)) (fun w => narrow_fin s M q w h1 h2 h3 h4 h5)).mono fun _ _ h => ⟨h.1, .inl h.2.symm⟩
end Go.Proofs.YtlcjfafmmoncpaaGreatDoor
