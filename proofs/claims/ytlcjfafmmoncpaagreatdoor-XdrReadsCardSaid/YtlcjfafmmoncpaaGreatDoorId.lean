/- The document's numbers (callboxref01): the bits of one, found by halving and doubling. -/
import Derived.Test.YtlcjfafmmoncpaaGreatDoorIc
namespace Go.Proofs.YtlcjfafmmoncpaaGreatDoor
open Go.RowKit
set_option linter.unusedVariables false
set_option linter.unusedSimpArgs false

theorem cmp_self (s : Bool) (m : Nat) (i : Int) : (Ieee.Datum.number s m i).order (.number s m i) = some .eq := by
  unfold Ieee.Datum.order
  dsimp only
  congr 1
  rw [Int.compare_eq_eq]
theorem nan_no64 (s : Bool) {r : Nat} (h : r ≤ 9218868437227405312) : nanF .f64 ((if s = true then 9223372036854775808 else 0) + r) = false := by
  by_cases h0 : r = 0
  · subst h0; cases s <;> decide
  · by_cases hi : r = 9218868437227405312
    · subst hi; cases s <;> decide
    · obtain ⟨M, q, rfl, h1, h2, h3, h4, _⟩ := canon64 (by omega) (by omega : r < 9218868437227405312)
      obtain ⟨t, hr, _, hlt⟩ := wd_read64 h1 h2 ⟨h3, h4⟩
      show (Ieee.double.order _ _ != some .eq) = false
      unfold Ieee.Format.order
      cases s
      · simp only [Bool.false_eq_true, if_false, Nat.zero_add]
        rw [hr, cmp_self]; rfl
      · simp only [if_true]
        rw [read_neg64 (by omega), hr]
        show ((Ieee.Datum.number _ _ _).order (.number _ _ _) != some .eq) = false
        rw [cmp_self]; rfl
theorem conv_whole {M : Nat} (h1 : 0 < M) (h2 : M < 9007199254740992) (w : World) : (convert 103 42 (.float .f64 (wd64 M 0))).run Tryz.prog w = .ok (.int .u64 (M : Int)) w := by
  refine run_convert_float_int w 103 42 .f64 .u64 _ _ (by kernel_rfl) Tryz.underlying42 ?_
  unfold floatToIntVal
  rw [show FloatKind.decode .f64 (wd64 M 0) = Ieee.double.read (wd64 M 0) from rfl, wd_whole64 h1 h2]
  dsimp only
  rw [if_pos ⟨by show (0 : Int) ≤ M; omega, by show (M : Int) ≤ 18446744073709551615; omega⟩]

theorem or_norm64 (s : Bool) {q : Int} {M : Nat} (hq : -1074 ≤ q ∧ q ≤ 971) (h1 : 4503599627370496 ≤ M) (h2 : M < 9007199254740992) : bits .or .u64 (bits .or .u64 (if s = true then 9223372036854775808 else 0) ((q + 52 + 1023) * 4503599627370496)) ((M : Int) - 4503599627370496) = (if s = true then 9223372036854775808 else 0) + ((q + 1074) * 4503599627370496 + M) := by
  obtain ⟨E, hE⟩ : ∃ E : Nat, q + 52 + 1023 = E := ⟨(q + 52 + 1023).toNat, by omega⟩
  obtain ⟨m, hm⟩ : ∃ m : Nat, (M : Int) - 4503599627370496 = m := ⟨M - 4503599627370496, by omega⟩
  rw [hE, hm]
  have e1 : bits .or .u64 (if s = true then 9223372036854775808 else 0) ((E : Int) * 4503599627370496) = (if s = true then 9223372036854775808 else 0) + (E : Int) * 4503599627370496 := by
    cases s
    · simp only [Bool.false_eq_true, if_false]
      rw [u64_or _ _ (by omega) (by omega) (by omega) (by omega)]
      simp
      omega
    · simp only [if_true]
      rw [u64_or _ _ (by omega) (by omega) (by omega) (by omega), nat_join 63 _ _ (by decide) (by omega)]
      omega
  rw [e1, u64_or _ _ (by split <;> omega) (by split <;> omega) (by omega) (by omega), nat_join 52 _ _ (by split <;> omega) (by omega)]
  split <;> omega
theorem or_sub64 (s : Bool) {M : Nat} (h2 : M < 9223372036854775808) : bits .or .u64 (if s = true then 9223372036854775808 else 0) (M : Int) = (if s = true then 9223372036854775808 else 0) + M := by
  cases s
  · simp only [Bool.false_eq_true, if_false]
    rw [u64_or _ _ (by omega) (by omega) (by omega) (by omega)]
    simp
  · simp only [if_true]
    rw [u64_or _ _ (by omega) (by omega) (by omega) (by omega), nat_join 63 _ _ (by decide) (by omega)]
    omega

set_option maxRecDepth 100000 in
set_option maxHeartbeats 2000000 in
theorem rBits64_fin (M : Nat) (q : Int) (s : Bool) (w : World) (h1 : 0 < M) (h2 : M < 9007199254740992) (h3 : -1074 ≤ q) (h4 : q ≤ 971) (h5 : 4503599627370496 ≤ M ∨ M < 4503599627370496 ∧ q = -1074) (hr : wd64 M q < 9218868437227405312)
    (hval : (wd64 M q : Int) = (q + 1074) * 4503599627370496 + M) :
    Calls Tryz.prog 130 #[.float .f64 ((if s = true then 9223372036854775808 else 0) + wd64 M q)] w fun e w' => e = .returned (.int .u64 (((if s = true then 9223372036854775808 else 0) + wd64 M q : Nat) : Int)) ∧ w = w' := by
  have hM0 : M ≠ 0 := by omega
  have hlog : M.log2 ≤ 52 := by
    have := (Nat.log2_lt hM0 (k := 53)).2 h2
    omega
  have hlog2 : 4503599627370496 ≤ M → M.log2 = 52 := fun h => by
    have := (Nat.le_log2 hM0 (k := 52)).2 h
    omega
  have hlog3 : M < 4503599627370496 → M.log2 < 52 := fun h => (Nat.log2_lt hM0 (k := 52)).2 h
  have HH := Lib.hid (half_any s (wd64 M q) w (by omega))
  have HI := Lib.hid (infinite_any (wd64 M q) w (by omega))
  have hne : (wd64 M q == 9218868437227405312) = false := by simpa using (by omega : wd64 M q ≠ 9218868437227405312)
  rw [hne] at HI
  have hnan : (FloatKind.f64.format.order ((if s = true then 9223372036854775808 else 0) + wd64 M q) ((if s = true then 9223372036854775808 else 0) + wd64 M q) != some .eq) = false := nan_no64 s (by omega)
  have HV := Lib.hid hval
  have HO1 := Lib.hid (fun p (hp : -1074 ≤ p ∧ p ≤ 971) => wd_ord64 h1 h2 hp (c := 4611686018427387904) (k := 52) (j := -51) (by decide))
  have HO2 := Lib.hid (fun p (hp : -1074 ≤ p ∧ p ≤ 971) => wd_ord64 h1 h2 hp (c := 4607182418800017408) (k := 52) (j := -52) (by decide))
  have HO3 := Lib.hid (fun p (hp : -1074 ≤ p ∧ p ≤ 971) => wd_zero64 h1 h2 hp)
  have HD := Lib.hid (fun p (hp : -1074 ≤ p ∧ p ≤ 971) => run_quo (P := Tryz.prog) (k := .f64) (wd_half64 h1 h2 hp))
  have HM := Lib.hid (fun p (hp : -1074 ≤ p ∧ p ≤ 971) => run_mul (P := Tryz.prog) (k := .f64) (wd_mul64 h1 h2 hp (c := 4611686018427387904) (k := 52) (j := -51) (by decide)))
  have HT := Lib.hid (run_mul (P := Tryz.prog) (k := .f64) (wd_mul64 h1 h2 (q := -52) (by decide) (c := 4841369599423283200) (k := 52) (j := 0) (by decide)))
  have HL := Lib.hid (And.intro hlog (And.intro hlog2 hlog3))
  have H5 := Lib.hid h5
  clear hlog hlog2 hlog3 hne hval h5
  generalize hx : (if s = true then 9223372036854775808 else 0) + wd64 M q = x at *
  have HX := Lib.hid hx
  clear hx hr
  go_enter Tryz.func130, Tryz.ntmps130
  go_wp2_with fail
  refine HH.out.mono ?_
  rintro e w' ⟨rfl, hw⟩
  obtain rfl : w = w' := hw
  have HC := Lib.hid (conv_whole h1 h2)
  have HN1 : Hid (4503599627370496 ≤ M → bits .or .u64 (bits .or .u64 (if s = true then 9223372036854775808 else 0) ((q + 52 + 1023) * 4503599627370496)) ((M : Int) - 4503599627370496) = (x : Int)) := Lib.hid (fun h => by
    rw [or_norm64 s ⟨h3, h4⟩ h h2, ← HV.out, ← HX.out]
    split <;> omega)
  have HN2 : Hid (q = -1074 → bits .or .u64 (if s = true then 9223372036854775808 else 0) (M : Int) = (x : Int)) := Lib.hid (fun h => by
    have := HV.out
    rw [or_sub64 s (by omega), ← HX.out]
    split <;> omega)
  cases s
  all_goals
    simp only [Bool.false_eq_true, if_false, if_true] at HN1 HN2
    go_wp2_with fail
    refine HI.out.mono ?_
    rintro e w' ⟨rfl, hw⟩
    obtain rfl : w = w' := hw
    go_wp2_with fail
    go_loopw [4, 6] (fun m e wr => ∃ p : Int, p ≤ q ∧ min q (-52) ≤ p ∧ m = .float .f64 (wd64 M p) ∧ e = .int .i64 (q - p) ∧ wr = w) (fun _ e _ => (q - intOf e + 52).toNat)
    case atStart => exact ⟨q, Int.le_refl _, by omega, rfl, by rw [Int.sub_self], rfl⟩
    case round =>
      obtain ⟨p, hp1, hp2, rfl, rfl, hwr⟩ := hrel
      obtain rfl : w = wr := hwr.symm
      by_cases hc : -52 < p
      · have o1 := (HO1.out p ⟨by omega, by omega⟩).2 (by have := HL.out.2.1; rcases H5.out with h5 | h5 <;> omega)
        have qd := HD.out p ⟨by omega, by omega⟩
        have hsum : IntKind.i64.wrap (q - p + 1) = q - p + 1 := by rw [IntKind.wrap_i64]; omega
        have HZ : Hid (∃ z, z = wd64 M (p - 1)) := Lib.hid ⟨_, rfl⟩
        obtain ⟨z, hz⟩ := HZ.out
        have HZ := Lib.hid hz
        rw [← hz] at qd
        clear hz
        generalize wd64 M p = y at *
        change FloatKind.f64.format.order _ _ = _ ∨ FloatKind.f64.format.order _ _ = _ at o1
        rcases o1 with o1 | o1
        all_goals
          go_wp2_with fail
          go_roundw
          case rel => exact ⟨p - 1, by omega, by omega, by rw [HZ.out], by congr 1; omega, trivial⟩
          case measure => simp [intOf]; omega
      · have o1 := (HO1.out p ⟨by omega, by omega⟩).1 (by have := HL.out.1; omega)
        change FloatKind.f64.format.order _ _ = _ at o1
        have hpe : p = min q (-52) := by omega
        have HP := Lib.hid hpe
        clear hpe hp1 hp2
        obtain ⟨y, hy⟩ : ∃ y, y = wd64 M p := ⟨_, rfl⟩
        have HY := Lib.hid hy
        rw [← hy] at o1 ⊢
        clear hy
        go_wp2_with fail
        go_loopw [4, 6] (fun m e wr => ∃ p : Int, min q (-52) ≤ p ∧ p ≤ -52 ∧ m = .float .f64 (wd64 M p) ∧ e = .int .i64 (q - p) ∧ wr = w) (fun _ e _ => (-52 - (q - intOf e)).toNat)
        case atStart => exact ⟨p, by have := HP.out; omega, by have := HP.out; omega, by rw [HY.out], rfl, rfl⟩
        case round =>
          clear o1 HY HP hc
          obtain ⟨p2, hp1, hp2, rfl, rfl, hwr⟩ := hrel
          obtain rfl : w = wr := hwr.symm
          have o3 := HO3.out p2 ⟨by omega, by omega⟩
          change FloatKind.f64.format.order _ _ = _ at o3
          by_cases hc : p2 < -52
          · have o2 := (HO2.out p2 ⟨by omega, by omega⟩).1 (by have := HL.out.2; rcases H5.out with h5 | ⟨h5, h6⟩ <;> omega)
            change FloatKind.f64.format.order _ _ = _ at o2
            have qm := HM.out p2 ⟨by omega, by omega⟩
            have hgt : -1022 < q - p2 := by omega
            have hsum : IntKind.i64.wrap (q - p2 - 1) = q - p2 - 1 := by rw [IntKind.wrap_i64]; omega
            obtain ⟨z, hz⟩ : ∃ z, z = wd64 M (p2 + -51 + (52 : Nat)) := ⟨_, rfl⟩
            have HZ := Lib.hid (show z = wd64 M (p2 + 1) by rw [hz]; congr 1; omega)
            rw [← hz] at qm
            clear hz
            generalize wd64 M p2 = y2 at *
            go_wp2_with fail
            go_roundw
            case rel => exact ⟨p2 + 1, by omega, by omega, by rw [HZ.out], by congr 1; omega, trivial⟩
            case measure => simp [intOf]; omega
          · obtain rfl : p2 = -52 := by omega
            have ht := HT.out
            have e0 : (-52 : Int) + 0 + (52 : Nat) = 0 := by decide
            rw [e0] at ht
            have hcv := HC.out
            rcases H5.out with h5 | ⟨h5, h6⟩
            · have o2 := (HO2.out (-52) (by decide)).2 (by have := HL.out.2.1 h5; omega)
              change FloatKind.f64.format.order _ _ = _ ∨ FloatKind.f64.format.order _ _ = _ at o2
              generalize wd64 M (-52) = y2 at *
              have hge : (4503599627370496 : Int) ≤ M := by omega
              generalize wd64 M 0 = y3 at *
              have hor := HN1.out h5
              rcases o2 with o2 | o2
              all_goals
                go_wp2_with fail
                go_ret
                exact ⟨rfl, rfl⟩
            · have o2 := (HO2.out (-52) (by decide)).1 (by have := HL.out.2.2 h5; omega)
              change FloatKind.f64.format.order _ _ = _ at o2
              have hge : (M : Int) < 4503599627370496 := by omega
              generalize wd64 M (-52) = y2 at *
              generalize wd64 M 0 = y3 at *
              have hor := HN2.out h6
              have hgt : q - -52 = -1022 := by omega
              rw [hgt]
              clear h6 h3 h4 h5 hgt h1 h2
              generalize (M : Int) = m at *
              go_wp2_with fail
              go_ret
              exact ⟨rfl, rfl⟩
set_option maxRecDepth 100000 in
theorem rBits64_zero (s : Bool) (w : World) : Calls Tryz.prog 130 #[.float .f64 ((if s = true then 9223372036854775808 else 0) + 0)] w fun e w' => e = .returned (.int .u64 (((if s = true then 9223372036854775808 else 0) + 0 : Nat) : Int)) ∧ w = w' := by
  have HH := Lib.hid (half_any s 0 w (by decide))
  have HI := Lib.hid (infinite_any 0 w (by decide))
  have o1 : FloatKind.f64.format.order 0 4611686018427387904 = some .lt := by decide
  have o2 : FloatKind.f64.format.order 0 0 = some .eq := by decide
  have q1 := run_mul (P := Tryz.prog) (show FloatKind.f64.format.mul 0 4841369599423283200 = some 0 by decide)
  have q2 : ∀ w, (convert 103 42 (.float .f64 0)).run Tryz.prog w = .ok (.int .u64 0) w := fun w => run_convert_float_int w 103 42 .f64 .u64 _ _ (by kernel_rfl) Tryz.underlying42 (by decide)
  have hnan := nan_no64 s (r := 0) (by decide)
  have hor := or_sub64 s (M := 0) (by decide)
  unfold nanF at hnan
  cases s
  all_goals
    simp only [Bool.false_eq_true, if_false, if_true, Nat.add_zero] at *
    go_enter Tryz.func130, Tryz.ntmps130
    go_wp2_with fail
    refine HH.out.mono ?_
    rintro e w' ⟨rfl, hw⟩
    obtain rfl : w = w' := hw
    go_wp2_with fail
    refine HI.out.mono ?_
    rintro e w' ⟨rfl, hw⟩
    obtain rfl : w = w' := hw
    go_wp2_with fail
    go_loopw [4, 6] (fun m e wr => m = .float .f64 0 ∧ e = .int .i64 0 ∧ wr = w) (fun _ _ _ => 0)
    case atStart => exact ⟨rfl, rfl, rfl⟩
    case round =>
      obtain ⟨rfl, rfl, hwr⟩ := hrel
      obtain rfl : w = wr := hwr.symm
      go_wp2_with fail
      go_loopw [4, 6] (fun m e wr => m = .float .f64 0 ∧ e = .int .i64 0 ∧ wr = w) (fun _ _ _ => 0)
      case atStart => exact ⟨rfl, rfl, rfl⟩
      case round =>
        obtain ⟨rfl, rfl, hwr⟩ := hrel
        obtain rfl : w = wr := hwr.symm
        go_wp2_with fail
        go_ret
        exact ⟨rfl, rfl⟩
theorem rBits64_inf (s : Bool) (w : World) : Calls Tryz.prog 130 #[.float .f64 ((if s = true then 9223372036854775808 else 0) + 9218868437227405312)] w fun e w' => e = .returned (.int .u64 (((if s = true then 9223372036854775808 else 0) + 9218868437227405312 : Nat) : Int)) ∧ w = w' := by
  have HH := Lib.hid (half_any s 9218868437227405312 w (by decide))
  have HI := Lib.hid (infinite_any 9218868437227405312 w (by decide))
  have hnan := nan_no64 s (r := 9218868437227405312) (by decide)
  have hor := or_sub64 s (M := 9218868437227405312) (by decide)
  unfold nanF at hnan
  cases s
  all_goals
    simp only [Bool.false_eq_true, if_false, if_true] at *
    go_enter Tryz.func130, Tryz.ntmps130
    go_wp2_with fail
    refine HH.out.mono ?_
    rintro e w' ⟨rfl, hw⟩
    obtain rfl : w = w' := hw
    go_wp2_with fail
    refine HI.out.mono ?_
    rintro e w' ⟨rfl, hw⟩
    obtain rfl : w = w' := hw
    go_wp2_with fail
    go_ret
    exact ⟨by first | rfl | (rw [Nat.zero_add]; rfl), rfl⟩
theorem rBits64_nan (x : Nat) (w : World) (h : nanF .f64 x = true) : Calls Tryz.prog 130 #[.float .f64 x] w fun e w' => e = .returned (.int .u64 9221120237041090560) ∧ w = w' := by
  unfold nanF at h
  go_enter Tryz.func130, Tryz.ntmps130
  go_wp2
  go_ret
  exact ⟨rfl, rfl⟩
/-- callboxref01.Bits64. -/
theorem rBits64_any (x : Nat) (w : World) (hx : bitsF .f64 x < 18446744073709551616) : Calls Tryz.prog 130 #[.float .f64 x] w fun e w' => e = .returned (.int .u64 (bitsF .f64 x : Nat)) ∧ w = w' := by
  by_cases h : nanF .f64 x = true
  · rw [show bitsF .f64 x = 9221120237041090560 from if_pos h]
    exact rBits64_nan x w h
  · rw [show bitsF .f64 x = x from if_neg h] at hx ⊢
    obtain ⟨s, r, rfl, hr⟩ := parts_of64 hx (by simpa using h)
    by_cases h0 : r = 0
    · subst h0; exact rBits64_zero s w
    · by_cases hi : r = 9218868437227405312
      · subst hi; exact rBits64_inf s w
      · obtain ⟨M, q, rfl, h1, h2, h3, h4, h5⟩ := canon64 (by omega) (by omega : r < 9218868437227405312)
        refine rBits64_fin M q s w h1 h2 h3 h4 ?_ (by omega) ?_
        · rcases h5 with h5 | h5
          · exact .inl h5.1
          · exact .inr ⟨h5.1, h5.2.1⟩
        · rcases h5 with h5 | h5
          · exact h5.2
          · have e := h5.2.2
            rw [h5.2.1] at e ⊢
            omega
end Go.Proofs.YtlcjfafmmoncpaaGreatDoor
