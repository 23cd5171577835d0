/- The document's credentials (callboxref11): whether somebody may be. -/
import Derived.Test.YtlcjfafmmoncpaaGreatDoorR2
import Derived.Test.YtlcjfafmmoncpaaGreatDoorCr
namespace Go.Proofs.YtlcjfafmmoncpaaGreatDoor
open Go.RowKit
set_option linter.unusedVariables false
set_option linter.unusedSimpArgs false

theorem word11_any (n : Int) (w : World) : Calls Tryz.prog 153 #[.int .i64 n] w fun r w' => r = .returned (.bool (isWordB n)) ∧ w = w' := by
  by_cases h : 0 ≤ n
  · by_cases h2 : n ≤ 4294967295
    · rw [isWordB_of ⟨h, h2⟩]
      go_enter Tryz.func153, Tryz.ntmps153
      go_wp2
      go_ret
      exact ⟨rfl, rfl⟩
    · rw [isWordB_no (fun h => h2 h.2)]
      go_enter Tryz.func153, Tryz.ntmps153
      go_wp2
      go_ret
      exact ⟨rfl, rfl⟩
  · rw [isWordB_no (fun h2 => h h2.1)]
    go_enter Tryz.func153, Tryz.ntmps153
    go_wp2
    go_ret
    exact ⟨rfl, rfl⟩

set_option maxRecDepth 100000 in
set_option maxHeartbeats 2000000 in
theorem SysMay_any (s : SysM) (A : Option Addr) (c : Nat) (w : World) (hA : IntsAt w A s.groups) :
    Calls Tryz.prog 115 #[.agg #[.int .i64 s.stamp, .string s.machine, .int .i64 s.user, .int .i64 s.group, .slice A s.groups.length c]] w fun r w' => r = .returned (.bool (namedB s)) ∧ Fr (fun _ => False) w w' := by
  have HA := Lib.hid hA
  clear hA
  have key : namedB s = (isWordB s.stamp && isWordB s.user && isWordB s.group && decide ((s.machine.size : Int) ≤ 255) && decide ((s.groups.length : Int) ≤ 16) && s.groups.all isWordB) := rfl
  generalize h1 : isWordB s.stamp = b1 at key
  generalize h2 : isWordB s.user = b2 at key
  generalize h3 : isWordB s.group = b3 at key
  have KEY := Lib.hid key
  have C1 := fun w => Lib.hid (h1 ▸ word11_any s.stamp w)
  have C2 := fun w => Lib.hid (h2 ▸ word11_any s.user w)
  have C3 := fun w => Lib.hid (h3 ▸ word11_any s.group w)
  clear key h1 h2 h3
  by_cases hk : (b1 && b2 && b3 && decide ((s.machine.size : Int) ≤ 255) && decide ((s.groups.length : Int) ≤ 16)) = true
  · have e : namedB s = s.groups.all isWordB := by rw [KEY.out, hk]; simp
    rw [e]
    simp only [Bool.and_eq_true, decide_eq_true_eq] at hk
    obtain ⟨⟨⟨⟨rfl, rfl⟩, rfl⟩, h4⟩, h5⟩ := hk
    clear KEY e
    go_enter Tryz.func115, Tryz.ntmps115
    go_wp2_with fail
    refine (C1 _).out.mono ?_
    rintro e w' ⟨rfl, rfl⟩
    go_wp2_with fail
    refine (C2 _).out.mono ?_
    rintro e w' ⟨rfl, rfl⟩
    go_wp2_with fail
    refine (C3 _).out.mono ?_
    rintro e w' ⟨rfl, rfl⟩
    go_wp2_with fail
    go_loop [6, 7] (fun i _ => ∃ k : Nat, k ≤ s.groups.length ∧ i = .int .i64 k ∧ Hid (∀ j, j < k → isWordB (s.groups.getD j 0) = true)) (fun i _ => s.groups.length - (intOf i).toNat)
    case atStart => exact ⟨0, Nat.zero_le _, rfl, Lib.hid (fun j hj => by omega)⟩
    case round =>
      obtain ⟨k, hk, rfl, hw⟩ := hrel
      by_cases hlt : k < s.groups.length
      · rcases HA.out with h0 | ⟨b, off, rfl, hb, hc⟩
        · rw [h0] at hlt; simp at hlt
        have hcell := hc k hlt
        clear hc
        generalize hx : s.groups.getD k 0 = x at hcell
        have HX := Lib.hid hx
        clear hx
        by_cases hi : isWordB x = true
        · have hw' : Hid (∀ j, j < k + 1 → isWordB (s.groups.getD j 0) = true) := Lib.hid (fun j hj => by
            by_cases h : j < k
            · exact hw.out j h
            · obtain rfl : j = k := by omega
              rw [HX.out]; exact hi)
          go_wp2_with (go_at_call 153; refine (word11_any _ _).mono ?_; rintro e w' ⟨rfl, rfl⟩)
          exact ⟨⟨k + 1, by omega, by go_num, hw'⟩, by simp [intOf]; omega⟩
        · rw [Bool.not_eq_true] at hi
          go_wp2_with (go_at_call 153; refine (word11_any _ _).mono ?_; rintro e w' ⟨rfl, rfl⟩)
          go_ret
          rw [not_all_getD s.groups 0 isWordB k hlt (by rw [HX.out]; exact hi)]
          exact ⟨rfl, (Fr.refl _ _).alloc _⟩
      · go_wp2
        go_ret
        rw [all_getD s.groups 0 isWordB (fun j hj => hw.out j (by omega))]
        exact ⟨rfl, (Fr.refl _ _).alloc _⟩
  · have e : namedB s = false := by rw [KEY.out]; rw [Bool.not_eq_true] at hk; rw [hk]; rfl
    rw [e]
    clear KEY e
    cases b1 with
    | false =>
      clear hk
      go_enter Tryz.func115, Tryz.ntmps115
      go_wp2_with fail
      refine (C1 _).out.mono ?_
      rintro e w' ⟨rfl, rfl⟩
      go_wp2_with fail
      refine (C2 _).out.mono ?_
      rintro e w' ⟨rfl, rfl⟩
      go_wp2_with fail
      refine (C3 _).out.mono ?_
      rintro e w' ⟨rfl, rfl⟩
      go_wp2_with fail
      go_ret
      exact ⟨rfl, (Fr.refl _ _).alloc _⟩
    | true =>
    cases b2 with
    | false =>
      clear hk
      go_enter Tryz.func115, Tryz.ntmps115
      go_wp2_with fail
      refine (C1 _).out.mono ?_
      rintro e w' ⟨rfl, rfl⟩
      go_wp2_with fail
      refine (C2 _).out.mono ?_
      rintro e w' ⟨rfl, rfl⟩
      go_wp2_with fail
      refine (C3 _).out.mono ?_
      rintro e w' ⟨rfl, rfl⟩
      go_wp2_with fail
      go_ret
      exact ⟨rfl, (Fr.refl _ _).alloc _⟩
    | true =>
    cases b3 with
    | false =>
      clear hk
      go_enter Tryz.func115, Tryz.ntmps115
      go_wp2_with fail
      refine (C1 _).out.mono ?_
      rintro e w' ⟨rfl, rfl⟩
      go_wp2_with fail
      refine (C2 _).out.mono ?_
      rintro e w' ⟨rfl, rfl⟩
      go_wp2_with fail
      refine (C3 _).out.mono ?_
      rintro e w' ⟨rfl, rfl⟩
      go_wp2_with fail
      go_ret
      exact ⟨rfl, (Fr.refl _ _).alloc _⟩
    | true =>
      have hk' : ¬ ((s.machine.size : Int) ≤ 255 ∧ (s.groups.length : Int) ≤ 16) := by
        intro h
        exact hk (by simp [h.1, h.2])
      by_cases h4 : (s.machine.size : Int) ≤ 255
      · have h5 : (16 : Int) < s.groups.length := by omega
        clear hk hk'
        go_enter Tryz.func115, Tryz.ntmps115
        go_wp2_with fail
        refine (C1 _).out.mono ?_
        rintro e w' ⟨rfl, rfl⟩
        go_wp2_with fail
        refine (C2 _).out.mono ?_
        rintro e w' ⟨rfl, rfl⟩
        go_wp2_with fail
        refine (C3 _).out.mono ?_
        rintro e w' ⟨rfl, rfl⟩
        go_wp2_with fail
        go_ret
        exact ⟨rfl, (Fr.refl _ _).alloc _⟩
      · have h4 := Int.not_le.1 h4
        clear hk hk'
        go_enter Tryz.func115, Tryz.ntmps115
        go_wp2_with fail
        refine (C1 _).out.mono ?_
        rintro e w' ⟨rfl, rfl⟩
        go_wp2_with fail
        refine (C2 _).out.mono ?_
        rintro e w' ⟨rfl, rfl⟩
        go_wp2_with fail
        refine (C3 _).out.mono ?_
        rintro e w' ⟨rfl, rfl⟩
        go_wp2_with fail
        go_ret
        exact ⟨rfl, (Fr.refl _ _).alloc _⟩

end Go.Proofs.YtlcjfafmmoncpaaGreatDoor
