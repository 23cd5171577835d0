/- The document's messages (callboxref12): whether a reply may be. -/
import Derived.Test.YtbegjpmifcnieaaGreatDoorNa
namespace Go.Proofs.YtbegjpmifcnieaaGreatDoor
open Go.RowKit
set_option linter.unusedVariables false
set_option linter.unusedSimpArgs false

set_option maxRecDepth 100000 in
set_option maxHeartbeats 4000000 in
theorem ReplyMay_any (r : ReplyM) (w : World) (h1 : r.verf.body.size ≤ 140737488351232) (h3 : r.results.size ≤ 140737488351232) :
    Calls Tryz.prog 208 #[.agg (replyCells r)] w fun e w' => e = .returned (.bool (replyMayB r)) ∧ Fr (fun _ => False) w w' := by
  have H1 := Lib.hid (fun w => word12_any r.xid w)
  have H2 := Lib.hid (fun w => word12_any r.low w)
  have H3 := Lib.hid (fun w => word12_any r.high w)
  have H5 := Lib.hid (fun w => authMay_any r.verf w h1)
  have H7 := Lib.hid (fun w => plain_any r.results w h3)
  have key : replyMayB r = mayR (isWordB r.xid) (isWordB r.low) (isWordB r.high) (authMayB r.verf) (fitsB r.results) r := rfl
  generalize replyMayB r = m at key ⊢
  unfold replyCells
  generalize isWordB r.xid = b1 at H1 key
  generalize isWordB r.low = b2 at H2 key
  generalize isWordB r.high = b3 at H3 key
  generalize authMayB r.verf = b5 at H5 key
  generalize fitsB r.results = b7 at H7 key
  have FIN := Lib.hid (fun x (h : x = mayR b1 b2 b3 b5 b7 r) => (show Ending.returned (.bool x) = Ending.returned (.bool m) by rw [h, key]))
  clear h1 h3 key
  by_cases g1 : r.low = 0
  case neg =>
    by_cases hd : r.denied = true
    case pos =>
      go_enter Tryz.func208, Tryz.ntmps208
      go_wp2_with fail
      refine (H1.out _).mono ?_
      rintro e w1 ⟨rfl, rfl⟩
      go_wp2_with fail
      refine (H2.out _).mono ?_
      rintro e w1 ⟨rfl, rfl⟩
      go_wp2_with fail
      refine (H3.out _).mono ?_
      rintro e w1 ⟨rfl, rfl⟩
      clear H1 H2 H3 H5 H7
      cases b1
      case false =>
        go_wp2
        go_ret
        exact ⟨FIN.out _ (by first | (simp [mayR, noVerf, g1, hd]; done) | (simp [mayR, noVerf, g1, hd]; intros; omega)), (Fr.refl _ _).alloc _⟩
      by_cases v0 : r.verf.flavor = 0
      case neg =>
        go_wp2
        go_ret
        exact ⟨FIN.out _ (by first | (simp [mayR, noVerf, g1, hd, v0]; done) | (simp [mayR, noVerf, g1, hd, v0]; intros; omega)), (Fr.refl _ _).alloc _⟩
      by_cases v1 : r.verf.body.toList = []
      case neg =>
        go_wp2
        go_ret
        exact ⟨FIN.out _ (by first | (simp [mayR, noVerf, g1, hd, v0, v1]; done) | (simp [mayR, noVerf, g1, hd, v0, v1]; intros; omega)), (Fr.refl _ _).alloc _⟩
      by_cases a0 : r.accept = 0
      case neg =>
        go_wp2
        go_ret
        exact ⟨FIN.out _ (by first | (simp [mayR, noVerf, g1, hd, v0, v1, a0]; done) | (simp [mayR, noVerf, g1, hd, v0, v1, a0]; intros; omega)), (Fr.refl _ _).alloc _⟩
      by_cases t0 : r.results.toList.isEmpty = true
      case neg =>
        rw [Bool.not_eq_true] at t0
        go_wp2
        go_ret
        exact ⟨FIN.out _ (by first | (simp [mayR, noVerf, g1, hd, v0, v1, a0, t0]; done) | (simp [mayR, noVerf, g1, hd, v0, v1, a0, t0]; intros; omega)), (Fr.refl _ _).alloc _⟩
      by_cases j0 : r.reject = 0
      case pos =>
        cases b2
        case false =>
          go_wp2
          go_ret
          exact ⟨FIN.out _ (by first | (simp [mayR, noVerf, g1, hd, v0, v1, a0, t0, j0]; done) | (simp [mayR, noVerf, g1, hd, v0, v1, a0, t0, j0]; intros; omega)), (Fr.refl _ _).alloc _⟩
        cases b3
        case false =>
          go_wp2
          go_ret
          exact ⟨FIN.out _ (by first | (simp [mayR, noVerf, g1, hd, v0, v1, a0, t0, j0]; done) | (simp [mayR, noVerf, g1, hd, v0, v1, a0, t0, j0]; intros; omega)), (Fr.refl _ _).alloc _⟩
        by_cases y : r.why = 0
        case neg =>
          go_wp2
          go_ret
          exact ⟨FIN.out _ (by first | (simp [mayR, noVerf, g1, hd, v0, v1, a0, t0, j0, y]; done) | (simp [mayR, noVerf, g1, hd, v0, v1, a0, t0, j0, y]; intros; omega)), (Fr.refl _ _).alloc _⟩
        go_wp2
        go_ret
        exact ⟨FIN.out _ (by first | (simp [mayR, noVerf, g1, hd, v0, v1, a0, t0, j0, y]; done) | (simp [mayR, noVerf, g1, hd, v0, v1, a0, t0, j0, y]; intros; omega)), (Fr.refl _ _).alloc _⟩
      by_cases j1 : r.reject = 1
      case neg =>
        go_wp2
        go_ret
        exact ⟨FIN.out _ (by first | (simp [mayR, noVerf, g1, hd, v0, v1, a0, t0, j0, j1]; done) | (simp [mayR, noVerf, g1, hd, v0, v1, a0, t0, j0, j1]; intros; omega)), (Fr.refl _ _).alloc _⟩
      go_wp2
      go_ret
      exact ⟨FIN.out _ (by first | (simp [mayR, noVerf, g1, hd, v0, v1, a0, t0, j0, j1]; done) | (simp [mayR, noVerf, g1, hd, v0, v1, a0, t0, j0, j1]; intros; omega)), (Fr.refl _ _).alloc _⟩
    rw [Bool.not_eq_true] at hd
    go_enter Tryz.func208, Tryz.ntmps208
    go_wp2_with fail
    refine (H1.out _).mono ?_
    rintro e w1 ⟨rfl, rfl⟩
    go_wp2_with fail
    refine (H2.out _).mono ?_
    rintro e w1 ⟨rfl, rfl⟩
    go_wp2_with fail
    refine (H3.out _).mono ?_
    rintro e w1 ⟨rfl, rfl⟩
    go_wp2_with fail
    refine (H5.out _).mono ?_
    rintro e w1 ⟨rfl, hf1⟩
    have hx := Lib.hid ((hf1.block w.heap.size (by simp) id).trans (heap_alloc_new w _))
    have HF2 := Lib.hid (((Fr.refl _ _).alloc _).then hf1 (fun _ _ h => h))
    obtain ⟨n0, n1, n2, n3, n4, n5, n6, n7, n8, n9⟩ := box10 hx
    clear hf1
    go_wp2_with fail
    refine (H7.out _).mono ?_
    rintro e w3 ⟨rfl, rfl⟩
    clear H1 H2 H3 H5 H7
    cases b1
    case false =>
      go_wp2
      go_ret
      exact ⟨FIN.out _ (by first | (simp [mayR, noVerf, g1, hd]; done) | (simp [mayR, noVerf, g1, hd]; intros; omega)), HF2.out⟩
    cases b5
    case false =>
      go_wp2
      go_ret
      exact ⟨FIN.out _ (by first | (simp [mayR, noVerf, g1, hd]; done) | (simp [mayR, noVerf, g1, hd]; intros; omega)), HF2.out⟩
    by_cases r0 : r.reject = 0
    case neg =>
      go_wp2
      go_ret
      exact ⟨FIN.out _ (by first | (simp [mayR, noVerf, g1, hd, r0]; done) | (simp [mayR, noVerf, g1, hd, r0]; intros; omega)), HF2.out⟩
    by_cases y : r.why = 0
    case neg =>
      go_wp2
      go_ret
      exact ⟨FIN.out _ (by first | (simp [mayR, noVerf, g1, hd, r0, y]; done) | (simp [mayR, noVerf, g1, hd, r0, y]; intros; omega)), HF2.out⟩
    by_cases a0 : 0 ≤ r.accept
    case neg =>
      go_wp2
      go_ret
      exact ⟨FIN.out _ (by first | (simp [mayR, noVerf, g1, hd, r0, y, a0]; done) | (simp [mayR, noVerf, g1, hd, r0, y, a0]; intros; omega)), HF2.out⟩
    by_cases a1 : r.accept ≤ 5
    case neg =>
      go_wp2
      go_ret
      exact ⟨FIN.out _ (by first | (simp [mayR, noVerf, g1, hd, r0, y, a0, a1]; done) | (simp [mayR, noVerf, g1, hd, r0, y, a0, a1]; intros; omega)), HF2.out⟩
    by_cases j0 : r.accept = 0
    case pos =>
      cases b7
      case false =>
        go_wp2
        go_ret
        exact ⟨FIN.out _ (by first | (simp [mayR, noVerf, g1, hd, r0, y, a0, a1, j0]; done) | (simp [mayR, noVerf, g1, hd, r0, y, a0, a1, j0]; intros; omega)), HF2.out⟩
      go_wp2
      go_ret
      exact ⟨FIN.out _ (by first | (simp [mayR, noVerf, g1, hd, r0, y, a0, a1, j0]; done) | (simp [mayR, noVerf, g1, hd, r0, y, a0, a1, j0]; intros; omega)), HF2.out⟩
    by_cases j1 : r.accept = 2
    case pos =>
      cases b2
      case false =>
        go_wp2
        go_ret
        exact ⟨FIN.out _ (by first | (simp [mayR, noVerf, g1, hd, r0, y, a0, a1, j0, j1]; done) | (simp [mayR, noVerf, g1, hd, r0, y, a0, a1, j0, j1]; intros; omega)), HF2.out⟩
      cases b3
      case false =>
        go_wp2
        go_ret
        exact ⟨FIN.out _ (by first | (simp [mayR, noVerf, g1, hd, r0, y, a0, a1, j0, j1]; done) | (simp [mayR, noVerf, g1, hd, r0, y, a0, a1, j0, j1]; intros; omega)), HF2.out⟩
      by_cases t0 : r.results.toList.isEmpty = true
      case neg =>
        rw [Bool.not_eq_true] at t0
        go_wp2
        go_ret
        exact ⟨FIN.out _ (by first | (simp [mayR, noVerf, g1, hd, r0, y, a0, a1, j0, j1, t0]; done) | (simp [mayR, noVerf, g1, hd, r0, y, a0, a1, j0, j1, t0]; intros; omega)), HF2.out⟩
      go_wp2
      go_ret
      exact ⟨FIN.out _ (by first | (simp [mayR, noVerf, g1, hd, r0, y, a0, a1, j0, j1, t0]; done) | (simp [mayR, noVerf, g1, hd, r0, y, a0, a1, j0, j1, t0]; intros; omega)), HF2.out⟩
    go_wp2
    go_ret
    exact ⟨FIN.out _ (by first | (simp [mayR, noVerf, g1, hd, r0, y, a0, a1, j0, j1]; done) | (simp [mayR, noVerf, g1, hd, r0, y, a0, a1, j0, j1]; intros; omega)), HF2.out⟩
  rw [g1] at H2
  by_cases g2 : r.high = 0
  case neg =>
    by_cases hd : r.denied = true
    case pos =>
      go_enter Tryz.func208, Tryz.ntmps208
      go_wp2_with fail
      refine (H1.out _).mono ?_
      rintro e w1 ⟨rfl, rfl⟩
      go_wp2_with fail
      refine (H2.out _).mono ?_
      rintro e w1 ⟨rfl, rfl⟩
      go_wp2_with fail
      refine (H3.out _).mono ?_
      rintro e w1 ⟨rfl, rfl⟩
      clear H1 H2 H3 H5 H7
      cases b1
      case false =>
        go_wp2
        go_ret
        exact ⟨FIN.out _ (by first | (simp [mayR, noVerf, g1, g2, hd]; done) | (simp [mayR, noVerf, g1, g2, hd]; intros; omega)), (Fr.refl _ _).alloc _⟩
      by_cases v0 : r.verf.flavor = 0
      case neg =>
        go_wp2
        go_ret
        exact ⟨FIN.out _ (by first | (simp [mayR, noVerf, g1, g2, hd, v0]; done) | (simp [mayR, noVerf, g1, g2, hd, v0]; intros; omega)), (Fr.refl _ _).alloc _⟩
      by_cases v1 : r.verf.body.toList = []
      case neg =>
        go_wp2
        go_ret
        exact ⟨FIN.out _ (by first | (simp [mayR, noVerf, g1, g2, hd, v0, v1]; done) | (simp [mayR, noVerf, g1, g2, hd, v0, v1]; intros; omega)), (Fr.refl _ _).alloc _⟩
      by_cases a0 : r.accept = 0
      case neg =>
        go_wp2
        go_ret
        exact ⟨FIN.out _ (by first | (simp [mayR, noVerf, g1, g2, hd, v0, v1, a0]; done) | (simp [mayR, noVerf, g1, g2, hd, v0, v1, a0]; intros; omega)), (Fr.refl _ _).alloc _⟩
      by_cases t0 : r.results.toList.isEmpty = true
      case neg =>
        rw [Bool.not_eq_true] at t0
        go_wp2
        go_ret
        exact ⟨FIN.out _ (by first | (simp [mayR, noVerf, g1, g2, hd, v0, v1, a0, t0]; done) | (simp [mayR, noVerf, g1, g2, hd, v0, v1, a0, t0]; intros; omega)), (Fr.refl _ _).alloc _⟩
      by_cases j0 : r.reject = 0
      case pos =>
        cases b2
        case false =>
          go_wp2
          go_ret
          exact ⟨FIN.out _ (by first | (simp [mayR, noVerf, g1, g2, hd, v0, v1, a0, t0, j0]; done) | (simp [mayR, noVerf, g1, g2, hd, v0, v1, a0, t0, j0]; intros; omega)), (Fr.refl _ _).alloc _⟩
        cases b3
        case false =>
          go_wp2
          go_ret
          exact ⟨FIN.out _ (by first | (simp [mayR, noVerf, g1, g2, hd, v0, v1, a0, t0, j0]; done) | (simp [mayR, noVerf, g1, g2, hd, v0, v1, a0, t0, j0]; intros; omega)), (Fr.refl _ _).alloc _⟩
        by_cases y : r.why = 0
        case neg =>
          go_wp2
          go_ret
          exact ⟨FIN.out _ (by first | (simp [mayR, noVerf, g1, g2, hd, v0, v1, a0, t0, j0, y]; done) | (simp [mayR, noVerf, g1, g2, hd, v0, v1, a0, t0, j0, y]; intros; omega)), (Fr.refl _ _).alloc _⟩
        go_wp2
        go_ret
        exact ⟨FIN.out _ (by first | (simp [mayR, noVerf, g1, g2, hd, v0, v1, a0, t0, j0, y]; done) | (simp [mayR, noVerf, g1, g2, hd, v0, v1, a0, t0, j0, y]; intros; omega)), (Fr.refl _ _).alloc _⟩
      by_cases j1 : r.reject = 1
      case neg =>
        go_wp2
        go_ret
        exact ⟨FIN.out _ (by first | (simp [mayR, noVerf, g1, g2, hd, v0, v1, a0, t0, j0, j1]; done) | (simp [mayR, noVerf, g1, g2, hd, v0, v1, a0, t0, j0, j1]; intros; omega)), (Fr.refl _ _).alloc _⟩
      go_wp2
      go_ret
      exact ⟨FIN.out _ (by first | (simp [mayR, noVerf, g1, g2, hd, v0, v1, a0, t0, j0, j1]; done) | (simp [mayR, noVerf, g1, g2, hd, v0, v1, a0, t0, j0, j1]; intros; omega)), (Fr.refl _ _).alloc _⟩
    rw [Bool.not_eq_true] at hd
    go_enter Tryz.func208, Tryz.ntmps208
    go_wp2_with fail
    refine (H1.out _).mono ?_
    rintro e w1 ⟨rfl, rfl⟩
    go_wp2_with fail
    refine (H2.out _).mono ?_
    rintro e w1 ⟨rfl, rfl⟩
    go_wp2_with fail
    refine (H3.out _).mono ?_
    rintro e w1 ⟨rfl, rfl⟩
    go_wp2_with fail
    refine (H5.out _).mono ?_
    rintro e w1 ⟨rfl, hf1⟩
    have hx := Lib.hid ((hf1.block w.heap.size (by simp) id).trans (heap_alloc_new w _))
    have HF2 := Lib.hid (((Fr.refl _ _).alloc _).then hf1 (fun _ _ h => h))
    obtain ⟨n0, n1, n2, n3, n4, n5, n6, n7, n8, n9⟩ := box10 hx
    clear hf1
    go_wp2_with fail
    refine (H7.out _).mono ?_
    rintro e w3 ⟨rfl, rfl⟩
    clear H1 H2 H3 H5 H7
    cases b1
    case false =>
      go_wp2
      go_ret
      exact ⟨FIN.out _ (by first | (simp [mayR, noVerf, g1, g2, hd]; done) | (simp [mayR, noVerf, g1, g2, hd]; intros; omega)), HF2.out⟩
    cases b5
    case false =>
      go_wp2
      go_ret
      exact ⟨FIN.out _ (by first | (simp [mayR, noVerf, g1, g2, hd]; done) | (simp [mayR, noVerf, g1, g2, hd]; intros; omega)), HF2.out⟩
    by_cases r0 : r.reject = 0
    case neg =>
      go_wp2
      go_ret
      exact ⟨FIN.out _ (by first | (simp [mayR, noVerf, g1, g2, hd, r0]; done) | (simp [mayR, noVerf, g1, g2, hd, r0]; intros; omega)), HF2.out⟩
    by_cases y : r.why = 0
    case neg =>
      go_wp2
      go_ret
      exact ⟨FIN.out _ (by first | (simp [mayR, noVerf, g1, g2, hd, r0, y]; done) | (simp [mayR, noVerf, g1, g2, hd, r0, y]; intros; omega)), HF2.out⟩
    by_cases a0 : 0 ≤ r.accept
    case neg =>
      go_wp2
      go_ret
      exact ⟨FIN.out _ (by first | (simp [mayR, noVerf, g1, g2, hd, r0, y, a0]; done) | (simp [mayR, noVerf, g1, g2, hd, r0, y, a0]; intros; omega)), HF2.out⟩
    by_cases a1 : r.accept ≤ 5
    case neg =>
      go_wp2
      go_ret
      exact ⟨FIN.out _ (by first | (simp [mayR, noVerf, g1, g2, hd, r0, y, a0, a1]; done) | (simp [mayR, noVerf, g1, g2, hd, r0, y, a0, a1]; intros; omega)), HF2.out⟩
    by_cases j0 : r.accept = 0
    case pos =>
      cases b7
      case false =>
        go_wp2
        go_ret
        exact ⟨FIN.out _ (by first | (simp [mayR, noVerf, g1, g2, hd, r0, y, a0, a1, j0]; done) | (simp [mayR, noVerf, g1, g2, hd, r0, y, a0, a1, j0]; intros; omega)), HF2.out⟩
      go_wp2
      go_ret
      exact ⟨FIN.out _ (by first | (simp [mayR, noVerf, g1, g2, hd, r0, y, a0, a1, j0]; done) | (simp [mayR, noVerf, g1, g2, hd, r0, y, a0, a1, j0]; intros; omega)), HF2.out⟩
    by_cases j1 : r.accept = 2
    case pos =>
      cases b2
      case false =>
        go_wp2
        go_ret
        exact ⟨FIN.out _ (by first | (simp [mayR, noVerf, g1, g2, hd, r0, y, a0, a1, j0, j1]; done) | (simp [mayR, noVerf, g1, g2, hd, r0, y, a0, a1, j0, j1]; intros; omega)), HF2.out⟩
      cases b3
      case false =>
        go_wp2
        go_ret
        exact ⟨FIN.out _ (by first | (simp [mayR, noVerf, g1, g2, hd, r0, y, a0, a1, j0, j1]; done) | (simp [mayR, noVerf, g1, g2, hd, r0, y, a0, a1, j0, j1]; intros; omega)), HF2.out⟩
      by_cases t0 : r.results.toList.isEmpty = true
      case neg =>
        rw [Bool.not_eq_true] at t0
        go_wp2
        go_ret
        exact ⟨FIN.out _ (by first | (simp [mayR, noVerf, g1, g2, hd, r0, y, a0, a1, j0, j1, t0]; done) | (simp [mayR, noVerf, g1, g2, hd, r0, y, a0, a1, j0, j1, t0]; intros; omega)), HF2.out⟩
      go_wp2
      go_ret
      exact ⟨FIN.out _ (by first | (simp [mayR, noVerf, g1, g2, hd, r0, y, a0, a1, j0, j1, t0]; done) | (simp [mayR, noVerf, g1, g2, hd, r0, y, a0, a1, j0, j1, t0]; intros; omega)), HF2.out⟩
    go_wp2
    go_ret
    exact ⟨FIN.out _ (by first | (simp [mayR, noVerf, g1, g2, hd, r0, y, a0, a1, j0, j1]; done) | (simp [mayR, noVerf, g1, g2, hd, r0, y, a0, a1, j0, j1]; intros; omega)), HF2.out⟩
  rw [g2] at H3
  by_cases hd : r.denied = true
  case pos =>
    go_enter Tryz.func208, Tryz.ntmps208
    go_wp2_with fail
    refine (H1.out _).mono ?_
    rintro e w1 ⟨rfl, rfl⟩
    go_wp2_with fail
    refine (H2.out _).mono ?_
    rintro e w1 ⟨rfl, rfl⟩
    go_wp2_with fail
    refine (H3.out _).mono ?_
    rintro e w1 ⟨rfl, rfl⟩
    clear H1 H2 H3 H5 H7
    cases b1
    case false =>
      go_wp2
      go_ret
      exact ⟨FIN.out _ (by first | (simp [mayR, noVerf, g1, g2, hd]; done) | (simp [mayR, noVerf, g1, g2, hd]; intros; omega)), (Fr.refl _ _).alloc _⟩
    by_cases v0 : r.verf.flavor = 0
    case neg =>
      go_wp2
      go_ret
      exact ⟨FIN.out _ (by first | (simp [mayR, noVerf, g1, g2, hd, v0]; done) | (simp [mayR, noVerf, g1, g2, hd, v0]; intros; omega)), (Fr.refl _ _).alloc _⟩
    by_cases v1 : r.verf.body.toList = []
    case neg =>
      go_wp2
      go_ret
      exact ⟨FIN.out _ (by first | (simp [mayR, noVerf, g1, g2, hd, v0, v1]; done) | (simp [mayR, noVerf, g1, g2, hd, v0, v1]; intros; omega)), (Fr.refl _ _).alloc _⟩
    by_cases a0 : r.accept = 0
    case neg =>
      go_wp2
      go_ret
      exact ⟨FIN.out _ (by first | (simp [mayR, noVerf, g1, g2, hd, v0, v1, a0]; done) | (simp [mayR, noVerf, g1, g2, hd, v0, v1, a0]; intros; omega)), (Fr.refl _ _).alloc _⟩
    by_cases t0 : r.results.toList.isEmpty = true
    case neg =>
      rw [Bool.not_eq_true] at t0
      go_wp2
      go_ret
      exact ⟨FIN.out _ (by first | (simp [mayR, noVerf, g1, g2, hd, v0, v1, a0, t0]; done) | (simp [mayR, noVerf, g1, g2, hd, v0, v1, a0, t0]; intros; omega)), (Fr.refl _ _).alloc _⟩
    by_cases j0 : r.reject = 0
    case pos =>
      cases b2
      case false =>
        go_wp2
        go_ret
        exact ⟨FIN.out _ (by first | (simp [mayR, noVerf, g1, g2, hd, v0, v1, a0, t0, j0]; done) | (simp [mayR, noVerf, g1, g2, hd, v0, v1, a0, t0, j0]; intros; omega)), (Fr.refl _ _).alloc _⟩
      cases b3
      case false =>
        go_wp2
        go_ret
        exact ⟨FIN.out _ (by first | (simp [mayR, noVerf, g1, g2, hd, v0, v1, a0, t0, j0]; done) | (simp [mayR, noVerf, g1, g2, hd, v0, v1, a0, t0, j0]; intros; omega)), (Fr.refl _ _).alloc _⟩
      by_cases y : r.why = 0
      case neg =>
        go_wp2
        go_ret
        exact ⟨FIN.out _ (by first | (simp [mayR, noVerf, g1, g2, hd, v0, v1, a0, t0, j0, y]; done) | (simp [mayR, noVerf, g1, g2, hd, v0, v1, a0, t0, j0, y]; intros; omega)), (Fr.refl _ _).alloc _⟩
      go_wp2
      go_ret
      exact ⟨FIN.out _ (by first | (simp [mayR, noVerf, g1, g2, hd, v0, v1, a0, t0, j0, y]; done) | (simp [mayR, noVerf, g1, g2, hd, v0, v1, a0, t0, j0, y]; intros; omega)), (Fr.refl _ _).alloc _⟩
    by_cases j1 : r.reject = 1
    case neg =>
      go_wp2
      go_ret
      exact ⟨FIN.out _ (by first | (simp [mayR, noVerf, g1, g2, hd, v0, v1, a0, t0, j0, j1]; done) | (simp [mayR, noVerf, g1, g2, hd, v0, v1, a0, t0, j0, j1]; intros; omega)), (Fr.refl _ _).alloc _⟩
    by_cases y0 : 0 ≤ r.why
    case neg =>
      go_wp2
      go_ret
      exact ⟨FIN.out _ (by first | (simp [mayR, noVerf, g1, g2, hd, v0, v1, a0, t0, j0, j1, y0]; done) | (simp [mayR, noVerf, g1, g2, hd, v0, v1, a0, t0, j0, j1, y0]; intros; omega)), (Fr.refl _ _).alloc _⟩
    by_cases y1 : r.why ≤ 14
    case neg =>
      go_wp2
      go_ret
      exact ⟨FIN.out _ (by first | (simp [mayR, noVerf, g1, g2, hd, v0, v1, a0, t0, j0, j1, y0, y1]; done) | (simp [mayR, noVerf, g1, g2, hd, v0, v1, a0, t0, j0, j1, y0, y1]; intros; omega)), (Fr.refl _ _).alloc _⟩
    go_wp2
    go_ret
    exact ⟨FIN.out _ (by first | (simp [mayR, noVerf, g1, g2, hd, v0, v1, a0, t0, j0, j1, y0, y1]; done) | (simp [mayR, noVerf, g1, g2, hd, v0, v1, a0, t0, j0, j1, y0, y1]; intros; omega)), (Fr.refl _ _).alloc _⟩
  rw [Bool.not_eq_true] at hd
  go_enter Tryz.func208, Tryz.ntmps208
  go_wp2_with fail
  refine (H1.out _).mono ?_
  rintro e w1 ⟨rfl, rfl⟩
  go_wp2_with fail
  refine (H2.out _).mono ?_
  rintro e w1 ⟨rfl, rfl⟩
  go_wp2_with fail
  refine (H3.out _).mono ?_
  rintro e w1 ⟨rfl, rfl⟩
  go_wp2_with fail
  refine (H5.out _).mono ?_
  rintro e w1 ⟨rfl, hf1⟩
  have hx := Lib.hid ((hf1.block w.heap.size (by simp) id).trans (heap_alloc_new w _))
  have HF2 := Lib.hid (((Fr.refl _ _).alloc _).then hf1 (fun _ _ h => h))
  obtain ⟨n0, n1, n2, n3, n4, n5, n6, n7, n8, n9⟩ := box10 hx
  clear hf1
  go_wp2_with fail
  refine (H7.out _).mono ?_
  rintro e w3 ⟨rfl, rfl⟩
  clear H1 H2 H3 H5 H7
  cases b1
  case false =>
    go_wp2
    go_ret
    exact ⟨FIN.out _ (by first | (simp [mayR, noVerf, g1, g2, hd]; done) | (simp [mayR, noVerf, g1, g2, hd]; intros; omega)), HF2.out⟩
  cases b5
  case false =>
    go_wp2
    go_ret
    exact ⟨FIN.out _ (by first | (simp [mayR, noVerf, g1, g2, hd]; done) | (simp [mayR, noVerf, g1, g2, hd]; intros; omega)), HF2.out⟩
  by_cases r0 : r.reject = 0
  case neg =>
    go_wp2
    go_ret
    exact ⟨FIN.out _ (by first | (simp [mayR, noVerf, g1, g2, hd, r0]; done) | (simp [mayR, noVerf, g1, g2, hd, r0]; intros; omega)), HF2.out⟩
  by_cases y : r.why = 0
  case neg =>
    go_wp2
    go_ret
    exact ⟨FIN.out _ (by first | (simp [mayR, noVerf, g1, g2, hd, r0, y]; done) | (simp [mayR, noVerf, g1, g2, hd, r0, y]; intros; omega)), HF2.out⟩
  by_cases a0 : 0 ≤ r.accept
  case neg =>
    go_wp2
    go_ret
    exact ⟨FIN.out _ (by first | (simp [mayR, noVerf, g1, g2, hd, r0, y, a0]; done) | (simp [mayR, noVerf, g1, g2, hd, r0, y, a0]; intros; omega)), HF2.out⟩
  by_cases a1 : r.accept ≤ 5
  case neg =>
    go_wp2
    go_ret
    exact ⟨FIN.out _ (by first | (simp [mayR, noVerf, g1, g2, hd, r0, y, a0, a1]; done) | (simp [mayR, noVerf, g1, g2, hd, r0, y, a0, a1]; intros; omega)), HF2.out⟩
  by_cases j0 : r.accept = 0
  case pos =>
    cases b7
    case false =>
      go_wp2
      go_ret
      exact ⟨FIN.out _ (by first | (simp [mayR, noVerf, g1, g2, hd, r0, y, a0, a1, j0]; done) | (simp [mayR, noVerf, g1, g2, hd, r0, y, a0, a1, j0]; intros; omega)), HF2.out⟩
    go_wp2
    go_ret
    exact ⟨FIN.out _ (by first | (simp [mayR, noVerf, g1, g2, hd, r0, y, a0, a1, j0]; done) | (simp [mayR, noVerf, g1, g2, hd, r0, y, a0, a1, j0]; intros; omega)), HF2.out⟩
  by_cases j1 : r.accept = 2
  case pos =>
    cases b2
    case false =>
      go_wp2
      go_ret
      exact ⟨FIN.out _ (by first | (simp [mayR, noVerf, g1, g2, hd, r0, y, a0, a1, j0, j1]; done) | (simp [mayR, noVerf, g1, g2, hd, r0, y, a0, a1, j0, j1]; intros; omega)), HF2.out⟩
    cases b3
    case false =>
      go_wp2
      go_ret
      exact ⟨FIN.out _ (by first | (simp [mayR, noVerf, g1, g2, hd, r0, y, a0, a1, j0, j1]; done) | (simp [mayR, noVerf, g1, g2, hd, r0, y, a0, a1, j0, j1]; intros; omega)), HF2.out⟩
    by_cases t0 : r.results.toList.isEmpty = true
    case neg =>
      rw [Bool.not_eq_true] at t0
      go_wp2
      go_ret
      exact ⟨FIN.out _ (by first | (simp [mayR, noVerf, g1, g2, hd, r0, y, a0, a1, j0, j1, t0]; done) | (simp [mayR, noVerf, g1, g2, hd, r0, y, a0, a1, j0, j1, t0]; intros; omega)), HF2.out⟩
    go_wp2
    go_ret
    exact ⟨FIN.out _ (by first | (simp [mayR, noVerf, g1, g2, hd, r0, y, a0, a1, j0, j1, t0]; done) | (simp [mayR, noVerf, g1, g2, hd, r0, y, a0, a1, j0, j1, t0]; intros; omega)), HF2.out⟩
  by_cases t0 : r.results.toList.isEmpty = true
  case neg =>
    rw [Bool.not_eq_true] at t0
    go_wp2
    go_ret
    exact ⟨FIN.out _ (by first | (simp [mayR, noVerf, g1, g2, hd, r0, y, a0, a1, j0, j1, t0]; done) | (simp [mayR, noVerf, g1, g2, hd, r0, y, a0, a1, j0, j1, t0]; intros; omega)), HF2.out⟩
  go_wp2
  go_ret
  exact ⟨FIN.out _ (by first | (simp [mayR, noVerf, g1, g2, hd, r0, y, a0, a1, j0, j1, t0]; done) | (simp [mayR, noVerf, g1, g2, hd, r0, y, a0, a1, j0, j1, t0]; intros; omega)), HF2.out⟩
end Go.Proofs.YtbegjpmifcnieaaGreatDoor
