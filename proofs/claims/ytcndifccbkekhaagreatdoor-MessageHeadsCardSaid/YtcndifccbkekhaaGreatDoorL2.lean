/- callboxlaw12: replies that may be, of raw ones. -/
import Derived.Test.YtcndifccbkekhaaGreatDoorL1
import Derived.Test.YtcndifccbkekhaaGreatDoorMb
import Derived.Deep.RegionHeld3
namespace Go.Proofs.YtcndifccbkekhaaGreatDoor
open Go.RowKit
set_option linter.unusedVariables false
set_option linter.unusedSimpArgs false

structure ReplyI (r : ReplyM) : Prop where
  xid : InI r.xid
  verf : InI r.verf.flavor
  accept : InI r.accept
  reject : InI r.reject
  why : InI r.why
  low : InI r.low
  high : InI r.high

set_option maxRecDepth 100000 in
set_option maxHeartbeats 16000000 in
theorem told12_any (r : ReplyM) (w : World) (hi : ReplyI r) (h1 : r.verf.body.size ≤ 140737488351232) (h3 : r.results.size ≤ 140737488351232) :
    Calls Tryz.prog 37 #[.agg (replyCells r)] w fun e w' => e = .returned (.agg (replyCells (toldM r))) ∧ Fr (fun _ => False) w w' := by
  have P0 := Lib.hid (fun w => pick_any r.xid 4294967296 w hi.xid (by decide) (by decide))
  have PL := Lib.hid (fun w => pick_any r.low 4294967296 w hi.low (by decide) (by decide))
  have PH := Lib.hid (fun w => pick_any r.high 4294967296 w hi.high (by decide) (by decide))
  have PJ := Lib.hid (fun w => pick_any r.reject 2 w hi.reject (by decide) (by decide))
  have PY := Lib.hid (fun w => pick_any r.why 15 w hi.why (by decide) (by decide))
  have PA := Lib.hid (fun w => pick_any r.accept 6 w hi.accept (by decide) (by decide))
  have A2 := Lib.hid (fun w => auth12_any r.verf w hi.verf h1)
  have F8 := Lib.hid (fun w => four_any r.results w h3)
  have htm : toldM r = toldM r := rfl
  generalize htt : toldM r = tm at htm ⊢
  clear htm
  unfold toldM at htt
  generalize pickM r.xid 4294967296 = q0 at P0 htt
  generalize pickM r.low 4294967296 = ql at PL htt
  generalize pickM r.high 4294967296 = qh at PH htt
  generalize pickM r.reject 2 = qj at PJ htt
  generalize pickM r.why 15 = qy at PY htt
  generalize pickM r.accept 6 = qa at PA htt
  generalize authPM r.verf = qv at A2 htt
  generalize fourM r.results = qr at F8 htt
  have HTM := Lib.hid htt.symm
  clear h1 h3 hi htt
  have hB : ABo w [(w.heap.size + 1, .cells (replyCells zeroReply) 27 (0, 0)), (w.heap.size, .cells (replyCells r) 27 (0, 0))] ((w.alloc (.cells (replyCells r) 27)).alloc (.cells (replyCells zeroReply) 27)) := ((ABo.start w).more _ rfl).more _ (by simp)
  have HY : Hid (ABo w [(w.heap.size + 1 + 1, .cells (replyCells ⟨q0, r.denied, zeroAuth, 0, 0, 0, 0, 0, ByteArray.empty⟩) 27 (0, 0)), (w.heap.size + 1, .cells (replyCells zeroReply) 27 (0, 0)), (w.heap.size, .cells (replyCells r) 27 (0, 0))] (((w.alloc (.cells (replyCells r) 27)).alloc (.cells (replyCells zeroReply) 27)).alloc (.cells (replyCells ⟨q0, r.denied, zeroAuth, 0, 0, 0, 0, 0, ByteArray.empty⟩) 27))) := Lib.hid (hB.more _ (by simp))
  unfold replyCells
  go_enter Tryz.func37, Tryz.ntmps37
  go_upto_region 1 with fail
  go_cut [3] from 6 (fun p wx => p = .pointer (some ⟨w.heap.size + 1 + 1, 0, none⟩) ∧ Hid (ABo w [(w.heap.size + 1 + 1, .cells (replyCells ⟨q0, r.denied, zeroAuth, 0, 0, 0, 0, 0, ByteArray.empty⟩) 27 (0, 0)), (w.heap.size + 1, .cells (replyCells zeroReply) 27 (0, 0)), (w.heap.size, .cells (replyCells r) 27 (0, 0))] wx))
  case first => as_aux_lemma =>
    go_region_with (first | (go_at_call 39; refine (P0.out _).mono ?_; rintro e w4 ⟨rfl, rfl⟩))
    all_goals
      go_wp2_with fail
      go_meet
      case rel => exact ⟨rfl, Lib.hid (HY.out.stay (Fr.refl _ _).drew)⟩
  case rest =>
  obtain ⟨rfl, HB⟩ := hcut
  clear HY hB P0
  have HB : Hid (ABo w [(w.heap.size + 1 + 1, .cells (replyCells ⟨q0, r.denied, zeroAuth, 0, 0, 0, 0, 0, ByteArray.empty⟩) 27 (0, 0)), (w.heap.size + 1, .cells (replyCells zeroReply) 27 (0, 0)), (w.heap.size, .cells (replyCells r) 27 (0, 0))] wc) := HB
  obtain ⟨x0, x1, x2, x3, x4, x5, x6, x7, x8, x9⟩ := box10 (Lib.hid (HB.out.at 2 rfl))
  go_wp2_with fail
  refine (PL.out _).mono ?_
  rintro e wq ⟨rfl, rfl⟩
  go_wp2_with fail
  refine (PH.out _).mono ?_
  rintro e wq ⟨rfl, rfl⟩
  by_cases hd : r.denied = true
  · have htm := HTM.out
    rw [if_pos hd] at htm
    have HTM := Lib.hid htm
    clear htm
    rw [hd] at HB
    go_wp2_with fail
    clear x0 x1 x2 x3 x4 x5 x6 x7 x8 x9 
    refine (PJ.out _).mono ?_
    rintro e wq ⟨rfl, rfl⟩
    by_cases hj : qj = 1
    · have htm := HTM.out
      rw [if_pos hj] at htm
      have HTM := Lib.hid htm
      clear htm
      have hj' : (qj == 1) = true := by rw [hj]; rfl
      clear hj
      have HB2 : Hid (ABo w [(w.heap.size + 1 + 1, .cells (replyCells ⟨q0, true, zeroAuth, 0, qj, 0, 0, 0, ByteArray.empty⟩) 27 (0, 0)), (w.heap.size + 1, .cells (replyCells zeroReply) 27 (0, 0)), (w.heap.size, .cells (replyCells r) 27 (0, 0))] (wc.setCell ⟨w.heap.size + 1 + 1, 5, none⟩ (.int .i64 qj))) := Lib.hid (ABo.put (B1 := []) (HB.out) (by simp <;> omega) 5 (.int .i64 qj))
      obtain ⟨y0, y1, y2, y3, y4, y5, y6, y7, y8, y9⟩ := box10 (Lib.hid (HB.out.at 0 rfl))
      obtain ⟨x0, x1, x2, x3, x4, x5, x6, x7, x8, x9⟩ := box10 (Lib.hid (HB.out.at 2 rfl))
      have f0 := freeOf (HB.out.at 0 rfl) 5
      have hly := lt_of_block (HB.out.at 0 rfl)
      have hyx : w.heap.size + 1 + 1 ≠ w.heap.size := by omega
      go_wp2_with fail
      clear y0 y1 y2 y3 y4 y5 y6 y7 y8 y9 x0 x1 x2 x3 x4 x5 x6 x7 x8 x9 f0 HB hly hyx
      generalize (wc.setCell ⟨w.heap.size + 1 + 1, 5, none⟩ (.int .i64 qj)) = v1 at *
      have HB := HB2
      clear HB2
      refine (PY.out _).mono ?_
      rintro e wq ⟨rfl, rfl⟩
      have HB2 : Hid (ABo w [(w.heap.size + 1 + 1, .cells (replyCells ⟨q0, true, zeroAuth, 0, qj, qy, 0, 0, ByteArray.empty⟩) 27 (0, 0)), (w.heap.size + 1, .cells (replyCells zeroReply) 27 (0, 0)), (w.heap.size, .cells (replyCells r) 27 (0, 0))] (v1.setCell ⟨w.heap.size + 1 + 1, 6, none⟩ (.int .i64 qy))) := Lib.hid (ABo.put (B1 := []) (HB.out) (by simp <;> omega) 6 (.int .i64 qy))
      obtain ⟨y0, y1, y2, y3, y4, y5, y6, y7, y8, y9⟩ := box10 (Lib.hid (HB.out.at 0 rfl))
      obtain ⟨x0, x1, x2, x3, x4, x5, x6, x7, x8, x9⟩ := box10 (Lib.hid (HB.out.at 2 rfl))
      have f0 := freeOf (HB.out.at 0 rfl) 6
      have hly := lt_of_block (HB.out.at 0 rfl)
      have hyx : w.heap.size + 1 + 1 ≠ w.heap.size := by omega
      go_upto_region 8 with fail
      clear y0 y1 y2 y3 y4 y5 y6 y7 y8 y9 x0 x1 x2 x3 x4 x5 x6 x7 x8 x9 f0 HB hly hyx
      generalize (v1.setCell ⟨w.heap.size + 1 + 1, 6, none⟩ (.int .i64 qy)) = v2 at *
      have HB := HB2
      clear HB2
      refine wp_copy_row (w.heap.size + 1 + 1) (w.heap.size + 1) 27 27 (replyCells ⟨q0, true, zeroAuth, 0, qj, qy, 0, 0, ByteArray.empty⟩) (replyCells zeroReply) _ rfl (HB.out.at 0 rfl) rfl rfl (HB.out.at 1 rfl) Tryz.underlying27 (by kernel_rfl) rfl (replyCells_one _) ?_
      intro w9 hb9 hf9 hs9
      have HB9 := Lib.hid hb9
      have HF9 := Lib.hid (HB.out.fr.then hf9 (fun i hi e => by omega))
      clear hb9 hf9 HB
      go_wp2
      exact bodyPost_ret (results_cell_row rfl _ _ _ _ _ _ _ rfl HB9.out Tryz.underlying27 rfl (by kernel_rfl)) rfl ⟨by rw [HTM.out]; rfl, HF9.out⟩
    · have htm := HTM.out
      rw [if_neg hj] at htm
      have HTM := Lib.hid htm
      clear htm
      have hj' : (qj == 1) = false := beq_eq_false_iff_ne.2 hj
      clear hj
      have HB2 : Hid (ABo w [(w.heap.size + 1 + 1, .cells (replyCells ⟨q0, true, zeroAuth, 0, qj, 0, 0, 0, ByteArray.empty⟩) 27 (0, 0)), (w.heap.size + 1, .cells (replyCells zeroReply) 27 (0, 0)), (w.heap.size, .cells (replyCells r) 27 (0, 0))] (wc.setCell ⟨w.heap.size + 1 + 1, 5, none⟩ (.int .i64 qj))) := Lib.hid (ABo.put (B1 := []) (HB.out) (by simp <;> omega) 5 (.int .i64 qj))
      obtain ⟨y0, y1, y2, y3, y4, y5, y6, y7, y8, y9⟩ := box10 (Lib.hid (HB.out.at 0 rfl))
      obtain ⟨x0, x1, x2, x3, x4, x5, x6, x7, x8, x9⟩ := box10 (Lib.hid (HB.out.at 2 rfl))
      have f0 := freeOf (HB.out.at 0 rfl) 5
      have hly := lt_of_block (HB.out.at 0 rfl)
      have hyx : w.heap.size + 1 + 1 ≠ w.heap.size := by omega
      go_upto_region 9 with fail
      clear y0 y1 y2 y3 y4 y5 y6 y7 y8 y9 x0 x1 x2 x3 x4 x5 x6 x7 x8 x9 f0 HB hly hyx
      generalize (wc.setCell ⟨w.heap.size + 1 + 1, 5, none⟩ (.int .i64 qj)) = v3 at *
      have HB := HB2
      clear HB2
      have HB2 : Hid (ABo w [(w.heap.size + 1 + 1, .cells (replyCells ⟨q0, true, zeroAuth, 0, qj, 0, ql, 0, ByteArray.empty⟩) 27 (0, 0)), (w.heap.size + 1, .cells (replyCells zeroReply) 27 (0, 0)), (w.heap.size, .cells (replyCells r) 27 (0, 0))] (v3.setCell ⟨w.heap.size + 1 + 1, 7, none⟩ (.int .i64 ql))) := Lib.hid (ABo.put (B1 := []) (HB.out) (by simp <;> omega) 7 (.int .i64 ql))
      obtain ⟨y0, y1, y2, y3, y4, y5, y6, y7, y8, y9⟩ := box10 (Lib.hid (HB.out.at 0 rfl))
      obtain ⟨x0, x1, x2, x3, x4, x5, x6, x7, x8, x9⟩ := box10 (Lib.hid (HB.out.at 2 rfl))
      have f0 := freeOf (HB.out.at 0 rfl) 7
      have hly := lt_of_block (HB.out.at 0 rfl)
      have hyx : w.heap.size + 1 + 1 ≠ w.heap.size := by omega
      go_upto_region 10 with fail
      clear y0 y1 y2 y3 y4 y5 y6 y7 y8 y9 x0 x1 x2 x3 x4 x5 x6 x7 x8 x9 f0 HB hly hyx
      generalize (v3.setCell ⟨w.heap.size + 1 + 1, 7, none⟩ (.int .i64 ql)) = v4 at *
      have HB := HB2
      clear HB2
      have HB2 : Hid (ABo w [(w.heap.size + 1 + 1, .cells (replyCells ⟨q0, true, zeroAuth, 0, qj, 0, ql, qh, ByteArray.empty⟩) 27 (0, 0)), (w.heap.size + 1, .cells (replyCells zeroReply) 27 (0, 0)), (w.heap.size, .cells (replyCells r) 27 (0, 0))] (v4.setCell ⟨w.heap.size + 1 + 1, 8, none⟩ (.int .i64 qh))) := Lib.hid (ABo.put (B1 := []) (HB.out) (by simp <;> omega) 8 (.int .i64 qh))
      obtain ⟨y0, y1, y2, y3, y4, y5, y6, y7, y8, y9⟩ := box10 (Lib.hid (HB.out.at 0 rfl))
      obtain ⟨x0, x1, x2, x3, x4, x5, x6, x7, x8, x9⟩ := box10 (Lib.hid (HB.out.at 2 rfl))
      have f0 := freeOf (HB.out.at 0 rfl) 8
      have hly := lt_of_block (HB.out.at 0 rfl)
      have hyx : w.heap.size + 1 + 1 ≠ w.heap.size := by omega
      go_upto_region 11 with fail
      clear y0 y1 y2 y3 y4 y5 y6 y7 y8 y9 x0 x1 x2 x3 x4 x5 x6 x7 x8 x9 f0 HB hly hyx
      generalize (v4.setCell ⟨w.heap.size + 1 + 1, 8, none⟩ (.int .i64 qh)) = v5 at *
      have HB := HB2
      clear HB2
      refine wp_copy_row (w.heap.size + 1 + 1) (w.heap.size + 1) 27 27 (replyCells ⟨q0, true, zeroAuth, 0, qj, 0, ql, qh, ByteArray.empty⟩) (replyCells zeroReply) _ rfl (HB.out.at 0 rfl) rfl rfl (HB.out.at 1 rfl) Tryz.underlying27 (by kernel_rfl) rfl (replyCells_one _) ?_
      intro w9 hb9 hf9 hs9
      have HB9 := Lib.hid hb9
      have HF9 := Lib.hid (HB.out.fr.then hf9 (fun i hi e => by omega))
      clear hb9 hf9 HB
      go_wp2
      exact bodyPost_ret (results_cell_row rfl _ _ _ _ _ _ _ rfl HB9.out Tryz.underlying27 rfl (by kernel_rfl)) rfl ⟨by rw [HTM.out]; rfl, HF9.out⟩
  · have htm := HTM.out
    rw [if_neg hd] at htm
    have HTM := Lib.hid htm
    clear htm
    rw [Bool.not_eq_true] at hd
    rw [hd] at HB
    go_wp2_with fail
    clear x0 x1 x2 x3 x4 x5 x6 x7 x8 x9 
    refine (A2.out _).mono ?_
    rintro e wd ⟨rfl, hfd⟩
    replace HB := Lib.hid (HB.out.stay hfd)
    clear hfd
    have HB2 : Hid (ABo w [(w.heap.size + 1 + 1, .cells (replyCells ⟨q0, false, qv, 0, 0, 0, 0, 0, ByteArray.empty⟩) 27 (0, 0)), (w.heap.size + 1, .cells (replyCells zeroReply) 27 (0, 0)), (w.heap.size, .cells (replyCells r) 27 (0, 0))] ((wd.setCell ⟨w.heap.size + 1 + 1, 2, none⟩ (.int .i64 qv.flavor)).setCell ⟨w.heap.size + 1 + 1, 3, none⟩ (.string qv.body))) := Lib.hid (ABo.put (B1 := []) (ABo.put (B1 := []) (HB.out) (by simp <;> omega) 2 (.int .i64 qv.flavor)) (by simp <;> omega) 3 (.string qv.body))
    obtain ⟨y0, y1, y2, y3, y4, y5, y6, y7, y8, y9⟩ := box10 (Lib.hid (HB.out.at 0 rfl))
    obtain ⟨x0, x1, x2, x3, x4, x5, x6, x7, x8, x9⟩ := box10 (Lib.hid (HB.out.at 2 rfl))
    have f0 := freeOf (HB.out.at 0 rfl) 2
    have f1 := freeOf (HB.out.at 0 rfl) 3
    have hly := lt_of_block (HB.out.at 0 rfl)
    have hyx : w.heap.size + 1 + 1 ≠ w.heap.size := by omega
    go_wp2_with fail
    clear y0 y1 y2 y3 y4 y5 y6 y7 y8 y9 x0 x1 x2 x3 x4 x5 x6 x7 x8 x9 f0 f1 HB hly hyx
    generalize ((wd.setCell ⟨w.heap.size + 1 + 1, 2, none⟩ (.int .i64 qv.flavor)).setCell ⟨w.heap.size + 1 + 1, 3, none⟩ (.string qv.body)) = v6 at *
    have HB := HB2
    clear HB2
    refine (PA.out _).mono ?_
    rintro e wq ⟨rfl, rfl⟩
    by_cases h0 : qa = 0
    · have htm := HTM.out
      rw [if_pos h0] at htm
      have HTM := Lib.hid htm
      clear htm
      have h0' : (qa == 0) = true := by rw [h0]; rfl
      clear h0
      have HB2 : Hid (ABo w [(w.heap.size + 1 + 1, .cells (replyCells ⟨q0, false, qv, qa, 0, 0, 0, 0, ByteArray.empty⟩) 27 (0, 0)), (w.heap.size + 1, .cells (replyCells zeroReply) 27 (0, 0)), (w.heap.size, .cells (replyCells r) 27 (0, 0))] (v6.setCell ⟨w.heap.size + 1 + 1, 4, none⟩ (.int .i64 qa))) := Lib.hid (ABo.put (B1 := []) (HB.out) (by simp <;> omega) 4 (.int .i64 qa))
      obtain ⟨y0, y1, y2, y3, y4, y5, y6, y7, y8, y9⟩ := box10 (Lib.hid (HB.out.at 0 rfl))
      obtain ⟨x0, x1, x2, x3, x4, x5, x6, x7, x8, x9⟩ := box10 (Lib.hid (HB.out.at 2 rfl))
      have f0 := freeOf (HB.out.at 0 rfl) 4
      have hly := lt_of_block (HB.out.at 0 rfl)
      have hyx : w.heap.size + 1 + 1 ≠ w.heap.size := by omega
      go_wp2_with fail
      clear y0 y1 y2 y3 y4 y5 y6 y7 y8 y9 x0 x1 x2 x3 x4 x5 x6 x7 x8 x9 f0 HB hly hyx
      generalize (v6.setCell ⟨w.heap.size + 1 + 1, 4, none⟩ (.int .i64 qa)) = v7 at *
      have HB := HB2
      clear HB2
      refine (F8.out _).mono ?_
      rintro e wq ⟨rfl, rfl⟩
      have HB2 : Hid (ABo w [(w.heap.size + 1 + 1, .cells (replyCells ⟨q0, false, qv, qa, 0, 0, 0, 0, qr⟩) 27 (0, 0)), (w.heap.size + 1, .cells (replyCells zeroReply) 27 (0, 0)), (w.heap.size, .cells (replyCells r) 27 (0, 0))] (v7.setCell ⟨w.heap.size + 1 + 1, 9, none⟩ (.string qr))) := Lib.hid (ABo.put (B1 := []) (HB.out) (by simp <;> omega) 9 (.string qr))
      obtain ⟨y0, y1, y2, y3, y4, y5, y6, y7, y8, y9⟩ := box10 (Lib.hid (HB.out.at 0 rfl))
      obtain ⟨x0, x1, x2, x3, x4, x5, x6, x7, x8, x9⟩ := box10 (Lib.hid (HB.out.at 2 rfl))
      have f0 := freeOf (HB.out.at 0 rfl) 9
      have hly := lt_of_block (HB.out.at 0 rfl)
      have hyx : w.heap.size + 1 + 1 ≠ w.heap.size := by omega
      go_upto_region 20 with fail
      clear y0 y1 y2 y3 y4 y5 y6 y7 y8 y9 x0 x1 x2 x3 x4 x5 x6 x7 x8 x9 f0 HB hly hyx
      generalize (v7.setCell ⟨w.heap.size + 1 + 1, 9, none⟩ (.string qr)) = v8 at *
      have HB := HB2
      clear HB2
      refine wp_copy_row (w.heap.size + 1 + 1) (w.heap.size + 1) 27 27 (replyCells ⟨q0, false, qv, qa, 0, 0, 0, 0, qr⟩) (replyCells zeroReply) _ rfl (HB.out.at 0 rfl) rfl rfl (HB.out.at 1 rfl) Tryz.underlying27 (by kernel_rfl) rfl (replyCells_one _) ?_
      intro w9 hb9 hf9 hs9
      have HB9 := Lib.hid hb9
      have HF9 := Lib.hid (HB.out.fr.then hf9 (fun i hi e => by omega))
      clear hb9 hf9 HB
      go_wp2
      exact bodyPost_ret (results_cell_row rfl _ _ _ _ _ _ _ rfl HB9.out Tryz.underlying27 rfl (by kernel_rfl)) rfl ⟨by rw [HTM.out]; rfl, HF9.out⟩
    · have htm := HTM.out
      rw [if_neg h0] at htm
      have HTM := Lib.hid htm
      clear htm
      have h0' : (qa == 0) = false := beq_eq_false_iff_ne.2 h0
      clear h0
      by_cases h2 : qa = 2
      · have htm := HTM.out
        rw [if_pos h2] at htm
        have HTM := Lib.hid htm
        clear htm
        have h2' : (qa == 2) = true := by rw [h2]; rfl
        clear h2
        have HB2 : Hid (ABo w [(w.heap.size + 1 + 1, .cells (replyCells ⟨q0, false, qv, qa, 0, 0, 0, 0, ByteArray.empty⟩) 27 (0, 0)), (w.heap.size + 1, .cells (replyCells zeroReply) 27 (0, 0)), (w.heap.size, .cells (replyCells r) 27 (0, 0))] (v6.setCell ⟨w.heap.size + 1 + 1, 4, none⟩ (.int .i64 qa))) := Lib.hid (ABo.put (B1 := []) (HB.out) (by simp <;> omega) 4 (.int .i64 qa))
        obtain ⟨y0, y1, y2, y3, y4, y5, y6, y7, y8, y9⟩ := box10 (Lib.hid (HB.out.at 0 rfl))
        obtain ⟨x0, x1, x2, x3, x4, x5, x6, x7, x8, x9⟩ := box10 (Lib.hid (HB.out.at 2 rfl))
        have f0 := freeOf (HB.out.at 0 rfl) 4
        have hly := lt_of_block (HB.out.at 0 rfl)
        have hyx : w.heap.size + 1 + 1 ≠ w.heap.size := by omega
        go_upto_region 18 with fail
        clear y0 y1 y2 y3 y4 y5 y6 y7 y8 y9 x0 x1 x2 x3 x4 x5 x6 x7 x8 x9 f0 HB hly hyx
        generalize (v6.setCell ⟨w.heap.size + 1 + 1, 4, none⟩ (.int .i64 qa)) = v9 at *
        have HB := HB2
        clear HB2
        have HB2 : Hid (ABo w [(w.heap.size + 1 + 1, .cells (replyCells ⟨q0, false, qv, qa, 0, 0, ql, 0, ByteArray.empty⟩) 27 (0, 0)), (w.heap.size + 1, .cells (replyCells zeroReply) 27 (0, 0)), (w.heap.size, .cells (replyCells r) 27 (0, 0))] (v9.setCell ⟨w.heap.size + 1 + 1, 7, none⟩ (.int .i64 ql))) := Lib.hid (ABo.put (B1 := []) (HB.out) (by simp <;> omega) 7 (.int .i64 ql))
        obtain ⟨y0, y1, y2, y3, y4, y5, y6, y7, y8, y9⟩ := box10 (Lib.hid (HB.out.at 0 rfl))
        obtain ⟨x0, x1, x2, x3, x4, x5, x6, x7, x8, x9⟩ := box10 (Lib.hid (HB.out.at 2 rfl))
        have f0 := freeOf (HB.out.at 0 rfl) 7
        have hly := lt_of_block (HB.out.at 0 rfl)
        have hyx : w.heap.size + 1 + 1 ≠ w.heap.size := by omega
        go_upto_region 19 with fail
        clear y0 y1 y2 y3 y4 y5 y6 y7 y8 y9 x0 x1 x2 x3 x4 x5 x6 x7 x8 x9 f0 HB hly hyx
        generalize (v9.setCell ⟨w.heap.size + 1 + 1, 7, none⟩ (.int .i64 ql)) = v10 at *
        have HB := HB2
        clear HB2
        have HB2 : Hid (ABo w [(w.heap.size + 1 + 1, .cells (replyCells ⟨q0, false, qv, qa, 0, 0, ql, qh, ByteArray.empty⟩) 27 (0, 0)), (w.heap.size + 1, .cells (replyCells zeroReply) 27 (0, 0)), (w.heap.size, .cells (replyCells r) 27 (0, 0))] (v10.setCell ⟨w.heap.size + 1 + 1, 8, none⟩ (.int .i64 qh))) := Lib.hid (ABo.put (B1 := []) (HB.out) (by simp <;> omega) 8 (.int .i64 qh))
        obtain ⟨y0, y1, y2, y3, y4, y5, y6, y7, y8, y9⟩ := box10 (Lib.hid (HB.out.at 0 rfl))
        obtain ⟨x0, x1, x2, x3, x4, x5, x6, x7, x8, x9⟩ := box10 (Lib.hid (HB.out.at 2 rfl))
        have f0 := freeOf (HB.out.at 0 rfl) 8
        have hly := lt_of_block (HB.out.at 0 rfl)
        have hyx : w.heap.size + 1 + 1 ≠ w.heap.size := by omega
        go_upto_region 20 with fail
        clear y0 y1 y2 y3 y4 y5 y6 y7 y8 y9 x0 x1 x2 x3 x4 x5 x6 x7 x8 x9 f0 HB hly hyx
        generalize (v10.setCell ⟨w.heap.size + 1 + 1, 8, none⟩ (.int .i64 qh)) = v11 at *
        have HB := HB2
        clear HB2
        refine wp_copy_row (w.heap.size + 1 + 1) (w.heap.size + 1) 27 27 (replyCells ⟨q0, false, qv, qa, 0, 0, ql, qh, ByteArray.empty⟩) (replyCells zeroReply) _ rfl (HB.out.at 0 rfl) rfl rfl (HB.out.at 1 rfl) Tryz.underlying27 (by kernel_rfl) rfl (replyCells_one _) ?_
        intro w9 hb9 hf9 hs9
        have HB9 := Lib.hid hb9
        have HF9 := Lib.hid (HB.out.fr.then hf9 (fun i hi e => by omega))
        clear hb9 hf9 HB
        go_wp2
        exact bodyPost_ret (results_cell_row rfl _ _ _ _ _ _ _ rfl HB9.out Tryz.underlying27 rfl (by kernel_rfl)) rfl ⟨by rw [HTM.out]; rfl, HF9.out⟩
      · have htm := HTM.out
        rw [if_neg h2] at htm
        have HTM := Lib.hid htm
        clear htm
        have h2' : (qa == 2) = false := beq_eq_false_iff_ne.2 h2
        clear h2
        have HB2 : Hid (ABo w [(w.heap.size + 1 + 1, .cells (replyCells ⟨q0, false, qv, qa, 0, 0, 0, 0, ByteArray.empty⟩) 27 (0, 0)), (w.heap.size + 1, .cells (replyCells zeroReply) 27 (0, 0)), (w.heap.size, .cells (replyCells r) 27 (0, 0))] (v6.setCell ⟨w.heap.size + 1 + 1, 4, none⟩ (.int .i64 qa))) := Lib.hid (ABo.put (B1 := []) (HB.out) (by simp <;> omega) 4 (.int .i64 qa))
        obtain ⟨y0, y1, y2, y3, y4, y5, y6, y7, y8, y9⟩ := box10 (Lib.hid (HB.out.at 0 rfl))
        obtain ⟨x0, x1, x2, x3, x4, x5, x6, x7, x8, x9⟩ := box10 (Lib.hid (HB.out.at 2 rfl))
        have f0 := freeOf (HB.out.at 0 rfl) 4
        have hly := lt_of_block (HB.out.at 0 rfl)
        have hyx : w.heap.size + 1 + 1 ≠ w.heap.size := by omega
        go_upto_region 20 with fail
        clear y0 y1 y2 y3 y4 y5 y6 y7 y8 y9 x0 x1 x2 x3 x4 x5 x6 x7 x8 x9 f0 HB hly hyx
        generalize (v6.setCell ⟨w.heap.size + 1 + 1, 4, none⟩ (.int .i64 qa)) = v12 at *
        have HB := HB2
        clear HB2
        refine wp_copy_row (w.heap.size + 1 + 1) (w.heap.size + 1) 27 27 (replyCells ⟨q0, false, qv, qa, 0, 0, 0, 0, ByteArray.empty⟩) (replyCells zeroReply) _ rfl (HB.out.at 0 rfl) rfl rfl (HB.out.at 1 rfl) Tryz.underlying27 (by kernel_rfl) rfl (replyCells_one _) ?_
        intro w9 hb9 hf9 hs9
        have HB9 := Lib.hid hb9
        have HF9 := Lib.hid (HB.out.fr.then hf9 (fun i hi e => by omega))
        clear hb9 hf9 HB
        go_wp2
        exact bodyPost_ret (results_cell_row rfl _ _ _ _ _ _ _ rfl HB9.out Tryz.underlying27 rfl (by kernel_rfl)) rfl ⟨by rw [HTM.out]; rfl, HF9.out⟩
end Go.Proofs.YtcndifccbkekhaaGreatDoor
