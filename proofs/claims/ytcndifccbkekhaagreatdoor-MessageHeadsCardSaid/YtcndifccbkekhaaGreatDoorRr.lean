/- The document's messages (callboxref12): ParseReply. -/
import Derived.Test.YtcndifccbkekhaaGreatDoorRq
import Derived.Test.YtcndifccbkekhaaGreatDoorPr
import Derived.Test.YtcndifccbkekhaaGreatDoorNd
namespace Go.Proofs.YtcndifccbkekhaaGreatDoor
open Go.RowKit
set_option linter.unusedVariables false
set_option linter.unusedSimpArgs false
set_option maxRecDepth 100000 in
set_option maxHeartbeats 16000000 in
theorem rParseReply_any (s : ByteArray) (w0 : World) (hs : s.size ≤ 140737488351232) :
    Calls Tryz.prog 80 #[.string s] w0 fun r w' => r = .returned (.tuple #[.agg (replyCells (rParseReplyM s).1), .int .i64 (rParseReplyM s).2]) ∧ Fr (fun _ => False) w0 w' := by
  have hP : rParseReplyM s = if (RSt.mk s 0).uint.uintV ≠ 1 ∨ 1 < (RSt.mk s 0).uint.uint.uintV then (zeroReply, 121) else if rPrintReplyM (RSt.mk s 0).rReply = (s, 0) then ((RSt.mk s 0).rReply, 0) else (zeroReply, 121) := rfl
  have HP := Lib.hid hP
  have hsm := rReply_small s
  have HPr := Lib.hid (fun w => rPrintReply_any (RSt.mk s 0).rReply w (Nat.le_trans hsm.1 hs) (Nat.le_trans hsm.2 hs))
  clear hP hsm
  have hr : Hid (∀ w, Calls Tryz.prog 72 #[.string s] w fun r w' => r = .returned (.pointer (some ⟨w.heap.size, 0, none⟩)) ∧ Fr (fun _ => False) w w' ∧ RRd w' w.heap.size ⟨s, 0⟩) := Lib.hid (fun w => rRNew_any s w hs)
  have hw3 : Fr (fun _ => False) w0 (w0.alloc (Obj.cells (replyCells zeroReply) 27 (0, 0))) := (Fr.refl _ _).alloc _
  have hR := Lib.hid (heap_alloc_new w0 (Obj.cells (replyCells zeroReply) 27 (0, 0)))
  go_enter Tryz.func80, Tryz.ntmps80
  go_wp2_with fail
  refine (hr.out _).mono ?_
  rintro e w1 ⟨rfl, hf1, hr1⟩
  simp only [World.size_alloc] at hr1
  have HB0 : QBo w0 (w0.heap.size + 1) [(w0.heap.size, .cells (replyCells zeroReply) 27 (0, 0))] w1 ⟨s, 0⟩ := ⟨hr1, hw3.trans hf1, fun p hp => by
      rw [List.mem_singleton.1 hp]
      exact ⟨(hf1.block _ (by simp) id).trans hR.out, by show w0.heap.size ≠ _; omega, Nat.le_refl _⟩, by omega⟩
  have hlw : w0.heap.size + 1 < w1.heap.size := hr1.lt
  have HB : Hid (QBo w0 (w0.heap.size + 1) [(w1.heap.size, .cells (replyCells zeroReply) 27 (0, 0)), (w0.heap.size, .cells (replyCells zeroReply) 27 (0, 0))] (w1.alloc (Obj.cells (replyCells zeroReply) 27 (0, 0))) ⟨s, 0⟩) := Lib.hid (HB0.more (Obj.cells (replyCells zeroReply) 27 (0, 0)) rfl)
  clear hf1 hr1 hw3 hR hr HB0
  go_wp2_with fail
  refine (rRUint_any _ HB.out.rd).mono ?_
  rintro e v3 ⟨rfl, hf, hr⟩
  replace HB := Lib.hid (HB.out.step hf hr)
  clear hf hr
  have HB2 : Hid (QBo w0 (w0.heap.size + 1) [(w1.heap.size, .cells (replyCells ⟨(RSt.mk s 0).uintV, false, zeroAuth, 0, 0, 0, 0, 0, ByteArray.empty⟩) 27 (0, 0)), (w0.heap.size, .cells (replyCells zeroReply) 27 (0, 0))] (v3.setCell ⟨w1.heap.size, 0, none⟩ (.int .i64 (RSt.mk s 0).uintV)) (RSt.mk s 0).uint) := Lib.hid (QBo.put (B1 := []) (HB.out) (by simp <;> omega) 0 (.int .i64 (RSt.mk s 0).uintV))
  obtain ⟨n0, n1, n2, n3, n4, n5, n6, n7, n8, n9⟩ := box10 (Lib.hid (HB.out.at 0 rfl))
  have f0 := freeOf (HB.out.at 0 rfl) 0
  have hlx := lt_of_block (HB.out.at 0 rfl)
  go_wp2_with fail
  clear n0 n1 n2 n3 n4 n5 n6 n7 n8 n9 f0 HB hlx
  generalize (v3.setCell ⟨w1.heap.size, 0, none⟩ (.int .i64 (RSt.mk s 0).uintV)) = v4 at *
  have HB := HB2
  clear HB2
  refine (rRUint_any _ HB.out.rd).mono ?_
  rintro e v5 ⟨rfl, hf, hr⟩
  replace HB := Lib.hid (HB.out.step hf hr)
  clear hf hr
  go_wp2_with fail
  refine (rRUint_any _ HB.out.rd).mono ?_
  rintro e v6 ⟨rfl, hf, hr⟩
  replace HB := Lib.hid (HB.out.step hf hr)
  clear hf hr
  have HB' : Hid (QBo w0 (w0.heap.size + 1) [(w1.heap.size, .cells (replyCells ⟨(RSt.mk s 0).uintV, false, zeroAuth, 0, 0, 0, 0, 0, ByteArray.empty⟩) 27 (0, 0)), (w0.heap.size, .cells (replyCells zeroReply) 27 (0, 0))] v6 (RSt.mk s 0).three) := HB
  have HB := HB'
  clear HB'
  by_cases hk : (RSt.mk s 0).uint.uintV = 1
  case neg =>
    have hk' : ((RSt.mk s 0).uint.uintV != 1) = true := by simpa using hk
    have hP := HP.out
    rw [if_pos (.inl hk)] at hP
    have HP := Lib.hid hP
    clear hP hk
    go_upto_region 7 with fail
    refine wp_zero_row3 (w0.heap.size) 27 (replyCells zeroReply) (replyCells zeroReply) (by kernel_rfl) rfl rfl (HB.out.at 1 rfl) (by kernel_rfl) rfl (replyCells_one _) ?_
    intro w9 hb9 hf9
    have HB9 := Lib.hid hb9
    have HF9 := Lib.hid (HB.out.fr.then hf9 (fun i hi e => by omega))
    clear hb9 hf9 HB
    go_wp2
    refine bodyPost_ret (results_row_tmp rfl _ _ _ _ _ _ _ rfl rfl HB9.out Tryz.underlying27 (by kernel_rfl)) rfl ⟨by rw [HP.out]; rfl, HF9.out⟩
  have hk' : ((RSt.mk s 0).uint.uintV != 1) = false := by rw [hk]; rfl
  by_cases ht : 1 < (RSt.mk s 0).uint.uint.uintV
  case pos =>
    have hP := HP.out
    rw [if_pos (.inr ht)] at hP
    have HP := Lib.hid hP
    clear hP hk
    go_upto_region 7 with fail
    refine wp_zero_row3 (w0.heap.size) 27 (replyCells zeroReply) (replyCells zeroReply) (by kernel_rfl) rfl rfl (HB.out.at 1 rfl) (by kernel_rfl) rfl (replyCells_one _) ?_
    intro w9 hb9 hf9
    have HB9 := Lib.hid hb9
    have HF9 := Lib.hid (HB.out.fr.then hf9 (fun i hi e => by omega))
    clear hb9 hf9 HB
    go_wp2
    refine bodyPost_ret (results_row_tmp rfl _ _ _ _ _ _ _ rfl rfl HB9.out Tryz.underlying27 (by kernel_rfl)) rfl ⟨by rw [HP.out]; rfl, HF9.out⟩
  have hP := HP.out
  rw [if_neg (fun h => h.elim (fun h => h hk) (fun h => ht h))] at hP
  replace HP := Lib.hid hP
  clear hP hk
  have ht' := Int.not_lt.1 ht
  clear ht
  generalize hpp : rPrintReplyM (RSt.mk s 0).rReply = pp at *
  clear hpp
  have HCV : Hid ((RSt.mk s 0).rReply = (if (RSt.mk s 0).third = 1 then (RSt.mk s 0).rDenied else (RSt.mk s 0).rAccept)) := Lib.hid rfl
  have hD : (RSt.mk s 0).third = 1 → (RSt.mk s 0).rDenied = (if (RSt.mk s 0).three.uintV = 1 then ⟨(RSt.mk s 0).uintV, true, zeroAuth, 0, (RSt.mk s 0).three.uintV, (RSt.mk s 0).three.uint.uintV, 0, 0, ByteArray.empty⟩ else ⟨(RSt.mk s 0).uintV, true, zeroAuth, 0, (RSt.mk s 0).three.uintV, 0, (RSt.mk s 0).three.uint.uintV, (RSt.mk s 0).three.uint.uint.uintV, ByteArray.empty⟩) := fun h => rfl
  have hA : (RSt.mk s 0).rAccept = (if (RSt.mk s 0).three.authS.uintV = 2 then ⟨(RSt.mk s 0).uintV, false, (RSt.mk s 0).three.authV, (RSt.mk s 0).three.authS.uintV, 0, 0, (RSt.mk s 0).three.authS.uint.uintV, (RSt.mk s 0).three.authS.uint.uint.uintV, (RSt.mk s 0).three.authS.three.restV⟩ else ⟨(RSt.mk s 0).uintV, false, (RSt.mk s 0).three.authV, (RSt.mk s 0).three.authS.uintV, 0, 0, 0, 0, (RSt.mk s 0).three.authS.uint.restV⟩) := rfl
  have HDe := Lib.hid hD
  have HAc := Lib.hid hA
  clear hD hA
  go_upto_if 27 with fail
  clear hk'
  have ht3 : (RSt.mk s 0).third = (RSt.mk s 0).uint.uint.uintV := rfl
  rw [ht3] at HCV HDe
  clear ht3
  generalize (RSt.mk s 0).rReply = cv at *
  generalize (RSt.mk s 0).rDenied = cd at *
  generalize (RSt.mk s 0).rAccept = ca at *
  generalize (RSt.mk s 0).three = st at HB HDe HAc
  generalize (RSt.mk s 0).uint.uint.uintV = td at *
  generalize (RSt.mk s 0).uintV = xi at HB HDe HAc
  go_cut [27] from 10 (fun _ wx => Hid (∃ st', QBo w0 (w0.heap.size + 1) [(w1.heap.size, .cells (replyCells cv) 27 (0, 0)), (w0.heap.size, .cells (replyCells zeroReply) 27 (0, 0))] wx st'))
  case first => as_aux_lemma =>
    clear HP HPr ht'
    by_cases hd : td = 1
    · have hd' : (td == 1) = true := by rw [hd]; rfl
      have hcv := HCV.out
      rw [if_pos hd, HDe.out hd] at hcv
      have HCV := Lib.hid hcv
      clear hcv HDe HAc hd
      obtain ⟨n0, n1, n2, n3, n4, n5, n6, n7, n8, n9⟩ := box10 (Lib.hid (HB.out.at 0 rfl))
      have f0 := freeOf (HB.out.at 0 rfl) 1
      have hlx := lt_of_block (HB.out.at 0 rfl)
      have HB2 : Hid (QBo w0 (w0.heap.size + 1) [(w1.heap.size, .cells (replyCells ⟨xi, true, zeroAuth, 0, 0, 0, 0, 0, ByteArray.empty⟩) 27 (0, 0)), (w0.heap.size, .cells (replyCells zeroReply) 27 (0, 0))] (v6.setCell ⟨w1.heap.size, 1, none⟩ (.bool true)) st) := Lib.hid (QBo.put (B1 := []) HB.out (by simp <;> omega) 1 (.bool true))
      go_wp2_with fail
      clear n0 n1 n2 n3 n4 n5 n6 n7 n8 n9 f0 HB hlx
      generalize v6.setCell ⟨w1.heap.size, 1, none⟩ (.bool true) = vd at *
      have HB := HB2
      clear HB2
      refine (rRUint_any _ HB.out.rd).mono ?_
      rintro e v7 ⟨rfl, hf, hr⟩
      replace HB := Lib.hid (HB.out.step hf hr)
      clear hf hr
      by_cases hj : st.uintV = 1
      · have hj' : (st.uintV == 1) = true := by rw [hj]; rfl
        have hcv := HCV.out
        rw [if_pos hj] at hcv
        have HCV := Lib.hid hcv
        clear hcv hj
        have HB2 : Hid (QBo w0 (w0.heap.size + 1) [(w1.heap.size, .cells (replyCells ⟨xi, true, zeroAuth, 0, st.uintV, 0, 0, 0, ByteArray.empty⟩) 27 (0, 0)), (w0.heap.size, .cells (replyCells zeroReply) 27 (0, 0))] (v7.setCell ⟨w1.heap.size, 5, none⟩ (.int .i64 st.uintV)) st.uint) := Lib.hid (QBo.put (B1 := []) (HB.out) (by simp <;> omega) 5 (.int .i64 st.uintV))
        obtain ⟨n0, n1, n2, n3, n4, n5, n6, n7, n8, n9⟩ := box10 (Lib.hid (HB.out.at 0 rfl))
        have f0 := freeOf (HB.out.at 0 rfl) 5
        have hlx := lt_of_block (HB.out.at 0 rfl)
        go_wp2_with fail
        clear n0 n1 n2 n3 n4 n5 n6 n7 n8 n9 f0 HB hlx
        generalize (v7.setCell ⟨w1.heap.size, 5, none⟩ (.int .i64 st.uintV)) = v8 at *
        have HB := HB2
        clear HB2
        refine (rRUint_any _ HB.out.rd).mono ?_
        rintro e v9 ⟨rfl, hf, hr⟩
        replace HB := Lib.hid (HB.out.step hf hr)
        clear hf hr
        have HB2 : Hid (QBo w0 (w0.heap.size + 1) [(w1.heap.size, .cells (replyCells ⟨xi, true, zeroAuth, 0, st.uintV, st.uint.uintV, 0, 0, ByteArray.empty⟩) 27 (0, 0)), (w0.heap.size, .cells (replyCells zeroReply) 27 (0, 0))] (v9.setCell ⟨w1.heap.size, 6, none⟩ (.int .i64 st.uint.uintV)) st.uint.uint) := Lib.hid (QBo.put (B1 := []) (HB.out) (by simp <;> omega) 6 (.int .i64 st.uint.uintV))
        obtain ⟨n0, n1, n2, n3, n4, n5, n6, n7, n8, n9⟩ := box10 (Lib.hid (HB.out.at 0 rfl))
        have f0 := freeOf (HB.out.at 0 rfl) 6
        have hlx := lt_of_block (HB.out.at 0 rfl)
        go_wp2_with fail
        clear n0 n1 n2 n3 n4 n5 n6 n7 n8 n9 f0 HB hlx
        generalize (v9.setCell ⟨w1.heap.size, 6, none⟩ (.int .i64 st.uint.uintV)) = v10 at *
        have HB := HB2
        clear HB2
        go_meet
        case rel => exact Lib.hid ⟨_, by rw [HCV.out]; exact HB.out⟩
      · have hj' : (st.uintV == 1) = false := beq_eq_false_iff_ne.2 hj
        have hcv := HCV.out
        rw [if_neg hj] at hcv
        have HCV := Lib.hid hcv
        clear hcv hj
        have HB2 : Hid (QBo w0 (w0.heap.size + 1) [(w1.heap.size, .cells (replyCells ⟨xi, true, zeroAuth, 0, st.uintV, 0, 0, 0, ByteArray.empty⟩) 27 (0, 0)), (w0.heap.size, .cells (replyCells zeroReply) 27 (0, 0))] (v7.setCell ⟨w1.heap.size, 5, none⟩ (.int .i64 st.uintV)) st.uint) := Lib.hid (QBo.put (B1 := []) (HB.out) (by simp <;> omega) 5 (.int .i64 st.uintV))
        obtain ⟨n0, n1, n2, n3, n4, n5, n6, n7, n8, n9⟩ := box10 (Lib.hid (HB.out.at 0 rfl))
        have f0 := freeOf (HB.out.at 0 rfl) 5
        have hlx := lt_of_block (HB.out.at 0 rfl)
        go_wp2_with fail
        clear n0 n1 n2 n3 n4 n5 n6 n7 n8 n9 f0 HB hlx
        generalize (v7.setCell ⟨w1.heap.size, 5, none⟩ (.int .i64 st.uintV)) = v11 at *
        have HB := HB2
        clear HB2
        refine (rRUint_any _ HB.out.rd).mono ?_
        rintro e v12 ⟨rfl, hf, hr⟩
        replace HB := Lib.hid (HB.out.step hf hr)
        clear hf hr
        have HB2 : Hid (QBo w0 (w0.heap.size + 1) [(w1.heap.size, .cells (replyCells ⟨xi, true, zeroAuth, 0, st.uintV, 0, st.uint.uintV, 0, ByteArray.empty⟩) 27 (0, 0)), (w0.heap.size, .cells (replyCells zeroReply) 27 (0, 0))] (v12.setCell ⟨w1.heap.size, 7, none⟩ (.int .i64 st.uint.uintV)) st.uint.uint) := Lib.hid (QBo.put (B1 := []) (HB.out) (by simp <;> omega) 7 (.int .i64 st.uint.uintV))
        obtain ⟨n0, n1, n2, n3, n4, n5, n6, n7, n8, n9⟩ := box10 (Lib.hid (HB.out.at 0 rfl))
        have f0 := freeOf (HB.out.at 0 rfl) 7
        have hlx := lt_of_block (HB.out.at 0 rfl)
        go_wp2_with fail
        clear n0 n1 n2 n3 n4 n5 n6 n7 n8 n9 f0 HB hlx
        generalize (v12.setCell ⟨w1.heap.size, 7, none⟩ (.int .i64 st.uint.uintV)) = v13 at *
        have HB := HB2
        clear HB2
        refine (rRUint_any _ HB.out.rd).mono ?_
        rintro e v14 ⟨rfl, hf, hr⟩
        replace HB := Lib.hid (HB.out.step hf hr)
        clear hf hr
        have HB2 : Hid (QBo w0 (w0.heap.size + 1) [(w1.heap.size, .cells (replyCells ⟨xi, true, zeroAuth, 0, st.uintV, 0, st.uint.uintV, st.uint.uint.uintV, ByteArray.empty⟩) 27 (0, 0)), (w0.heap.size, .cells (replyCells zeroReply) 27 (0, 0))] (v14.setCell ⟨w1.heap.size, 8, none⟩ (.int .i64 st.uint.uint.uintV)) st.three) := Lib.hid (QBo.put (B1 := []) (HB.out) (by simp <;> omega) 8 (.int .i64 st.uint.uint.uintV))
        obtain ⟨n0, n1, n2, n3, n4, n5, n6, n7, n8, n9⟩ := box10 (Lib.hid (HB.out.at 0 rfl))
        have f0 := freeOf (HB.out.at 0 rfl) 8
        have hlx := lt_of_block (HB.out.at 0 rfl)
        go_wp2_with fail
        clear n0 n1 n2 n3 n4 n5 n6 n7 n8 n9 f0 HB hlx
        generalize (v14.setCell ⟨w1.heap.size, 8, none⟩ (.int .i64 st.uint.uint.uintV)) = v15 at *
        have HB := HB2
        clear HB2
        go_meet
        case rel => exact Lib.hid ⟨_, by rw [HCV.out]; exact HB.out⟩
    · have hd' : (td == 1) = false := beq_eq_false_iff_ne.2 hd
      have hcv := HCV.out
      rw [if_neg hd, HAc.out] at hcv
      have HCV := Lib.hid hcv
      clear hcv HDe HAc hd
      go_wp2_with fail
      refine (rreadAuth_any _ HB.out.rd).mono ?_
      rintro e v16 ⟨rfl, hf, hr⟩
      replace HB := Lib.hid (HB.out.step hf hr)
      clear hf hr
      have HB2 : Hid (QBo w0 (w0.heap.size + 1) [(w1.heap.size, .cells (replyCells ⟨xi, false, st.authV, 0, 0, 0, 0, 0, ByteArray.empty⟩) 27 (0, 0)), (w0.heap.size, .cells (replyCells zeroReply) 27 (0, 0))] ((v16.setCell ⟨w1.heap.size, 2, none⟩ (.int .i64 st.authV.flavor)).setCell ⟨w1.heap.size, 3, none⟩ (.string st.authV.body)) st.authS) := Lib.hid (QBo.put (B1 := []) (QBo.put (B1 := []) (HB.out) (by simp <;> omega) 2 (.int .i64 st.authV.flavor)) (by simp <;> omega) 3 (.string st.authV.body))
      obtain ⟨n0, n1, n2, n3, n4, n5, n6, n7, n8, n9⟩ := box10 (Lib.hid (HB.out.at 0 rfl))
      have f0 := freeOf (HB.out.at 0 rfl) 2
      have f1 := freeOf (HB.out.at 0 rfl) 3
      have hlx := lt_of_block (HB.out.at 0 rfl)
      go_wp2_with fail
      clear n0 n1 n2 n3 n4 n5 n6 n7 n8 n9 f0 f1 HB hlx
      generalize ((v16.setCell ⟨w1.heap.size, 2, none⟩ (.int .i64 st.authV.flavor)).setCell ⟨w1.heap.size, 3, none⟩ (.string st.authV.body)) = v17 at *
      have HB := HB2
      clear HB2
      refine (rRUint_any _ HB.out.rd).mono ?_
      rintro e v18 ⟨rfl, hf, hr⟩
      replace HB := Lib.hid (HB.out.step hf hr)
      clear hf hr
      by_cases hj : st.authS.uintV = 2
      · have hj' : (st.authS.uintV == 2) = true := by rw [hj]; rfl
        have hcv := HCV.out
        rw [if_pos hj] at hcv
        have HCV := Lib.hid hcv
        clear hcv hj
        have HB2 : Hid (QBo w0 (w0.heap.size + 1) [(w1.heap.size, .cells (replyCells ⟨xi, false, st.authV, st.authS.uintV, 0, 0, 0, 0, ByteArray.empty⟩) 27 (0, 0)), (w0.heap.size, .cells (replyCells zeroReply) 27 (0, 0))] (v18.setCell ⟨w1.heap.size, 4, none⟩ (.int .i64 st.authS.uintV)) st.authS.uint) := Lib.hid (QBo.put (B1 := []) (HB.out) (by simp <;> omega) 4 (.int .i64 st.authS.uintV))
        obtain ⟨n0, n1, n2, n3, n4, n5, n6, n7, n8, n9⟩ := box10 (Lib.hid (HB.out.at 0 rfl))
        have f0 := freeOf (HB.out.at 0 rfl) 4
        have hlx := lt_of_block (HB.out.at 0 rfl)
        go_wp2_with fail
        clear n0 n1 n2 n3 n4 n5 n6 n7 n8 n9 f0 HB hlx
        generalize (v18.setCell ⟨w1.heap.size, 4, none⟩ (.int .i64 st.authS.uintV)) = v19 at *
        have HB := HB2
        clear HB2
        refine (rRUint_any _ HB.out.rd).mono ?_
        rintro e v20 ⟨rfl, hf, hr⟩
        replace HB := Lib.hid (HB.out.step hf hr)
        clear hf hr
        have HB2 : Hid (QBo w0 (w0.heap.size + 1) [(w1.heap.size, .cells (replyCells ⟨xi, false, st.authV, st.authS.uintV, 0, 0, st.authS.uint.uintV, 0, ByteArray.empty⟩) 27 (0, 0)), (w0.heap.size, .cells (replyCells zeroReply) 27 (0, 0))] (v20.setCell ⟨w1.heap.size, 7, none⟩ (.int .i64 st.authS.uint.uintV)) st.authS.uint.uint) := Lib.hid (QBo.put (B1 := []) (HB.out) (by simp <;> omega) 7 (.int .i64 st.authS.uint.uintV))
        obtain ⟨n0, n1, n2, n3, n4, n5, n6, n7, n8, n9⟩ := box10 (Lib.hid (HB.out.at 0 rfl))
        have f0 := freeOf (HB.out.at 0 rfl) 7
        have hlx := lt_of_block (HB.out.at 0 rfl)
        go_wp2_with fail
        clear n0 n1 n2 n3 n4 n5 n6 n7 n8 n9 f0 HB hlx
        generalize (v20.setCell ⟨w1.heap.size, 7, none⟩ (.int .i64 st.authS.uint.uintV)) = v21 at *
        have HB := HB2
        clear HB2
        refine (rRUint_any _ HB.out.rd).mono ?_
        rintro e v22 ⟨rfl, hf, hr⟩
        replace HB := Lib.hid (HB.out.step hf hr)
        clear hf hr
        have HB2 : Hid (QBo w0 (w0.heap.size + 1) [(w1.heap.size, .cells (replyCells ⟨xi, false, st.authV, st.authS.uintV, 0, 0, st.authS.uint.uintV, st.authS.uint.uint.uintV, ByteArray.empty⟩) 27 (0, 0)), (w0.heap.size, .cells (replyCells zeroReply) 27 (0, 0))] (v22.setCell ⟨w1.heap.size, 8, none⟩ (.int .i64 st.authS.uint.uint.uintV)) st.authS.three) := Lib.hid (QBo.put (B1 := []) (HB.out) (by simp <;> omega) 8 (.int .i64 st.authS.uint.uint.uintV))
        obtain ⟨n0, n1, n2, n3, n4, n5, n6, n7, n8, n9⟩ := box10 (Lib.hid (HB.out.at 0 rfl))
        have f0 := freeOf (HB.out.at 0 rfl) 8
        have hlx := lt_of_block (HB.out.at 0 rfl)
        go_wp2_with fail
        clear n0 n1 n2 n3 n4 n5 n6 n7 n8 n9 f0 HB hlx
        generalize (v22.setCell ⟨w1.heap.size, 8, none⟩ (.int .i64 st.authS.uint.uint.uintV)) = v23 at *
        have HB := HB2
        clear HB2
        refine (rRRest_any _ HB.out.rd).mono ?_
        rintro e v24 ⟨rfl, hf, hr⟩
        replace HB := Lib.hid (HB.out.step hf hr)
        clear hf hr
        have HB2 : Hid (QBo w0 (w0.heap.size + 1) [(w1.heap.size, .cells (replyCells ⟨xi, false, st.authV, st.authS.uintV, 0, 0, st.authS.uint.uintV, st.authS.uint.uint.uintV, st.authS.three.restV⟩) 27 (0, 0)), (w0.heap.size, .cells (replyCells zeroReply) 27 (0, 0))] (v24.setCell ⟨w1.heap.size, 9, none⟩ (.string st.authS.three.restV)) st.authS.three.restS) := Lib.hid (QBo.put (B1 := []) (HB.out) (by simp <;> omega) 9 (.string st.authS.three.restV))
        obtain ⟨n0, n1, n2, n3, n4, n5, n6, n7, n8, n9⟩ := box10 (Lib.hid (HB.out.at 0 rfl))
        have f0 := freeOf (HB.out.at 0 rfl) 9
        have hlx := lt_of_block (HB.out.at 0 rfl)
        go_wp2_with fail
        clear n0 n1 n2 n3 n4 n5 n6 n7 n8 n9 f0 HB hlx
        generalize (v24.setCell ⟨w1.heap.size, 9, none⟩ (.string st.authS.three.restV)) = v25 at *
        have HB := HB2
        clear HB2
        go_meet
        case rel => exact Lib.hid ⟨_, by rw [HCV.out]; exact HB.out⟩
      · have hj' : (st.authS.uintV == 2) = false := beq_eq_false_iff_ne.2 hj
        have hcv := HCV.out
        rw [if_neg hj] at hcv
        have HCV := Lib.hid hcv
        clear hcv hj
        have HB2 : Hid (QBo w0 (w0.heap.size + 1) [(w1.heap.size, .cells (replyCells ⟨xi, false, st.authV, st.authS.uintV, 0, 0, 0, 0, ByteArray.empty⟩) 27 (0, 0)), (w0.heap.size, .cells (replyCells zeroReply) 27 (0, 0))] (v18.setCell ⟨w1.heap.size, 4, none⟩ (.int .i64 st.authS.uintV)) st.authS.uint) := Lib.hid (QBo.put (B1 := []) (HB.out) (by simp <;> omega) 4 (.int .i64 st.authS.uintV))
        obtain ⟨n0, n1, n2, n3, n4, n5, n6, n7, n8, n9⟩ := box10 (Lib.hid (HB.out.at 0 rfl))
        have f0 := freeOf (HB.out.at 0 rfl) 4
        have hlx := lt_of_block (HB.out.at 0 rfl)
        go_wp2_with fail
        clear n0 n1 n2 n3 n4 n5 n6 n7 n8 n9 f0 HB hlx
        generalize (v18.setCell ⟨w1.heap.size, 4, none⟩ (.int .i64 st.authS.uintV)) = v26 at *
        have HB := HB2
        clear HB2
        refine (rRRest_any _ HB.out.rd).mono ?_
        rintro e v27 ⟨rfl, hf, hr⟩
        replace HB := Lib.hid (HB.out.step hf hr)
        clear hf hr
        have HB2 : Hid (QBo w0 (w0.heap.size + 1) [(w1.heap.size, .cells (replyCells ⟨xi, false, st.authV, st.authS.uintV, 0, 0, 0, 0, st.authS.uint.restV⟩) 27 (0, 0)), (w0.heap.size, .cells (replyCells zeroReply) 27 (0, 0))] (v27.setCell ⟨w1.heap.size, 9, none⟩ (.string st.authS.uint.restV)) st.authS.uint.restS) := Lib.hid (QBo.put (B1 := []) (HB.out) (by simp <;> omega) 9 (.string st.authS.uint.restV))
        obtain ⟨n0, n1, n2, n3, n4, n5, n6, n7, n8, n9⟩ := box10 (Lib.hid (HB.out.at 0 rfl))
        have f0 := freeOf (HB.out.at 0 rfl) 9
        have hlx := lt_of_block (HB.out.at 0 rfl)
        go_wp2_with fail
        clear n0 n1 n2 n3 n4 n5 n6 n7 n8 n9 f0 HB hlx
        generalize (v27.setCell ⟨w1.heap.size, 9, none⟩ (.string st.authS.uint.restV)) = v28 at *
        have HB := HB2
        clear HB2
        go_meet
        case rel => exact Lib.hid ⟨_, by rw [HCV.out]; exact HB.out⟩
  case rest =>
  clear HB HCV HDe HAc
  obtain ⟨st', hB⟩ := hcut.out
  have HB := Lib.hid hB
  clear hB hcut
  obtain ⟨n0, n1, n2, n3, n4, n5, n6, n7, n8, n9⟩ := box10 (Lib.hid (HB.out.at 0 rfl))
  have hlx := lt_of_block (HB.out.at 0 rfl)
  go_wp2_with fail
  clear n0 n1 n2 n3 n4 n5 n6 n7 n8 n9 hlx
  refine (HPr.out _).mono ?_
  rintro e wz ⟨rfl, hfz⟩
  replace HB := Lib.hid (HB.out.stay hfz)
  clear hfz HPr
  by_cases hq2 : pp.2 = 0
  · have hq3 : (pp.2 != 0) = false := by rw [hq2]; rfl
    by_cases hq1 : (pp.1.toList == s.toList) = true
    · have hP := HP.out
      rw [if_pos (Prod.ext (toList_inj.1 hq1) hq2)] at hP
      have HP := Lib.hid hP
      clear hP hq2
      go_upto_region 24 with fail
      refine wp_copy_row3 (w1.heap.size) (w0.heap.size) 27 27 (replyCells cv) (replyCells zeroReply) _ rfl (HB.out.at 0 rfl) rfl rfl (HB.out.at 1 rfl) Tryz.underlying27 (by kernel_rfl) rfl (replyCells_one _) ?_
      intro w9 hb9 hf9
      have HB9 := Lib.hid hb9
      have HF9 := Lib.hid (HB.out.fr.then hf9 (fun i hi e => by omega))
      clear hb9 hf9 HB
      go_wp2
      refine bodyPost_ret (results_row_tmp rfl _ _ _ _ _ _ _ rfl rfl HB9.out Tryz.underlying27 (by kernel_rfl)) rfl ⟨by rw [HP.out]; rfl, HF9.out⟩
    · rw [Bool.not_eq_true] at hq1
      have hP := HP.out
      rw [if_neg (fun h => by rw [h] at hq1; simp at hq1)] at hP
      have HP := Lib.hid hP
      clear hP hq2
      go_upto_region 23 with fail
      refine wp_zero_row3 (w0.heap.size) 27 (replyCells zeroReply) (replyCells zeroReply) (by kernel_rfl) rfl rfl (HB.out.at 1 rfl) (by kernel_rfl) rfl (replyCells_one _) ?_
      intro w9 hb9 hf9
      have HB9 := Lib.hid hb9
      have HF9 := Lib.hid (HB.out.fr.then hf9 (fun i hi e => by omega))
      clear hb9 hf9 HB
      go_wp2
      refine bodyPost_ret (results_row_tmp rfl _ _ _ _ _ _ _ rfl rfl HB9.out Tryz.underlying27 (by kernel_rfl)) rfl ⟨by rw [HP.out]; rfl, HF9.out⟩
  · have hq3 : (pp.2 != 0) = true := by simpa using hq2
    have hP := HP.out
    rw [if_neg (fun h => by rw [h] at hq2; exact hq2 rfl)] at hP
    have HP := Lib.hid hP
    clear hP hq2
    go_upto_region 23 with fail
    refine wp_zero_row3 (w0.heap.size) 27 (replyCells zeroReply) (replyCells zeroReply) (by kernel_rfl) rfl rfl (HB.out.at 1 rfl) (by kernel_rfl) rfl (replyCells_one _) ?_
    intro w9 hb9 hf9
    have HB9 := Lib.hid hb9
    have HF9 := Lib.hid (HB.out.fr.then hf9 (fun i hi e => by omega))
    clear hb9 hf9 HB
    go_wp2
    refine bodyPost_ret (results_row_tmp rfl _ _ _ _ _ _ _ rfl rfl HB9.out Tryz.underlying27 (by kernel_rfl)) rfl ⟨by rw [HP.out]; rfl, HF9.out⟩
end Go.Proofs.YtcndifccbkekhaaGreatDoor
