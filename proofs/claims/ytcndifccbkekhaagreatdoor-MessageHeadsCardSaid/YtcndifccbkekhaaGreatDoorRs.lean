/- The document's messages (callboxref12): ParseCall. -/
import Derived.Test.YtcndifccbkekhaaGreatDoorRq
import Derived.Test.YtcndifccbkekhaaGreatDoorPc
import Derived.Test.YtcndifccbkekhaaGreatDoorNb
namespace Go.Proofs.YtcndifccbkekhaaGreatDoor
open Go.RowKit
set_option linter.unusedVariables false
set_option linter.unusedSimpArgs false
set_option maxRecDepth 100000 in
set_option maxHeartbeats 16000000 in
theorem rParseCall_any (s : ByteArray) (w0 : World) (hs : s.size ≤ 140737488351232) :
    Calls Tryz.prog 79 #[.string s] w0 fun r w' => r = .returned (.tuple #[.agg (callCells (rParseCallM s).1), .int .i64 (rParseCallM s).2]) ∧ Fr (fun _ => False) w0 w' := by
  have hP : rParseCallM s = if (RSt.mk s 0).three.e ≠ 0 ∨ (RSt.mk s 0).kind ≠ 0 then (zeroCall, 121) else if (RSt.mk s 0).third ≠ 2 then ((RSt.mk s 0).call3, 0) else if rPrintCallM (RSt.mk s 0).callV = (s, 0) then ((RSt.mk s 0).callV, 0) else (zeroCall, 121) := rfl
  have HP := Lib.hid hP
  have hsm := callV_small s
  have HPr := Lib.hid (fun w => rPrintCall_any (RSt.mk s 0).callV w (Nat.le_trans hsm.1 hs) (Nat.le_trans hsm.2.1 hs) (Nat.le_trans hsm.2.2 hs))
  clear hP hsm
  have hr : Hid (∀ w, Calls Tryz.prog 72 #[.string s] w fun r w' => r = .returned (.pointer (some ⟨w.heap.size, 0, none⟩)) ∧ Fr (fun _ => False) w w' ∧ RRd w' w.heap.size ⟨s, 0⟩) := Lib.hid (fun w => rRNew_any s w hs)
  have hw3 : Fr (fun _ => False) w0 (w0.alloc (Obj.cells (callCells zeroCall) 25 (0, 0))) := (Fr.refl _ _).alloc _
  have hR := Lib.hid (heap_alloc_new w0 (Obj.cells (callCells zeroCall) 25 (0, 0)))
  go_enter Tryz.func79, Tryz.ntmps79
  go_wp2_with fail
  refine (hr.out _).mono ?_
  rintro e w1 ⟨rfl, hf1, hr1⟩
  simp only [World.size_alloc] at hr1
  have HB0 : QBo w0 (w0.heap.size + 1) [(w0.heap.size, .cells (callCells zeroCall) 25 (0, 0))] w1 ⟨s, 0⟩ := ⟨hr1, hw3.trans hf1, fun p hp => by
      rw [List.mem_singleton.1 hp]
      exact ⟨(hf1.block _ (by simp) id).trans hR.out, by show w0.heap.size ≠ _; omega, Nat.le_refl _⟩, by omega⟩
  have hlw : w0.heap.size + 1 < w1.heap.size := hr1.lt
  have HB : Hid (QBo w0 (w0.heap.size + 1) [(w1.heap.size, .cells (callCells zeroCall) 25 (0, 0)), (w0.heap.size, .cells (callCells zeroCall) 25 (0, 0))] (w1.alloc (Obj.cells (callCells zeroCall) 25 (0, 0))) ⟨s, 0⟩) := Lib.hid (HB0.more (Obj.cells (callCells zeroCall) 25 (0, 0)) rfl)
  clear hf1 hr1 hw3 hR hr HB0
  go_wp2_with fail
  refine (rRUint_any _ HB.out.rd).mono ?_
  rintro e v3 ⟨rfl, hf, hr⟩
  replace HB := Lib.hid (HB.out.step hf hr)
  clear hf hr
  have HB2 : Hid (QBo w0 (w0.heap.size + 1) [(w1.heap.size, .cells (callCells { zeroCall with xid := (RSt.mk s 0).uintV }) 25 (0, 0)), (w0.heap.size, .cells (callCells zeroCall) 25 (0, 0))] (v3.setCell ⟨w1.heap.size, 0, none⟩ (.int .i64 (RSt.mk s 0).uintV)) (RSt.mk s 0).uint) := Lib.hid (QBo.put (B1 := []) (HB.out) (by simp <;> omega) 0 (.int .i64 (RSt.mk s 0).uintV))
  obtain ⟨n0, n1, n2, n3, n4, n5, n6, n7, n8, n9⟩ := box10 (Lib.hid (HB.out.at 0 rfl))
  have f0 := freeOf (HB.out.at 0 rfl) 0
  have hlx := lt_of_block (HB.out.at 0 rfl)
  go_wp2_with fail
  clear n0 n1 n2 n3 n4 n5 n6 n7 n8 n9 f0 HB hlx
  generalize (v3.setCell ⟨w1.heap.size, 0, none⟩ (.int .i64 (RSt.mk s 0).uintV)) = v4 at *
  have HB := HB2
  clear HB2
  refine (rRUint_any _ HB.out.rd).mono ?_
  rintro e v5 ⟨rfl, hf, hr⟩
  replace HB := Lib.hid (HB.out.step hf hr)
  clear hf hr
  go_wp2_with fail
  refine (rRUint_any _ HB.out.rd).mono ?_
  rintro e v6 ⟨rfl, hf, hr⟩
  replace HB := Lib.hid (HB.out.step hf hr)
  clear hf hr
  have HB2 : Hid (QBo w0 (w0.heap.size + 1) [(w1.heap.size, .cells (callCells (RSt.mk s 0).call3) 25 (0, 0)), (w0.heap.size, .cells (callCells zeroCall) 25 (0, 0))] (v6.setCell ⟨w1.heap.size, 1, none⟩ (.int .i64 (RSt.mk s 0).uint.uint.uintV)) (RSt.mk s 0).three) := Lib.hid (QBo.put (B1 := []) (HB.out) (by simp <;> omega) 1 (.int .i64 (RSt.mk s 0).uint.uint.uintV))
  obtain ⟨n0, n1, n2, n3, n4, n5, n6, n7, n8, n9⟩ := box10 (Lib.hid (HB.out.at 0 rfl))
  have f0 := freeOf (HB.out.at 0 rfl) 1
  have hlx := lt_of_block (HB.out.at 0 rfl)
  go_wp2_with fail
  clear n0 n1 n2 n3 n4 n5 n6 n7 n8 n9 f0 HB hlx
  generalize (v6.setCell ⟨w1.heap.size, 1, none⟩ (.int .i64 (RSt.mk s 0).uint.uint.uintV)) = v7 at *
  have HB := HB2
  clear HB2
  refine (rWrong_any _ HB.out.rd).mono ?_
  rintro e wq ⟨rfl, rfl⟩
  by_cases h3 : (RSt.mk s 0).three.e = 0
  case neg =>
    have h3' : ((RSt.mk s 0).three.e != 0) = true := by simpa using h3
    have hP := HP.out
    rw [if_pos (.inl h3)] at hP
    have HP := Lib.hid hP
    clear hP h3
    go_upto_region 8 with fail
    refine wp_zero_row3 (w0.heap.size) 25 (callCells zeroCall) (callCells zeroCall) (by kernel_rfl) rfl rfl (HB.out.at 1 rfl) (by kernel_rfl) rfl (callCells_one _) ?_
    intro w9 hb9 hf9
    have HB9 := Lib.hid hb9
    have HF9 := Lib.hid (HB.out.fr.then hf9 (fun i hi e => by omega))
    clear hb9 hf9 HB
    go_wp2
    refine bodyPost_ret (results_row_tmp rfl _ _ _ _ _ _ _ rfl rfl HB9.out Tryz.underlying25 (by kernel_rfl)) rfl ⟨by rw [HP.out]; rfl, HF9.out⟩
  have h3' : ((RSt.mk s 0).three.e != 0) = false := by rw [h3]; rfl
  have H3 := Lib.hid h3
  clear h3
  by_cases hk : (RSt.mk s 0).kind = 0
  case neg =>
    have hk' : ((RSt.mk s 0).kind != 0) = true := by simpa using hk
    have hku : ((RSt.mk s 0).uint.uintV != 0) = true := hk'
    have hP := HP.out
    rw [if_pos (.inr hk)] at hP
    have HP := Lib.hid hP
    clear hP hk
    go_upto_region 8 with fail
    refine wp_zero_row3 (w0.heap.size) 25 (callCells zeroCall) (callCells zeroCall) (by kernel_rfl) rfl rfl (HB.out.at 1 rfl) (by kernel_rfl) rfl (callCells_one _) ?_
    intro w9 hb9 hf9
    have HB9 := Lib.hid hb9
    have HF9 := Lib.hid (HB.out.fr.then hf9 (fun i hi e => by omega))
    clear hb9 hf9 HB
    go_wp2
    refine bodyPost_ret (results_row_tmp rfl _ _ _ _ _ _ _ rfl rfl HB9.out Tryz.underlying25 (by kernel_rfl)) rfl ⟨by rw [HP.out]; rfl, HF9.out⟩
  have hk' : ((RSt.mk s 0).kind != 0) = false := by rw [hk]; rfl
  have hku : ((RSt.mk s 0).uint.uintV != 0) = false := hk'
  have hP := HP.out
  rw [if_neg (fun h => h.elim (fun h => h H3.out) (fun h => h hk))] at hP
  replace HP := Lib.hid hP
  clear hP hk
  have hc1 : v7.cell? ⟨w1.heap.size, 1, none⟩ = some (.int .i64 (RSt.mk s 0).third) := cellOf (HB.out.at 0 rfl) 1
  by_cases ht : (RSt.mk s 0).third = 2
  case neg =>
    have ht' : ((RSt.mk s 0).third != 2) = true := by simpa using ht
    have hP := HP.out
    rw [if_pos ht] at hP
    have HP := Lib.hid hP
    clear hP ht
    go_upto_region 10 with fail
    refine wp_copy_row3 (w1.heap.size) (w0.heap.size) 25 25 (callCells (RSt.mk s 0).call3) (callCells zeroCall) _ rfl (HB.out.at 0 rfl) rfl rfl (HB.out.at 1 rfl) Tryz.underlying25 (by kernel_rfl) rfl (callCells_one _) ?_
    intro w9 hb9 hf9
    have HB9 := Lib.hid hb9
    have HF9 := Lib.hid (HB.out.fr.then hf9 (fun i hi e => by omega))
    clear hb9 hf9 HB
    go_wp2
    refine bodyPost_ret (results_row_tmp rfl _ _ _ _ _ _ _ rfl rfl HB9.out Tryz.underlying25 (by kernel_rfl)) rfl ⟨by rw [HP.out]; rfl, HF9.out⟩
  have ht' : ((RSt.mk s 0).third != 2) = false := by rw [ht]; rfl
  have hP := HP.out
  rw [if_neg (fun h => h ht)] at hP
  replace HP := Lib.hid hP
  clear hP ht
  go_wp2_with fail
  clear hc1 h3' hk' hku ht'
  generalize hpp : rPrintCallM (RSt.mk s 0).callV = pp at *
  clear hpp
  have HCV : Hid ((RSt.mk s 0).callV = ⟨(RSt.mk s 0).uintV, (RSt.mk s 0).third, (RSt.mk s 0).three.uintV, (RSt.mk s 0).three.uint.uintV, (RSt.mk s 0).three.uint.uint.uintV, (RSt.mk s 0).three.three.authV, (RSt.mk s 0).three.three.authS.authV, (RSt.mk s 0).three.three.authS.authS.restV⟩) := Lib.hid rfl
  generalize (RSt.mk s 0).callV = cv at *
  have HB' : Hid (QBo w0 (w0.heap.size + 1) [(w1.heap.size, .cells (callCells ⟨(RSt.mk s 0).uintV, (RSt.mk s 0).third, 0, 0, 0, zeroAuth, zeroAuth, ByteArray.empty⟩) 25 (0, 0)), (w0.heap.size, .cells (callCells zeroCall) 25 (0, 0))] v7 (RSt.mk s 0).three) := HB
  have HB := HB'
  clear HB'
  generalize (RSt.mk s 0).three = st at HB HCV H3 ⊢
  generalize (RSt.mk s 0).third = td at *
  generalize (RSt.mk s 0).uintV = xi at *
  clear H3
  refine (rRUint_any _ HB.out.rd).mono ?_
  rintro e v8 ⟨rfl, hf, hr⟩
  replace HB := Lib.hid (HB.out.step hf hr)
  clear hf hr
  have HB2 : Hid (QBo w0 (w0.heap.size + 1) [(w1.heap.size, .cells (callCells ⟨xi, td, st.uintV, 0, 0, zeroAuth, zeroAuth, ByteArray.empty⟩) 25 (0, 0)), (w0.heap.size, .cells (callCells zeroCall) 25 (0, 0))] (v8.setCell ⟨w1.heap.size, 2, none⟩ (.int .i64 st.uintV)) st.uint) := Lib.hid (QBo.put (B1 := []) (HB.out) (by simp <;> omega) 2 (.int .i64 st.uintV))
  obtain ⟨n0, n1, n2, n3, n4, n5, n6, n7, n8, n9⟩ := box10 (Lib.hid (HB.out.at 0 rfl))
  have f0 := freeOf (HB.out.at 0 rfl) 2
  have hlx := lt_of_block (HB.out.at 0 rfl)
  go_wp2_with fail
  clear n0 n1 n2 n3 n4 n5 n6 n7 n8 n9 f0 HB hlx
  generalize (v8.setCell ⟨w1.heap.size, 2, none⟩ (.int .i64 st.uintV)) = v9 at *
  have HB := HB2
  clear HB2
  refine (rRUint_any _ HB.out.rd).mono ?_
  rintro e v10 ⟨rfl, hf, hr⟩
  replace HB := Lib.hid (HB.out.step hf hr)
  clear hf hr
  have HB2 : Hid (QBo w0 (w0.heap.size + 1) [(w1.heap.size, .cells (callCells ⟨xi, td, st.uintV, st.uint.uintV, 0, zeroAuth, zeroAuth, ByteArray.empty⟩) 25 (0, 0)), (w0.heap.size, .cells (callCells zeroCall) 25 (0, 0))] (v10.setCell ⟨w1.heap.size, 3, none⟩ (.int .i64 st.uint.uintV)) st.uint.uint) := Lib.hid (QBo.put (B1 := []) (HB.out) (by simp <;> omega) 3 (.int .i64 st.uint.uintV))
  obtain ⟨n0, n1, n2, n3, n4, n5, n6, n7, n8, n9⟩ := box10 (Lib.hid (HB.out.at 0 rfl))
  have f0 := freeOf (HB.out.at 0 rfl) 3
  have hlx := lt_of_block (HB.out.at 0 rfl)
  go_wp2_with fail
  clear n0 n1 n2 n3 n4 n5 n6 n7 n8 n9 f0 HB hlx
  generalize (v10.setCell ⟨w1.heap.size, 3, none⟩ (.int .i64 st.uint.uintV)) = v11 at *
  have HB := HB2
  clear HB2
  refine (rRUint_any _ HB.out.rd).mono ?_
  rintro e v12 ⟨rfl, hf, hr⟩
  replace HB := Lib.hid (HB.out.step hf hr)
  clear hf hr
  have HB2 : Hid (QBo w0 (w0.heap.size + 1) [(w1.heap.size, .cells (callCells ⟨xi, td, st.uintV, st.uint.uintV, st.uint.uint.uintV, zeroAuth, zeroAuth, ByteArray.empty⟩) 25 (0, 0)), (w0.heap.size, .cells (callCells zeroCall) 25 (0, 0))] (v12.setCell ⟨w1.heap.size, 4, none⟩ (.int .i64 st.uint.uint.uintV)) st.three) := Lib.hid (QBo.put (B1 := []) (HB.out) (by simp <;> omega) 4 (.int .i64 st.uint.uint.uintV))
  obtain ⟨n0, n1, n2, n3, n4, n5, n6, n7, n8, n9⟩ := box10 (Lib.hid (HB.out.at 0 rfl))
  have f0 := freeOf (HB.out.at 0 rfl) 4
  have hlx := lt_of_block (HB.out.at 0 rfl)
  go_wp2_with fail
  clear n0 n1 n2 n3 n4 n5 n6 n7 n8 n9 f0 HB hlx
  generalize (v12.setCell ⟨w1.heap.size, 4, none⟩ (.int .i64 st.uint.uint.uintV)) = v13 at *
  have HB := HB2
  clear HB2
  refine (rreadAuth_any _ HB.out.rd).mono ?_
  rintro e v14 ⟨rfl, hf, hr⟩
  replace HB := Lib.hid (HB.out.step hf hr)
  clear hf hr
  have HB2 : Hid (QBo w0 (w0.heap.size + 1) [(w1.heap.size, .cells (callCells ⟨xi, td, st.uintV, st.uint.uintV, st.uint.uint.uintV, st.three.authV, zeroAuth, ByteArray.empty⟩) 25 (0, 0)), (w0.heap.size, .cells (callCells zeroCall) 25 (0, 0))] ((v14.setCell ⟨w1.heap.size, 5, none⟩ (.int .i64 st.three.authV.flavor)).setCell ⟨w1.heap.size, 6, none⟩ (.string st.three.authV.body)) st.three.authS) := Lib.hid (QBo.put (B1 := []) (QBo.put (B1 := []) (HB.out) (by simp <;> omega) 5 (.int .i64 st.three.authV.flavor)) (by simp <;> omega) 6 (.string st.three.authV.body))
  obtain ⟨n0, n1, n2, n3, n4, n5, n6, n7, n8, n9⟩ := box10 (Lib.hid (HB.out.at 0 rfl))
  have f0 := freeOf (HB.out.at 0 rfl) 5
  have f1 := freeOf (HB.out.at 0 rfl) 6
  have hlx := lt_of_block (HB.out.at 0 rfl)
  go_wp2_with fail
  clear n0 n1 n2 n3 n4 n5 n6 n7 n8 n9 f0 f1 HB hlx
  generalize ((v14.setCell ⟨w1.heap.size, 5, none⟩ (.int .i64 st.three.authV.flavor)).setCell ⟨w1.heap.size, 6, none⟩ (.string st.three.authV.body)) = v15 at *
  have HB := HB2
  clear HB2
  refine (rreadAuth_any _ HB.out.rd).mono ?_
  rintro e v16 ⟨rfl, hf, hr⟩
  replace HB := Lib.hid (HB.out.step hf hr)
  clear hf hr
  have HB2 : Hid (QBo w0 (w0.heap.size + 1) [(w1.heap.size, .cells (callCells ⟨xi, td, st.uintV, st.uint.uintV, st.uint.uint.uintV, st.three.authV, st.three.authS.authV, ByteArray.empty⟩) 25 (0, 0)), (w0.heap.size, .cells (callCells zeroCall) 25 (0, 0))] ((v16.setCell ⟨w1.heap.size, 7, none⟩ (.int .i64 st.three.authS.authV.flavor)).setCell ⟨w1.heap.size, 8, none⟩ (.string st.three.authS.authV.body)) st.three.authS.authS) := Lib.hid (QBo.put (B1 := []) (QBo.put (B1 := []) (HB.out) (by simp <;> omega) 7 (.int .i64 st.three.authS.authV.flavor)) (by simp <;> omega) 8 (.string st.three.authS.authV.body))
  obtain ⟨n0, n1, n2, n3, n4, n5, n6, n7, n8, n9⟩ := box10 (Lib.hid (HB.out.at 0 rfl))
  have f0 := freeOf (HB.out.at 0 rfl) 7
  have f1 := freeOf (HB.out.at 0 rfl) 8
  have hlx := lt_of_block (HB.out.at 0 rfl)
  go_wp2_with fail
  clear n0 n1 n2 n3 n4 n5 n6 n7 n8 n9 f0 f1 HB hlx
  generalize ((v16.setCell ⟨w1.heap.size, 7, none⟩ (.int .i64 st.three.authS.authV.flavor)).setCell ⟨w1.heap.size, 8, none⟩ (.string st.three.authS.authV.body)) = v17 at *
  have HB := HB2
  clear HB2
  refine (rRRest_any _ HB.out.rd).mono ?_
  rintro e v18 ⟨rfl, hf, hr⟩
  replace HB := Lib.hid (HB.out.step hf hr)
  clear hf hr
  have HB2 : Hid (QBo w0 (w0.heap.size + 1) [(w1.heap.size, .cells (callCells ⟨xi, td, st.uintV, st.uint.uintV, st.uint.uint.uintV, st.three.authV, st.three.authS.authV, st.three.authS.authS.restV⟩) 25 (0, 0)), (w0.heap.size, .cells (callCells zeroCall) 25 (0, 0))] (v18.setCell ⟨w1.heap.size, 9, none⟩ (.string st.three.authS.authS.restV)) st.three.authS.authS.restS) := Lib.hid (QBo.put (B1 := []) (HB.out) (by simp <;> omega) 9 (.string st.three.authS.authS.restV))
  obtain ⟨n0, n1, n2, n3, n4, n5, n6, n7, n8, n9⟩ := box10 (Lib.hid (HB.out.at 0 rfl))
  have f0 := freeOf (HB.out.at 0 rfl) 9
  have hlx := lt_of_block (HB.out.at 0 rfl)
  go_upto_region 17 with fail
  clear n0 n1 n2 n3 n4 n5 n6 n7 n8 n9 f0 HB hlx
  generalize (v18.setCell ⟨w1.heap.size, 9, none⟩ (.string st.three.authS.authS.restV)) = v19 at *
  have HB := HB2
  clear HB2
  rw [← HCV.out] at HB
  clear HCV
  obtain ⟨n0, n1, n2, n3, n4, n5, n6, n7, n8, n9⟩ := box10 (Lib.hid (HB.out.at 0 rfl))
  have hlx := lt_of_block (HB.out.at 0 rfl)
  go_wp2_with fail
  clear n0 n1 n2 n3 n4 n5 n6 n7 n8 n9 hlx
  refine (HPr.out _).mono ?_
  rintro e wz ⟨rfl, hfz⟩
  replace HB := Lib.hid (HB.out.stay hfz)
  clear hfz HPr
  by_cases hq2 : pp.2 = 0
  · have hq3 : (pp.2 != 0) = false := by rw [hq2]; rfl
    by_cases hq1 : (pp.1.toList == s.toList) = true
    · have hP := HP.out
      rw [if_pos (Prod.ext (toList_inj.1 hq1) hq2)] at hP
      have HP := Lib.hid hP
      clear hP hq2
      go_upto_region 20 with fail
      refine wp_copy_row3 (w1.heap.size) (w0.heap.size) 25 25 (callCells cv) (callCells zeroCall) _ rfl (HB.out.at 0 rfl) rfl rfl (HB.out.at 1 rfl) Tryz.underlying25 (by kernel_rfl) rfl (callCells_one _) ?_
      intro w9 hb9 hf9
      have HB9 := Lib.hid hb9
      have HF9 := Lib.hid (HB.out.fr.then hf9 (fun i hi e => by omega))
      clear hb9 hf9 HB
      go_wp2
      refine bodyPost_ret (results_row_tmp rfl _ _ _ _ _ _ _ rfl rfl HB9.out Tryz.underlying25 (by kernel_rfl)) rfl ⟨by rw [HP.out]; rfl, HF9.out⟩
    · rw [Bool.not_eq_true] at hq1
      have hP := HP.out
      rw [if_neg (fun h => by rw [h] at hq1; simp at hq1)] at hP
      have HP := Lib.hid hP
      clear hP hq2
      go_upto_region 19 with fail
      refine wp_zero_row3 (w0.heap.size) 25 (callCells zeroCall) (callCells zeroCall) (by kernel_rfl) rfl rfl (HB.out.at 1 rfl) (by kernel_rfl) rfl (callCells_one _) ?_
      intro w9 hb9 hf9
      have HB9 := Lib.hid hb9
      have HF9 := Lib.hid (HB.out.fr.then hf9 (fun i hi e => by omega))
      clear hb9 hf9 HB
      go_wp2
      refine bodyPost_ret (results_row_tmp rfl _ _ _ _ _ _ _ rfl rfl HB9.out Tryz.underlying25 (by kernel_rfl)) rfl ⟨by rw [HP.out]; rfl, HF9.out⟩
  · have hq3 : (pp.2 != 0) = true := by simpa using hq2
    have hP := HP.out
    rw [if_neg (fun h => by rw [h] at hq2; exact hq2 rfl)] at hP
    have HP := Lib.hid hP
    clear hP hq2
    go_upto_region 19 with fail
    refine wp_zero_row3 (w0.heap.size) 25 (callCells zeroCall) (callCells zeroCall) (by kernel_rfl) rfl rfl (HB.out.at 1 rfl) (by kernel_rfl) rfl (callCells_one _) ?_
    intro w9 hb9 hf9
    have HB9 := Lib.hid hb9
    have HF9 := Lib.hid (HB.out.fr.then hf9 (fun i hi e => by omega))
    clear hb9 hf9 HB
    go_wp2
    refine bodyPost_ret (results_row_tmp rfl _ _ _ _ _ _ _ rfl rfl HB9.out Tryz.underlying25 (by kernel_rfl)) rfl ⟨by rw [HP.out]; rfl, HF9.out⟩
end Go.Proofs.YtcndifccbkekhaaGreatDoor
