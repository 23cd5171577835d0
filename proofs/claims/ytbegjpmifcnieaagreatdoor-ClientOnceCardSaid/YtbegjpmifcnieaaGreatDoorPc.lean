/- Package message: ParseCall. -/
import Derived.Test.YtbegjpmifcnieaaGreatDoorRl
import Derived.Test.YtbegjpmifcnieaaGreatDoorWb
namespace Go.Proofs.YtbegjpmifcnieaaGreatDoor
open Go.RowKit
set_option linter.unusedVariables false
set_option linter.unusedSimpArgs false

theorem callCells_one (c : CallM) : (callCells c).all (·.oneCell') = true := by simp [callCells, Value.oneCell']
theorem ne2 {B : List (Nat × Obj)} {C : Nat} (h : ∀ p ∈ B, p.1 ≠ C) : ∀ p ∈ B, p.1 ≠ C := h

set_option maxRecDepth 100000 in
set_option maxHeartbeats 8000000 in
theorem ParseCall_any (s : ByteArray) (w0 : World) (hg : ErrT w0) (hs : s.size ≤ 140737488351232) :
    Calls Tryz.prog 101 #[.string s] w0 fun r w' => r = .returned (.tuple #[.agg (callCells (parseCallM s).1), .int .i64 (parseCallM s).2]) ∧ Fr (fun _ => False) w0 w' := by
  have HG := Lib.hid hg
  clear hg
  have hr : Hid (∀ w, Calls Tryz.prog 158 #[.string s] w fun r w' => r = .returned (.pointer (some ⟨w.heap.size, 0, none⟩)) ∧ Fr (fun _ => False) w w' ∧ Rd w' w.heap.size ⟨s, 0⟩) := Lib.hid (fun w => RNew_any s w hs)
  have hw3 : Fr (fun _ => False) w0 (((w0.alloc (.cells (callCells zeroCall) 85)).alloc (.cells (callCells zeroCall) 85)).alloc (.cells #[.int .i64 0] 3)) := (((Fr.refl _ _).alloc _).alloc _).alloc _
  have hR := Lib.hid (heap_old (o := .cells #[.int .i64 0] 3) (heap_old (o := .cells (callCells zeroCall) 85) (heap_alloc_new w0 (.cells (callCells zeroCall) 85))))
  have hC := Lib.hid (heap_old (o := .cells #[.int .i64 0] 3) (heap_two (w := w0) (a := .cells (callCells zeroCall) 85) (b := .cells (callCells zeroCall) 85)))
  have hK := Lib.hid (heap_three (w := w0) (a := .cells (callCells zeroCall) 85) (b := .cells (callCells zeroCall) 85) (c := .cells #[.int .i64 0] 3))
  have hsz : (((w0.alloc (.cells (callCells zeroCall) 85)).alloc (.cells (callCells zeroCall) 85)).alloc (.cells #[.int .i64 0] 3)).heap.size = w0.heap.size + 1 + 1 + 1 := by simp
  go_enter Tryz.func101, Tryz.ntmps101
  go_wp2_with fail
  refine (hr.out _).mono ?_
  rintro e w1 ⟨rfl, hf1, hr1⟩
  simp only [World.size_alloc] at hr1
  have HB : Hid (PBo w0 (w0.heap.size + 1 + 1 + 1) [(w0.heap.size + 1 + 1, .cells #[.int .i64 0] 3 (0, 0)), (w0.heap.size + 1, .cells (callCells zeroCall) 85 (0, 0)), (w0.heap.size, .cells (callCells zeroCall) 85 (0, 0))] w1 ⟨s, 0⟩) := Lib.hid ⟨hr1, hw3.trans hf1, fun p hp => by
      simp only [List.mem_cons, List.not_mem_nil, or_false] at hp
      rcases hp with rfl | rfl | rfl
      · exact ⟨(hf1.block _ (by simp) id).trans hK.out, by show w0.heap.size + 1 + 1 ≠ _; omega, by show _ ≤ w0.heap.size + 1 + 1; omega⟩
      · exact ⟨(hf1.block _ (by simp <;> omega) id).trans hC.out, by show w0.heap.size + 1 ≠ _; omega, by show _ ≤ w0.heap.size + 1; omega⟩
      · exact ⟨(hf1.block _ (by simp <;> omega) id).trans hR.out, by show w0.heap.size ≠ _; omega, Nat.le_refl _⟩, by omega⟩
  clear hf1 hr1 hw3 hR hC hK hsz hr
  have HB1 := Lib.hid (HB.out.more (Obj.cells #[.pointer (some ⟨w0.heap.size + 1, 0, none⟩), .pointer (some ⟨w0.heap.size + 1 + 1, 0, none⟩), .pointer (some ⟨w0.heap.size + 1, 1, none⟩)] 258 (0, 0)) rfl)
  go_wp2_with fail
  refine (words_any w1.heap.size 3 [⟨w0.heap.size + 1, 0, none⟩, ⟨w0.heap.size + 1 + 1, 0, none⟩, ⟨w0.heap.size + 1, 1, none⟩] _ (by simp) (ptrs3 (HB1.out.at 0 rfl))).mono ?_
  rintro e w4 ⟨v, rfl, hb4, ho4⟩
  obtain ⟨g, cp, rfl, hg1, hg2⟩ := owns_some ho4 (by simp)
  have hB4 := HB1.out.stay (Fr.ofBelow hb4)
  have hz : w0.heap.size + 1 + 1 + 1 < w1.heap.size := HB.out.rd.lt
  have hg3 : w1.heap.size + 1 ≤ g := by simpa using hg1
  clear HB1 HB hb4
  go_wp2_with fail
  refine (read_any [⟨w0.heap.size + 1, 0, none⟩, ⟨w0.heap.size + 1 + 1, 0, none⟩, ⟨w0.heap.size + 1, 1, none⟩] w4 hB4.rd (by simp) ho4 (by omega) (fun p hp => by
      simp only [List.mem_cons, List.not_mem_nil, or_false] at hp
      rcases hp with rfl | rfl | rfl
      · exact ⟨hB4.spot 2 rfl rfl, by show w0.heap.size + 1 ≠ _; omega, by show w0.heap.size + 1 ≠ _; omega⟩
      · exact ⟨hB4.spot 1 rfl rfl, by show w0.heap.size + 1 + 1 ≠ _; omega, by show w0.heap.size + 1 + 1 ≠ _; omega⟩
      · exact ⟨hB4.spot 2 rfl rfl, by show w0.heap.size + 1 ≠ _; omega, by show w0.heap.size + 1 ≠ _; omega⟩)).mono ?_
  rintro e w5 ⟨rfl, hr5, hf5⟩
  have HB : Hid (PBo w0 (w0.heap.size + 1 + 1 + 1) [(w0.heap.size + 1 + 1, .cells #[.int .i64 (RSt.mk s 0).kind] 3 (0, 0)), (w0.heap.size + 1, .cells (callCells (RSt.mk s 0).call3) 85 (0, 0)), (w0.heap.size, .cells (callCells zeroCall) 85 (0, 0))] w5 (RSt.mk s 0).three) := by
    have p1 := PBo.put (B1 := [(w0.heap.size + 1 + 1, .cells #[.int .i64 0] 3 (0, 0))]) hB4.less (by simp <;> omega) 0 (.int .i64 (RSt.mk s 0).uintV)
    have p2 := PBo.put (B1 := []) p1 (by simp <;> omega) 0 (.int .i64 (RSt.mk s 0).kind)
    have p3 := PBo.put (B1 := [(w0.heap.size + 1 + 1, .cells #[.int .i64 (RSt.mk s 0).kind] 3 (0, 0))]) p2 (by simp <;> omega) 1 (.int .i64 (RSt.mk s 0).third)
    exact Lib.hid (p3.step hf5 hr5)
  clear hB4 hr5 hf5 ho4 hg1 hg2 hg3
  obtain ⟨bq, hbq⟩ : ∃ bq : Bool, bq = (decide ((12 : Int) ≤ (s.size : Int)) && ((RSt.mk s 0).kind == 0) && !((RSt.mk s 0).third == 2)) := ⟨_, rfl⟩
  have hk0 : w5.cell? ⟨w0.heap.size + 1 + 1, 0, none⟩ = some (.int .i64 (RSt.mk s 0).kind) := cellOf (HB.out.at 0 rfl) 0
  have hc1 : w5.cell? ⟨w0.heap.size + 1, 1, none⟩ = some (.int .i64 (RSt.mk s 0).third) := cellOf (HB.out.at 1 rfl) 1
  have HBQ := Lib.hid hbq
  clear hbq
  go_upto_region 5 with fail
  go_cut [26] from 7 (fun b wx => b = .bool bq ∧ w5 = wx)
  case first => as_aux_lemma =>
    clear HB
    by_cases h12 : (12 : Int) ≤ (s.size : Int)
    · by_cases hk : ((RSt.mk s 0).kind == 0) = true
      · by_cases ht : ((RSt.mk s 0).third == 2) = true
        · go_wp2
          go_meet
          case rel => exact ⟨by rw [HBQ.out, hk, decide_eq_true h12]; rfl, rfl⟩
        · rw [Bool.not_eq_true] at ht
          go_wp2
          go_meet
          case rel => exact ⟨by rw [HBQ.out, hk, decide_eq_true h12]; rfl, rfl⟩
      · rw [Bool.not_eq_true] at hk
        go_wp2
        go_meet
        case rel => exact ⟨by rw [HBQ.out, hk, decide_eq_true h12]; rfl, rfl⟩
    · have h12' := Int.not_le.1 h12
      go_wp2
      go_meet
      case rel => exact ⟨by rw [HBQ.out]; simp; intro h; omega, rfl⟩
  case rest =>
  obtain ⟨rfl, rfl⟩ := hcut
  clear hk0 hc1
  cases bq with
  | true =>
    have hP : parseCallM s = ((RSt.mk s 0).call3, 0) := by
      have := HBQ.out.symm
      simp only [Bool.and_eq_true, decide_eq_true_eq, beq_iff_eq, Bool.not_eq_true', beq_eq_false_iff_ne] at this
      unfold parseCallM
      rw [if_pos ⟨by omega, this.1.2, this.2⟩]
    have HP := Lib.hid hP
    clear hP HBQ
    go_upto_region 6 with fail
    refine wp_copy_row3 (w0.heap.size + 1) w0.heap.size 85 85 (callCells (RSt.mk s 0).call3) (callCells zeroCall) _ rfl (HB.out.at 1 rfl) rfl rfl (HB.out.at 2 rfl) Tryz.underlying85 (by kernel_rfl) rfl (callCells_one _) ?_
    intro w9 hb9 hf9
    have HB9 := Lib.hid hb9
    have HF9 := Lib.hid (HB.out.fr.then hf9 (fun i hi e => by omega))
    clear hb9 hf9 HB
    go_wp2
    refine bodyPost_ret (results_row_tmp rfl _ _ _ _ _ _ _ rfl rfl HB9.out Tryz.underlying85 (by kernel_rfl)) rfl ⟨by rw [HP.out]; rfl, HF9.out⟩
  | false =>
    have hP : parseCallM s = if callGood s = true then ((RSt.mk s 0).callV, 0) else (zeroCall, 121) := by
      unfold parseCallM
      rw [if_neg]
      rintro ⟨h1, h2, h3⟩
      have := HBQ.out
      rw [decide_eq_true (show (12 : Int) ≤ (s.size : Int) by omega), h2] at this
      simp [h3] at this
    have HP := Lib.hid hP
    clear hP HBQ
    clear hz
    generalize hst : (RSt.mk s 0).three = st at HB
    have HST := Lib.hid hst
    clear hst
    have HB1 := Lib.hid (HB.out.more (Obj.cells #[.pointer (some ⟨w0.heap.size + 1, 2, none⟩), .pointer (some ⟨w0.heap.size + 1, 3, none⟩), .pointer (some ⟨w0.heap.size + 1, 4, none⟩)] 258 (0, 0)) rfl)
    go_wp2_with fail
    refine (words_any w5.heap.size 3 [⟨w0.heap.size + 1, 2, none⟩, ⟨w0.heap.size + 1, 3, none⟩, ⟨w0.heap.size + 1, 4, none⟩] _ (by simp) (ptrs3 (HB1.out.at 0 rfl))).mono ?_
    rintro e w6 ⟨v, rfl, hb6, ho6⟩
    obtain ⟨g6, cp6, rfl, hg1, hg2⟩ := owns_some ho6 (by simp)
    have hB4 := HB1.out.stay (Fr.ofBelow hb6)
    have hz : w0.heap.size + 1 + 1 + 1 < w5.heap.size := HB.out.rd.lt
    have hg3 : w5.heap.size + 1 ≤ g6 := by simpa using hg1
    clear HB1 HB hb6
    go_wp2_with fail
    refine (read_any [⟨w0.heap.size + 1, 2, none⟩, ⟨w0.heap.size + 1, 3, none⟩, ⟨w0.heap.size + 1, 4, none⟩] w6 hB4.rd (by simp) ho6 (by omega) (fun p hp => by
        simp only [List.mem_cons, List.not_mem_nil, or_false] at hp
        rcases hp with rfl | rfl | rfl
        · exact ⟨hB4.spot 2 rfl rfl, by show w0.heap.size + 1 ≠ _; omega, by show w0.heap.size + 1 ≠ _; omega⟩
        · exact ⟨hB4.spot 2 rfl rfl, by show w0.heap.size + 1 ≠ _; omega, by show w0.heap.size + 1 ≠ _; omega⟩
        · exact ⟨hB4.spot 2 rfl rfl, by show w0.heap.size + 1 ≠ _; omega, by show w0.heap.size + 1 ≠ _; omega⟩)).mono ?_
    rintro e w7 ⟨rfl, hr5, hf5⟩
    have HB : Hid (PBo w0 (w0.heap.size + 1 + 1 + 1) [(w0.heap.size + 1 + 1, .cells #[.int .i64 (RSt.mk s 0).kind] 3 (0, 0)), (w0.heap.size + 1, .cells (callCells { (RSt.mk s 0).call3 with prog := st.uintV, vers := st.kind, proc := st.third }) 85 (0, 0)), (w0.heap.size, .cells (callCells zeroCall) 85 (0, 0))] w7 st.three) := by
      have p1 := PBo.put (B1 := [(w0.heap.size + 1 + 1, .cells #[.int .i64 (RSt.mk s 0).kind] 3 (0, 0))]) hB4.less (by simp <;> omega) 2 (.int .i64 st.uintV)
      have p2 := PBo.put (B1 := [(w0.heap.size + 1 + 1, .cells #[.int .i64 (RSt.mk s 0).kind] 3 (0, 0))]) p1 (by simp <;> omega) 3 (.int .i64 st.kind)
      have p3 := PBo.put (B1 := [(w0.heap.size + 1 + 1, .cells #[.int .i64 (RSt.mk s 0).kind] 3 (0, 0))]) p2 (by simp <;> omega) 4 (.int .i64 st.third)
      exact Lib.hid (p3.step hf5 hr5)
    clear hB4 hr5 hf5 ho6 hg1 hg2 hg3
    go_wp2_with fail
    refine (readAuth_any _ HB.out.rd).mono ?_
    rintro e w8 ⟨rfl, hf8, hr8⟩
    replace HB := Lib.hid (HB.out.step hf8 hr8)
    clear hf8 hr8
    have HB2 : Hid (PBo w0 (w0.heap.size + 1 + 1 + 1) [(w0.heap.size + 1 + 1, .cells #[.int .i64 (RSt.mk s 0).kind] 3 (0, 0)), (w0.heap.size + 1, .cells (callCells { (RSt.mk s 0).call3 with prog := st.uintV, vers := st.kind, proc := st.third, cred := st.three.authV }) 85 (0, 0)), (w0.heap.size, .cells (callCells zeroCall) 85 (0, 0))] ((w8.setCell ⟨w0.heap.size + 1, 5, none⟩ (.int .i64 st.three.authV.flavor)).setCell ⟨w0.heap.size + 1, 6, none⟩ (.string st.three.authV.body)) st.three.authS) :=
      Lib.hid (PBo.put (B1 := [(w0.heap.size + 1 + 1, .cells #[.int .i64 (RSt.mk s 0).kind] 3 (0, 0))]) (PBo.put (B1 := [(w0.heap.size + 1 + 1, .cells #[.int .i64 (RSt.mk s 0).kind] 3 (0, 0))]) HB.out (by simp <;> omega) 5 (.int .i64 st.three.authV.flavor)) (by simp <;> omega) 6 (.string st.three.authV.body))
    obtain ⟨n0, n1, n2, n3, n4, n5, n6, n7, n8, n9⟩ := box10 (Lib.hid (HB.out.at 1 rfl))
    have f5 := freeOf (HB.out.at 1 rfl) 5
    have f6 := freeOf (HB.out.at 1 rfl) 6
    go_wp2_with fail
    clear n0 n1 n2 n3 n4 n5 n6 n7 n8 n9 f5 f6 HB
    generalize (w8.setCell ⟨w0.heap.size + 1, 5, none⟩ (.int .i64 st.three.authV.flavor)).setCell ⟨w0.heap.size + 1, 6, none⟩ (.string st.three.authV.body) = w9 at *
    refine (readAuth_any _ HB2.out.rd).mono ?_
    rintro e wa ⟨rfl, hf8, hr8⟩
    have HB := Lib.hid (HB2.out.step hf8 hr8)
    clear hf8 hr8 HB2
    have HB2 : Hid (PBo w0 (w0.heap.size + 1 + 1 + 1) [(w0.heap.size + 1 + 1, .cells #[.int .i64 (RSt.mk s 0).kind] 3 (0, 0)), (w0.heap.size + 1, .cells (callCells { (RSt.mk s 0).call3 with prog := st.uintV, vers := st.kind, proc := st.third, cred := st.three.authV, verf := st.three.authS.authV }) 85 (0, 0)), (w0.heap.size, .cells (callCells zeroCall) 85 (0, 0))] ((wa.setCell ⟨w0.heap.size + 1, 7, none⟩ (.int .i64 st.three.authS.authV.flavor)).setCell ⟨w0.heap.size + 1, 8, none⟩ (.string st.three.authS.authV.body)) st.three.authS.authS) :=
      Lib.hid (PBo.put (B1 := [(w0.heap.size + 1 + 1, .cells #[.int .i64 (RSt.mk s 0).kind] 3 (0, 0))]) (PBo.put (B1 := [(w0.heap.size + 1 + 1, .cells #[.int .i64 (RSt.mk s 0).kind] 3 (0, 0))]) HB.out (by simp <;> omega) 7 (.int .i64 st.three.authS.authV.flavor)) (by simp <;> omega) 8 (.string st.three.authS.authV.body))
    obtain ⟨n0, n1, n2, n3, n4, n5, n6, n7, n8, n9⟩ := box10 (Lib.hid (HB.out.at 1 rfl))
    have f5 := freeOf (HB.out.at 1 rfl) 7
    have f6 := freeOf (HB.out.at 1 rfl) 8
    go_wp2_with fail
    clear n0 n1 n2 n3 n4 n5 n6 n7 n8 n9 f5 f6 HB
    generalize (wa.setCell ⟨w0.heap.size + 1, 7, none⟩ (.int .i64 st.three.authS.authV.flavor)).setCell ⟨w0.heap.size + 1, 8, none⟩ (.string st.three.authS.authV.body) = wb at *
    refine (RRest_any _ HB2.out.rd).mono ?_
    rintro e wc ⟨rfl, hf8, _, hr8⟩
    have HB := Lib.hid (HB2.out.step hf8 hr8)
    clear hf8 hr8 HB2
    have HB2 : Hid (PBo w0 (w0.heap.size + 1 + 1 + 1) [(w0.heap.size + 1 + 1, .cells #[.int .i64 (RSt.mk s 0).kind] 3 (0, 0)), (w0.heap.size + 1, .cells (callCells (RSt.mk s 0).callV) 85 (0, 0)), (w0.heap.size, .cells (callCells zeroCall) 85 (0, 0))] (wc.setCell ⟨w0.heap.size + 1, 9, none⟩ (.string st.three.authS.authS.restV)) st.three.authS.authS.restS) :=
      Lib.hid (by
        have := PBo.put (B1 := [(w0.heap.size + 1 + 1, .cells #[.int .i64 (RSt.mk s 0).kind] 3 (0, 0))]) HB.out (by simp <;> omega) 9 (.string st.three.authS.authS.restV)
        unfold RSt.callV
        rw [HST.out]
        exact this)
    obtain ⟨n0, n1, n2, n3, n4, n5, n6, n7, n8, n9⟩ := box10 (Lib.hid (HB.out.at 1 rfl))
    have f5 := freeOf (HB.out.at 1 rfl) 9
    go_upto_region 11 with fail
    clear n0 n1 n2 n3 n4 n5 n6 n7 n8 n9 f5 HB
    generalize wc.setCell ⟨w0.heap.size + 1, 9, none⟩ (.string st.three.authS.authS.restV) = wd at *
    have hcs : (RSt.mk s 0).callS = st.three.authS.authS.restS := by unfold RSt.callS; rw [HST.out]
    generalize st.three.authS.authS.restS = sf at HB2 hcs
    have HCS := Lib.hid hcs
    clear hcs HST
    have hgd : callGood s = (decide (sf.doneV = 0) && decide ((RSt.mk s 0).kind = 0) && fitsB (RSt.mk s 0).callV.args) := by unfold callGood; rw [HCS.out]
    have HGD := Lib.hid hgd
    clear hgd HCS
    generalize callGood s = gd at HP HGD
    have hfa : Hid ((RSt.mk s 0).callV.args.size ≤ 140737488351232) := Lib.hid (by
      show (RSt.mk s 0).three.three.authS.authS.restV.size ≤ _
      exact restV_size s _ hs)
    generalize (RSt.mk s 0).callV = cv at HB2 HP HGD hfa
    generalize (RSt.mk s 0).kind = kd at HB2 HGD
    have hg9 := HG.out.fr HB2.out.fr id
    have HG9 := Lib.hid hg9
    clear hg9
    go_cut [56] from 7 (fun b wx => b = .bool (!gd) ∧ Hid (PBo w0 (w0.heap.size + 1 + 1 + 1) [(w0.heap.size + 1 + 1, .cells #[.int .i64 kd] 3 (0, 0)), (w0.heap.size + 1, .cells (callCells cv) 85 (0, 0)), (w0.heap.size, .cells (callCells zeroCall) 85 (0, 0))] wx sf))
    case first => as_aux_lemma =>
      clear HP
      have hdn : sf.doneV = 0 ∨ sf.doneV ≠ 0 := Decidable.em _
      rcases hdn with hdn | hdn
      · have hd2 : (sf.doneV != 0) = false := by rw [hdn]; rfl
        have HDN := Lib.hid hdn
        clear hdn
        go_wp2_with fail
        refine (RDone_any _ HB2.out.rd HG9.out).mono ?_
        rintro e we ⟨rfl, hfe⟩
        replace HB2 := Lib.hid (HB2.out.stay hfe)
        have hk0 : we.cell? ⟨w0.heap.size + 1 + 1, 0, none⟩ = some (.int .i64 kd) := cellOf (HB2.out.at 0 rfl) 0
        obtain ⟨n0, n1, n2, n3, n4, n5, n6, n7, n8, n9⟩ := box10 (Lib.hid (HB2.out.at 1 rfl))
        by_cases hk : kd = 0
        · have hk2 : (kd != 0) = false := by rw [hk]; rfl
          have HK := Lib.hid hk
          clear hk
          go_wp2_with fail
          refine (fits_any _ _ hfa.out).mono ?_
          rintro e wf ⟨rfl, rfl⟩
          go_wp2_with fail
          go_meet
          case rel => exact ⟨by rw [HGD.out, HDN.out, HK.out]; simp, HB2⟩
        · have hk2 : (kd != 0) = true := by simpa using hk
          have HK := Lib.hid hk
          clear hk
          go_wp2_with fail
          go_meet
          case rel => exact ⟨by rw [HGD.out, decide_eq_false HK.out]; simp, HB2⟩
      · have hd2 : (sf.doneV != 0) = true := by simpa using hdn
        have HDN := Lib.hid hdn
        clear hdn
        go_wp2_with fail
        refine (RDone_any _ HB2.out.rd HG9.out).mono ?_
        rintro e we ⟨rfl, hfe⟩
        replace HB2 := Lib.hid (HB2.out.stay hfe)
        go_wp2_with fail
        go_meet
        case rel => exact ⟨by rw [HGD.out, decide_eq_false HDN.out]; simp, HB2⟩
    case rest =>
    obtain ⟨rfl, HBz⟩ := hcut
    clear HB2 HGD HG9 hfa
    cases gd with
    | true =>
      have hP := HP.out
      rw [if_pos rfl] at hP
      have HP := Lib.hid hP
      clear hP
      go_upto_region 13 with fail
      refine wp_copy_row3 (w0.heap.size + 1) w0.heap.size 85 85 (callCells cv) (callCells zeroCall) _ rfl (HBz.out.at 1 rfl) rfl rfl (HBz.out.at 2 rfl) Tryz.underlying85 (by kernel_rfl) rfl (callCells_one _) ?_
      intro w9 hb9 hf9
      have HB9 := Lib.hid hb9
      have HF9 := Lib.hid (HBz.out.fr.then hf9 (fun i hi e => by omega))
      clear hb9 hf9 HBz
      go_wp2
      refine bodyPost_ret (results_row_tmp rfl _ _ _ _ _ _ _ rfl rfl HB9.out Tryz.underlying85 (by kernel_rfl)) rfl ⟨by rw [HP.out]; rfl, HF9.out⟩
    | false =>
      have hP := HP.out
      rw [if_neg (by decide)] at hP
      have HP := Lib.hid hP
      clear hP
      go_upto_region 12 with fail
      refine wp_zero_row3 w0.heap.size 85 (callCells zeroCall) (callCells zeroCall) (by kernel_rfl) rfl rfl (HBz.out.at 2 rfl) (by kernel_rfl) rfl (callCells_one _) ?_
      intro w9 hb9 hf9
      have HB9 := Lib.hid hb9
      have HF9 := Lib.hid (HBz.out.fr.then hf9 (fun i hi e => by omega))
      clear hb9 hf9 HBz
      go_wp2
      refine bodyPost_ret (results_row_tmp rfl _ _ _ _ _ _ _ rfl rfl HB9.out Tryz.underlying85 (by kernel_rfl)) rfl ⟨by rw [HP.out]; rfl, HF9.out⟩
end Go.Proofs.YtbegjpmifcnieaaGreatDoor
