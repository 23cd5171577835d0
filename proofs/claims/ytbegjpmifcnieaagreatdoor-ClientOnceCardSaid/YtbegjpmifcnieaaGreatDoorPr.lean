/- Package message: ParseReply. -/
import Derived.Test.YtbegjpmifcnieaaGreatDoorRl
import Derived.Test.YtbegjpmifcnieaaGreatDoorWb
import Derived.Test.YtbegjpmifcnieaaGreatDoorMd
namespace Go.Proofs.YtbegjpmifcnieaaGreatDoor
open Go.RowKit
set_option linter.unusedVariables false
set_option linter.unusedSimpArgs false

theorem puts_all {w0 : World} {b X T : Nat} {B1 B2 : List (Nat × Obj)} {st' : RSt} (hd : ∀ p ∈ B1 ++ B2, p.1 ≠ X) : ∀ (os : List Nat) (st : RSt) (x : ReplyM) (w : World), (∀ o ∈ os, o = 6 ∨ o = 7 ∨ o = 8) →
    PBo w0 b (B1 ++ (X, .cells (replyCells x) T (0, 0)) :: B2) w st' →
    PBo w0 b (B1 ++ (X, .cells (replyCells (putsO os st x).1) T (0, 0)) :: B2) (setAll w (os.map fun o => ⟨X, o, none⟩) (st.uintsV os.length)) st' ∧ (putsO os st x).2 = st.uintsS os.length := by
  intro os
  induction os with
  | nil => exact fun st x w _ h => ⟨h, rfl⟩
  | cons o os ih =>
    intro st x w ho h
    have h1 : PBo w0 b (B1 ++ (X, .cells (replyCells (putO x o st.uintV)) T (0, 0)) :: B2) (w.setCell ⟨X, o, none⟩ (.int .i64 st.uintV)) st' := by
      have := h.put hd o (.int .i64 st.uintV)
      rcases ho o (List.mem_cons_self ..) with rfl | rfl | rfl <;> exact this
    have h2 := ih st.uint (putO x o st.uintV) _ (fun q hq => ho q (List.mem_cons_of_mem _ hq)) h1
    rw [List.length_cons, uintsV_front, uintsS_front]
    exact h2
theorem shP_spots {w : World} {X T : Nat} {r : ReplyM} (h : ReplyAt w X T r) : ∀ p ∈ shP X r, Spot w p ∧ p.block = X := by
  intro p hp
  rw [shP_map, List.mem_map] at hp
  obtain ⟨o, ho, rfl⟩ := hp
  rcases shO_mem ho with rfl | rfl | rfl
  · exact ⟨⟨rfl, _, _, r.why, h, rfl⟩, rfl⟩
  · exact ⟨⟨rfl, _, _, r.low, h, rfl⟩, rfl⟩
  · exact ⟨⟨rfl, _, _, r.high, h, rfl⟩, rfl⟩

theorem PBo.rowA {w0 w w' : World} {b : Nat} {B : List (Nat × Obj)} {st : RSt} {q : Nat × Obj} (h : PBo w0 b (q :: B) w st) (hf : Fr (fun _ => False) w w') {A : Option Addr} {n c m e sz : Nat} {xs : List Value}
    (ho : w'.ownsRow w.heap.size e sz (.slice A n c) m xs) : ∃ k o, PBo w0 b ((k, o) :: q :: B) w' st ∧ (∀ g, A = some ⟨g, 0, none⟩ → g = k ∧ w.heap.size ≤ g) := by
  rcases ho.2 with ⟨hv, _⟩ | ⟨g, cap, cur, hv, hb, hg, _⟩
  · injection hv with e1 _ _
    subst e1
    have h2 := h.stay hf
    refine ⟨q.1, q.2, ⟨h2.rd, h2.fr, fun p hp => ?_, h2.new⟩, fun g hg => nomatch hg⟩
    rcases List.mem_cons.1 hp with rfl | hp
    · exact h2.box _ (List.mem_cons_self ..)
    · exact h2.box p hp
  · injection hv with e1 _ _
    subst e1
    obtain ⟨o, h3⟩ := h.row hf hb (lt_of_block hg)
    exact ⟨g, o, h3, fun g' e => by injection e with e; injection e with e; exact ⟨e.symm, by omega⟩⟩

set_option maxRecDepth 100000 in
set_option maxHeartbeats 16000000 in
theorem ParseReply_any (s : ByteArray) (w0 : World) (hg : ErrT w0) (hs : s.size ≤ 140737488351232) :
    Calls Tryz.prog 83 #[.string s] w0 fun r w' => r = .returned (.tuple #[.agg (replyCells (parseReplyM s).1), .int .i64 (parseReplyM s).2]) ∧ Fr (fun _ => False) w0 w' := by
  have HG := Lib.hid hg
  clear hg
  have hr : Hid (∀ w, Calls Tryz.prog 158 #[.string s] w fun r w' => r = .returned (.pointer (some ⟨w.heap.size, 0, none⟩)) ∧ Fr (fun _ => False) w w' ∧ Rd w' w.heap.size ⟨s, 0⟩) := Lib.hid (fun w => RNew_any s w hs)
  have hw3 : Fr (fun _ => False) w0 ((((w0.alloc (Obj.cells (replyCells zeroReply) 45 (0, 0))).alloc (Obj.cells (replyCells zeroReply) 45 (0, 0))).alloc (.cells #[.int .i64 0] 3)).alloc (.cells #[.int .i64 0] 3)) := ((((Fr.refl _ _).alloc _).alloc _).alloc _).alloc _
  have hR := Lib.hid (heap_old (o := .cells #[.int .i64 0] 3) (heap_old (o := .cells #[.int .i64 0] 3) (heap_old (o := (Obj.cells (replyCells zeroReply) 45 (0, 0))) (heap_alloc_new w0 (Obj.cells (replyCells zeroReply) 45 (0, 0))))))
  have hC := Lib.hid (heap_old (o := .cells #[.int .i64 0] 3) (heap_old (o := .cells #[.int .i64 0] 3) (heap_two (w := w0) (a := (Obj.cells (replyCells zeroReply) 45 (0, 0))) (b := (Obj.cells (replyCells zeroReply) 45 (0, 0))))))
  have hK := Lib.hid (heap_old (o := .cells #[.int .i64 0] 3) (heap_three (w := w0) (a := (Obj.cells (replyCells zeroReply) 45 (0, 0))) (b := (Obj.cells (replyCells zeroReply) 45 (0, 0))) (c := .cells #[.int .i64 0] 3)))
  have hD := Lib.hid (show ((((w0.alloc (Obj.cells (replyCells zeroReply) 45 (0, 0))).alloc (Obj.cells (replyCells zeroReply) 45 (0, 0))).alloc (.cells #[.int .i64 0] 3)).alloc (.cells #[.int .i64 0] 3)).heap[w0.heap.size + 1 + 1 + 1]? = some (.cells #[.int .i64 0] 3) by
    have := heap_alloc_new (((w0.alloc (Obj.cells (replyCells zeroReply) 45 (0, 0))).alloc (Obj.cells (replyCells zeroReply) 45 (0, 0))).alloc (.cells #[.int .i64 0] 3)) (.cells #[.int .i64 0] 3)
    simpa only [World.size_alloc] using this)
  go_enter Tryz.func83, Tryz.ntmps83
  go_wp2_with fail
  refine (hr.out _).mono ?_
  rintro e w1 ⟨rfl, hf1, hr1⟩
  simp only [World.size_alloc] at hr1
  have HB : Hid (PBo w0 (w0.heap.size + 1 + 1 + 1 + 1) [(w0.heap.size + 1 + 1 + 1, .cells #[.int .i64 0] 3 (0, 0)), (w0.heap.size + 1 + 1, .cells #[.int .i64 0] 3 (0, 0)), (w0.heap.size + 1, .cells (replyCells zeroReply) 45 (0, 0)), (w0.heap.size, .cells (replyCells zeroReply) 45 (0, 0))] w1 ⟨s, 0⟩) := Lib.hid ⟨hr1, hw3.trans hf1, fun p hp => by
      simp only [List.mem_cons, List.not_mem_nil, or_false] at hp
      rcases hp with rfl | rfl | rfl | rfl
      · exact ⟨(hf1.block _ (by simp <;> omega) id).trans hD.out, by show w0.heap.size + 1 + 1 + 1 ≠ _; omega, by show _ ≤ w0.heap.size + 1 + 1 + 1; omega⟩
      · exact ⟨(hf1.block _ (by simp <;> omega) id).trans hK.out, by show w0.heap.size + 1 + 1 ≠ _; omega, by show _ ≤ w0.heap.size + 1 + 1; omega⟩
      · exact ⟨(hf1.block _ (by simp <;> omega) id).trans hC.out, by show w0.heap.size + 1 ≠ _; omega, by show _ ≤ w0.heap.size + 1; omega⟩
      · exact ⟨(hf1.block _ (by simp <;> omega) id).trans hR.out, by show w0.heap.size ≠ _; omega, Nat.le_refl _⟩, by omega⟩
  clear hf1 hr1 hw3 hR hC hK hD hr
  have HB1 := Lib.hid (HB.out.more (Obj.cells #[.pointer (some ⟨w0.heap.size + 1, 0, none⟩), .pointer (some ⟨w0.heap.size + 1 + 1, 0, none⟩), .pointer (some ⟨w0.heap.size + 1 + 1 + 1, 0, none⟩)] 258 (0, 0)) rfl)
  go_wp2_with fail
  refine (words_any w1.heap.size 3 [⟨w0.heap.size + 1, 0, none⟩, ⟨w0.heap.size + 1 + 1, 0, none⟩, ⟨w0.heap.size + 1 + 1 + 1, 0, none⟩] _ (by simp) (ptrs3 (HB1.out.at 0 rfl))).mono ?_
  rintro e w4 ⟨v, rfl, hb4, ho4⟩
  obtain ⟨g, cp, rfl, hg1, hg2⟩ := owns_some ho4 (by simp)
  have hB4 := HB1.out.stay (Fr.ofBelow hb4)
  have hz : w0.heap.size + 1 + 1 + 1 + 1 < w1.heap.size := HB.out.rd.lt
  have hg3 : w1.heap.size + 1 ≤ g := by simpa using hg1
  clear HB1 HB hb4
  go_wp2_with fail
  refine (read_any [⟨w0.heap.size + 1, 0, none⟩, ⟨w0.heap.size + 1 + 1, 0, none⟩, ⟨w0.heap.size + 1 + 1 + 1, 0, none⟩] w4 hB4.rd (by simp) ho4 (by omega) (fun p hp => by
      simp only [List.mem_cons, List.not_mem_nil, or_false] at hp
      rcases hp with rfl | rfl | rfl
      · exact ⟨hB4.spot 3 rfl rfl, by show w0.heap.size + 1 ≠ _; omega, by show w0.heap.size + 1 ≠ _; omega⟩
      · exact ⟨hB4.spot 2 rfl rfl, by show w0.heap.size + 1 + 1 ≠ _; omega, by show w0.heap.size + 1 + 1 ≠ _; omega⟩
      · exact ⟨hB4.spot 1 rfl rfl, by show w0.heap.size + 1 + 1 + 1 ≠ _; omega, by show w0.heap.size + 1 + 1 + 1 ≠ _; omega⟩)).mono ?_
  rintro e w5 ⟨rfl, hr5, hf5⟩
  have HB : Hid (PBo w0 (w0.heap.size + 1 + 1 + 1 + 1) [(w0.heap.size + 1 + 1 + 1, .cells #[.int .i64 (RSt.mk s 0).third] 3 (0, 0)), (w0.heap.size + 1 + 1, .cells #[.int .i64 (RSt.mk s 0).kind] 3 (0, 0)), (w0.heap.size + 1, .cells (replyCells { zeroReply with xid := (RSt.mk s 0).uintV }) 45 (0, 0)), (w0.heap.size, .cells (replyCells zeroReply) 45 (0, 0))] w5 (RSt.mk s 0).three) := by
    have p1 := PBo.put (B1 := [(w0.heap.size + 1 + 1 + 1, .cells #[.int .i64 0] 3 (0, 0)), (w0.heap.size + 1 + 1, .cells #[.int .i64 0] 3 (0, 0))]) hB4.less (by simp <;> omega) 0 (.int .i64 (RSt.mk s 0).uintV)
    have p2 := PBo.put (B1 := [(w0.heap.size + 1 + 1 + 1, .cells #[.int .i64 0] 3 (0, 0))]) p1 (by simp <;> omega) 0 (.int .i64 (RSt.mk s 0).kind)
    have p3 := PBo.put (B1 := []) p2 (by simp <;> omega) 0 (.int .i64 (RSt.mk s 0).third)
    exact Lib.hid (p3.step hf5 hr5)
  clear hB4 hr5 hf5 ho4 hg1 hg2 hg3
  have hgl : parseReplyM s = if replyGood s = true then ((RSt.mk s 0).replyC.1, 0) else (zeroReply, 121) := rfl
  have HPR := Lib.hid hgl
  have hgd : replyGood s = (decide ((RSt.mk s 0).replyC.2.doneV = 0) && decide ((RSt.mk s 0).kind = 1) && decide ((RSt.mk s 0).third ≤ 1) && mayReplyB (RSt.mk s 0).replyC.1) := rfl
  have HGD := Lib.hid hgd
  have HLE : Hid (((RSt.mk s 0).replyC.1).results.size ≤ 140737488351232) := Lib.hid (Nat.le_trans (replyC_res s) hs)
  clear hgl hgd
  generalize replyGood s = gd at HPR HGD
  generalize hdn : ((RSt.mk s 0).third == 1) = dn
  have HDN := Lib.hid hdn
  have hD0 : w5.cell? ⟨w0.heap.size + 1 + 1 + 1, 0, none⟩ = some (.int .i64 (RSt.mk s 0).third) := cellOf (HB.out.at 0 rfl) 0
  obtain ⟨n0, n1, n2, n3, n4, n5, n6, n7, n8, n9⟩ := box10 (Lib.hid (HB.out.at 2 rfl))
  have f1 := freeOf (HB.out.at 2 rfl) 1
  have HB2 : Hid (PBo w0 (w0.heap.size + 1 + 1 + 1 + 1) [(w0.heap.size + 1 + 1 + 1, .cells #[.int .i64 (RSt.mk s 0).third] 3 (0, 0)), (w0.heap.size + 1 + 1, .cells #[.int .i64 (RSt.mk s 0).kind] 3 (0, 0)), (w0.heap.size + 1, .cells (replyCells { zeroReply with xid := (RSt.mk s 0).uintV, denied := dn }) 45 (0, 0)), (w0.heap.size, .cells (replyCells zeroReply) 45 (0, 0))] (w5.setCell ⟨w0.heap.size + 1, 1, none⟩ (.bool dn)) (RSt.mk s 0).three) := Lib.hid (PBo.put (B1 := [(w0.heap.size + 1 + 1 + 1, .cells #[.int .i64 (RSt.mk s 0).third] 3 (0, 0)), (w0.heap.size + 1 + 1, .cells #[.int .i64 (RSt.mk s 0).kind] 3 (0, 0))]) HB.out (by simp <;> omega) 1 (.bool dn))
  go_upto_if 20 with fail
  clear n0 n1 n2 n3 n4 n5 n6 n7 n8 n9 f1 hD0 HB hdn
  generalize w5.setCell ⟨w0.heap.size + 1, 1, none⟩ (.bool dn) = w6 at *
  go_cut [20] from 9 (fun _ wx => Hid (PBo w0 (w0.heap.size + 1 + 1 + 1 + 1) [(w0.heap.size + 1 + 1 + 1, .cells #[.int .i64 (RSt.mk s 0).third] 3 (0, 0)), (w0.heap.size + 1 + 1, .cells #[.int .i64 (RSt.mk s 0).kind] 3 (0, 0)), (w0.heap.size + 1, .cells (replyCells (RSt.mk s 0).replyA.1) 45 (0, 0)), (w0.heap.size, .cells (replyCells zeroReply) 45 (0, 0))] wx (RSt.mk s 0).replyA.2))
  case first => as_aux_lemma =>
    clear HPR HGD HLE hz
    have h3 := HDN.out
    cases dn with
    | true =>
      have hA : (RSt.mk s 0).replyA = (⟨(RSt.mk s 0).uintV, true, zeroAuth, 0, (RSt.mk s 0).three.uintV, 0, 0, 0, ByteArray.empty⟩, (RSt.mk s 0).three.uint) := by
        unfold RSt.replyA RSt.reply3
        rw [if_pos (by simpa using h3), h3]; rfl
      have HA := Lib.hid hA
      clear hA h3 HDN
      have n1 := cellOf (HB2.out.at 2 rfl) 1
      have HB1 := Lib.hid (HB2.out.more (Obj.cells #[.pointer (some ⟨w0.heap.size + 1, 5, none⟩)] 258 (0, 0)) rfl)
      go_wp2_with fail
      refine (words_any w6.heap.size 1 [⟨w0.heap.size + 1, 5, none⟩] _ (by simp) (ptrs1 (HB1.out.at 0 rfl))).mono ?_
      rintro e w8 ⟨v, rfl, hb4, ho4⟩
      obtain ⟨g, cp, rfl, hg1, hg2⟩ := owns_some ho4 (by simp)
      have hB4 := HB1.out.stay (Fr.ofBelow hb4)
      have hz : w0.heap.size + 1 + 1 + 1 + 1 < w6.heap.size := HB2.out.rd.lt
      have hg3 : w6.heap.size + 1 ≤ g := by simpa using hg1
      clear HB1 HB2 hb4
      go_wp2_with fail
      refine (read_any [⟨w0.heap.size + 1, 5, none⟩] w8 hB4.rd (by simp) ho4 (by omega) (fun p hp => by
          obtain rfl := List.mem_singleton.1 hp
          exact ⟨hB4.spot 3 rfl rfl, by show w0.heap.size + 1 ≠ _; omega, by show w0.heap.size + 1 ≠ _; omega⟩)).mono ?_
      rintro e w9 ⟨rfl, hr5, hf5⟩
      have HB3 : Hid (PBo w0 (w0.heap.size + 1 + 1 + 1 + 1) [(w0.heap.size + 1 + 1 + 1, .cells #[.int .i64 (RSt.mk s 0).third] 3 (0, 0)), (w0.heap.size + 1 + 1, .cells #[.int .i64 (RSt.mk s 0).kind] 3 (0, 0)), (w0.heap.size + 1, .cells (replyCells ⟨(RSt.mk s 0).uintV, true, zeroAuth, 0, (RSt.mk s 0).three.uintV, 0, 0, 0, ByteArray.empty⟩) 45 (0, 0)), (w0.heap.size, .cells (replyCells zeroReply) 45 (0, 0))] w9 (RSt.mk s 0).three.uint) := by
        have p1 := PBo.put (B1 := [(w0.heap.size + 1 + 1 + 1, .cells #[.int .i64 (RSt.mk s 0).third] 3 (0, 0)), (w0.heap.size + 1 + 1, .cells #[.int .i64 (RSt.mk s 0).kind] 3 (0, 0))]) hB4.less (by simp <;> omega) 5 (.int .i64 (RSt.mk s 0).three.uintV)
        exact Lib.hid (p1.step hf5 hr5)
      clear hB4 hr5 hf5 ho4 hg1 hg2 hg3
      go_wp2_with fail
      go_meet
      case rel => rw [HA.out]; exact HB3
    | false =>
      have hA : (RSt.mk s 0).replyA = (⟨(RSt.mk s 0).uintV, false, (RSt.mk s 0).three.authV, (RSt.mk s 0).three.authS.uintV, 0, 0, 0, 0, ByteArray.empty⟩, (RSt.mk s 0).three.authS.uint) := by
        unfold RSt.replyA RSt.reply3
        rw [if_neg (by simpa using h3), h3]; rfl
      have HA := Lib.hid hA
      clear hA h3 HDN
      have n1 := cellOf (HB2.out.at 2 rfl) 1
      go_wp2_with fail
      refine (readAuth_any _ HB2.out.rd).mono ?_
      rintro e w7 ⟨rfl, hf8, hr8⟩
      have HB := Lib.hid (HB2.out.step hf8 hr8)
      clear hf8 hr8 HB2 n1
      have HB2 : Hid (PBo w0 (w0.heap.size + 1 + 1 + 1 + 1) [(w0.heap.size + 1 + 1 + 1, .cells #[.int .i64 (RSt.mk s 0).third] 3 (0, 0)), (w0.heap.size + 1 + 1, .cells #[.int .i64 (RSt.mk s 0).kind] 3 (0, 0)), (w0.heap.size + 1, .cells (replyCells ⟨(RSt.mk s 0).uintV, false, (RSt.mk s 0).three.authV, 0, 0, 0, 0, 0, ByteArray.empty⟩) 45 (0, 0)), (w0.heap.size, .cells (replyCells zeroReply) 45 (0, 0))] ((w7.setCell ⟨w0.heap.size + 1, 2, none⟩ (.int .i64 (RSt.mk s 0).three.authV.flavor)).setCell ⟨w0.heap.size + 1, 3, none⟩ (.string (RSt.mk s 0).three.authV.body)) (RSt.mk s 0).three.authS) :=
        Lib.hid (PBo.put (B1 := [(w0.heap.size + 1 + 1 + 1, .cells #[.int .i64 (RSt.mk s 0).third] 3 (0, 0)), (w0.heap.size + 1 + 1, .cells #[.int .i64 (RSt.mk s 0).kind] 3 (0, 0))]) (PBo.put (B1 := [(w0.heap.size + 1 + 1 + 1, .cells #[.int .i64 (RSt.mk s 0).third] 3 (0, 0)), (w0.heap.size + 1 + 1, .cells #[.int .i64 (RSt.mk s 0).kind] 3 (0, 0))]) HB.out (by simp <;> omega) 2 (.int .i64 (RSt.mk s 0).three.authV.flavor)) (by simp <;> omega) 3 (.string (RSt.mk s 0).three.authV.body))
      obtain ⟨n0, n1, n2, n3, n4, n5, n6, n7, n8, n9⟩ := box10 (Lib.hid (HB.out.at 2 rfl))
      have f5 := freeOf (HB.out.at 2 rfl) 2
      have f6 := freeOf (HB.out.at 2 rfl) 3
      go_upto_region 9 with fail
      clear n0 n1 n2 n3 n4 n5 n6 n7 n8 n9 f5 f6 HB
      generalize (w7.setCell ⟨w0.heap.size + 1, 2, none⟩ (.int .i64 (RSt.mk s 0).three.authV.flavor)).setCell ⟨w0.heap.size + 1, 3, none⟩ (.string (RSt.mk s 0).three.authV.body) = wb at *
      have HB1 := Lib.hid (HB2.out.more (Obj.cells #[.pointer (some ⟨w0.heap.size + 1, 4, none⟩)] 258 (0, 0)) rfl)
      go_wp2_with fail
      refine (words_any wb.heap.size 1 [⟨w0.heap.size + 1, 4, none⟩] _ (by simp) (ptrs1 (HB1.out.at 0 rfl))).mono ?_
      rintro e w8 ⟨v, rfl, hb4, ho4⟩
      obtain ⟨g, cp, rfl, hg1, hg2⟩ := owns_some ho4 (by simp)
      have hB4 := HB1.out.stay (Fr.ofBelow hb4)
      have hz : w0.heap.size + 1 + 1 + 1 + 1 < wb.heap.size := HB2.out.rd.lt
      have hg3 : wb.heap.size + 1 ≤ g := by simpa using hg1
      clear HB1 HB2 hb4
      go_wp2_with fail
      refine (read_any [⟨w0.heap.size + 1, 4, none⟩] w8 hB4.rd (by simp) ho4 (by omega) (fun p hp => by
          obtain rfl := List.mem_singleton.1 hp
          exact ⟨hB4.spot 3 rfl rfl, by show w0.heap.size + 1 ≠ _; omega, by show w0.heap.size + 1 ≠ _; omega⟩)).mono ?_
      rintro e w9 ⟨rfl, hr5, hf5⟩
      have HB3 : Hid (PBo w0 (w0.heap.size + 1 + 1 + 1 + 1) [(w0.heap.size + 1 + 1 + 1, .cells #[.int .i64 (RSt.mk s 0).third] 3 (0, 0)), (w0.heap.size + 1 + 1, .cells #[.int .i64 (RSt.mk s 0).kind] 3 (0, 0)), (w0.heap.size + 1, .cells (replyCells ⟨(RSt.mk s 0).uintV, false, (RSt.mk s 0).three.authV, (RSt.mk s 0).three.authS.uintV, 0, 0, 0, 0, ByteArray.empty⟩) 45 (0, 0)), (w0.heap.size, .cells (replyCells zeroReply) 45 (0, 0))] w9 (RSt.mk s 0).three.authS.uint) := by
        have p1 := PBo.put (B1 := [(w0.heap.size + 1 + 1 + 1, .cells #[.int .i64 (RSt.mk s 0).third] 3 (0, 0)), (w0.heap.size + 1 + 1, .cells #[.int .i64 (RSt.mk s 0).kind] 3 (0, 0))]) hB4.less (by simp <;> omega) 4 (.int .i64 (RSt.mk s 0).three.authS.uintV)
        exact Lib.hid (p1.step hf5 hr5)
      clear hB4 hr5 hf5 ho4 hg1 hg2 hg3
      go_wp2_with fail
      go_meet
      case rel => rw [HA.out]; exact HB3
  case rest =>
  clear HB2
  have HBA := Lib.hid hcut.out
  clear hcut
  have hrc : (RSt.mk s 0).replyC = (if shR (RSt.mk s 0).replyA.1 = true then ({ (putsO (shO (RSt.mk s 0).replyA.1) (RSt.mk s 0).replyA.2 (RSt.mk s 0).replyA.1).1 with results := (putsO (shO (RSt.mk s 0).replyA.1) (RSt.mk s 0).replyA.2 (RSt.mk s 0).replyA.1).2.restV }, (putsO (shO (RSt.mk s 0).replyA.1) (RSt.mk s 0).replyA.2 (RSt.mk s 0).replyA.1).2.restS) else putsO (shO (RSt.mk s 0).replyA.1) (RSt.mk s 0).replyA.2 (RSt.mk s 0).replyA.1) := rfl
  have HRC := Lib.hid hrc
  clear hrc HDN hz
  generalize (RSt.mk s 0).replyC = rc at HPR HGD HLE HRC
  generalize (RSt.mk s 0).replyA.1 = xa at HBA HRC
  generalize (RSt.mk s 0).replyA.2 = sa at HBA HRC
  generalize (RSt.mk s 0).third = td at HBA HGD
  generalize (RSt.mk s 0).kind = kd at HBA HGD
  go_wp2_with fail
  refine (shapeOf_any _ 45 xa _ (HBA.out.at 2 rfl)).mono ?_
  rintro e w7 ⟨v, rfl, hf6, ho6⟩
  obtain ⟨A, c, rfl⟩ := owns_slice ho6
  obtain ⟨ks, os, hB6, hA⟩ := HBA.out.rowA hf6 ho6
  have hlw := HBA.out.rd.lt
  have HO := Lib.hid ho6
  have HA := Lib.hid hA
  have HB6 := Lib.hid (hB6.at 0 rfl)
  clear HBA
  generalize hln : (shP (w0.heap.size + 1) xa).length = ln at *
  have HLN := Lib.hid hln
  clear hln
  have HB := Lib.hid (hB6.more (Obj.cells #[.slice A ln c, .bool (shV xa), .bool (shR xa), .bool (shOk xa)] 260 (0, 0)) rfl)
  have hz7 : wc.heap.size ≤ w7.heap.size := hf6.size
  clear hB6 hf6 ho6 hA
  go_wp2_with fail
  have hsp := shP_spots (r := xa) (show ReplyAt (w7.alloc (Obj.cells #[.slice A ln c, .bool (shV xa), .bool (shR xa), .bool (shOk xa)] 260 (0, 0))) (w0.heap.size + 1) 45 xa from HB.out.at 4 rfl)
  refine (read_row (shP (w0.heap.size + 1) xa) _ HB.out.rd (by rw [shP_len]; have := shO_len xa; omega) HLN.out (by rw [HLN.out]; exact row_of_box HO.out (fun g e => (HA.out g e).1) HB6.out (HB.out.at 1 rfl)) (fun p hp => ⟨(hsp p hp).1, by rw [(hsp p hp).2]; omega, fun g e => by have := (HA.out g e).2; rw [(hsp p hp).2]; omega⟩) (fun g e => by have := (HA.out g e).2; omega)).mono ?_
  rintro e w8 ⟨rfl, hr8, hf8⟩
  have hB9 : PBo w0 (w0.heap.size + 1 + 1 + 1 + 1) [(w7.heap.size, Obj.cells #[.slice A ln c, .bool (shV xa), .bool (shR xa), .bool (shOk xa)] 260 (0, 0)), (w0.heap.size + 1 + 1 + 1, .cells #[.int .i64 td] 3 (0, 0)), (w0.heap.size + 1 + 1, .cells #[.int .i64 kd] 3 (0, 0)), (w0.heap.size + 1, .cells (replyCells xa) 45 (0, 0)), (w0.heap.size, .cells (replyCells zeroReply) 45 (0, 0))] _ sa := HB.out.sub (by simp)
  have hpa := puts_all (X := w0.heap.size + 1) (T := 45) (B1 := [(w7.heap.size, Obj.cells #[.slice A ln c, .bool (shV xa), .bool (shR xa), .bool (shOk xa)] 260 (0, 0)), (w0.heap.size + 1 + 1 + 1, .cells #[.int .i64 td] 3 (0, 0)), (w0.heap.size + 1 + 1, .cells #[.int .i64 kd] 3 (0, 0))]) (B2 := [(w0.heap.size, .cells (replyCells zeroReply) 45 (0, 0))]) (by
      intro p hp
      simp only [List.cons_append, List.nil_append, List.mem_cons, List.not_mem_nil, or_false] at hp
      rcases hp with rfl | rfl | rfl | rfl
      · show w7.heap.size ≠ _; omega
      · show w0.heap.size + 1 + 1 + 1 ≠ _; omega
      · show w0.heap.size + 1 + 1 ≠ _; omega
      · show w0.heap.size ≠ _; omega) (shO xa) sa xa _ (fun o ho => shO_mem ho) hB9
  rw [shP_len, shP_map] at hf8
  rw [shP_len, ← hpa.2] at hr8
  have hB10 := hpa.1.step hf8 hr8
  clear hpa hB9 hf8 hr8 hsp HO HA HB6 HLN HB
  generalize putsO (shO xa) sa xa = yb at hB10 HRC
  have HB := Lib.hid hB10
  clear hB10
  have hs2 := cellOf (HB.out.at 0 rfl) 2
  have hs3 := lt_of_block (HB.out.at 0 rfl)
  generalize hsr : shR xa = sr at *
  clear hsr
  go_upto_if 40 with fail
  clear hs2 hs3
  go_cut [40] from 9 (fun _ wx => Hid (PBo w0 (w0.heap.size + 1 + 1 + 1 + 1) [(w0.heap.size + 1 + 1 + 1, .cells #[.int .i64 td] 3 (0, 0)), (w0.heap.size + 1 + 1, .cells #[.int .i64 kd] 3 (0, 0)), (w0.heap.size + 1, .cells (replyCells rc.1) 45 (0, 0)), (w0.heap.size, .cells (replyCells zeroReply) 45 (0, 0))] wx rc.2))
  case first => as_aux_lemma =>
    clear HPR HGD HLE
    cases sr with
    | true =>
      have hrc := HRC.out
      rw [if_pos rfl] at hrc
      subst hrc
      clear HRC
      go_wp2_with fail
      refine (RRest_any _ HB.out.rd).mono ?_
      rintro e wd ⟨rfl, hf9, _, hr9⟩
      replace HB := Lib.hid ((HB.out.step hf9 hr9).less)
      clear hf9 hr9
      obtain ⟨n0, n1, n2, n3, n4, n5, n6, n7, n8, n9⟩ := box10 (Lib.hid (HB.out.at 2 rfl))
      have f9 := freeOf (HB.out.at 2 rfl) 9
      have HB2 := Lib.hid (PBo.put (B1 := [(w0.heap.size + 1 + 1 + 1, .cells #[.int .i64 td] 3 (0, 0)), (w0.heap.size + 1 + 1, .cells #[.int .i64 kd] 3 (0, 0))]) HB.out (by simp <;> omega) 9 (.string yb.2.restV))
      go_wp2_with fail
      go_meet
      case rel => exact HB2
    | false =>
      have hrc := HRC.out
      rw [if_neg (by decide)] at hrc
      subst hrc
      go_wp2_with fail
      go_meet
      case rel => exact Lib.hid HB.out.less
  case rest =>
  clear HB HRC
  have HB2 := Lib.hid hcut.out
  clear hcut
  have hg9 := HG.out.fr HB2.out.fr id
  have HG9 := Lib.hid hg9
  clear hg9
  go_upto_region 14 with fail
  go_cut [59] from 9 (fun b wx => b = .bool (!gd) ∧ Hid (PBo w0 (w0.heap.size + 1 + 1 + 1 + 1) [(w0.heap.size + 1 + 1 + 1, .cells #[.int .i64 td] 3 (0, 0)), (w0.heap.size + 1 + 1, .cells #[.int .i64 kd] 3 (0, 0)), (w0.heap.size + 1, .cells (replyCells rc.1) 45 (0, 0)), (w0.heap.size, .cells (replyCells zeroReply) 45 (0, 0))] wx rc.2))
  case first => as_aux_lemma =>
    clear HPR
    obtain ⟨x, sf⟩ := rc
    have HM := fun w => mayReply_any x w HLE.out
    have HGD2 : Hid (gd = (decide (sf.doneV = 0) && decide (kd = 1) && decide (td ≤ 1) && mayReplyB x)) := HGD
    have HB3 : Hid (PBo w0 (w0.heap.size + 1 + 1 + 1 + 1) [(w0.heap.size + 1 + 1 + 1, .cells #[.int .i64 td] 3 (0, 0)), (w0.heap.size + 1 + 1, .cells #[.int .i64 kd] 3 (0, 0)), (w0.heap.size + 1, .cells (replyCells x) 45 (0, 0)), (w0.heap.size, .cells (replyCells zeroReply) 45 (0, 0))] _ sf) := HB2
    generalize mayReplyB x = may at HM HGD2
    have HMay := Lib.hid HM
    clear HM HGD HB2 HLE
    unfold replyCells at HMay
    have hdn : sf.doneV = 0 ∨ sf.doneV ≠ 0 := Decidable.em _
    rcases hdn with hdn | hdn
    · have hd2 : (sf.doneV != 0) = false := by rw [hdn]; rfl
      have HDN := Lib.hid hdn
      clear hdn
      go_wp2_with fail
      refine (RDone_any _ HB3.out.rd HG9.out).mono ?_
      rintro e we ⟨rfl, hfe⟩
      replace HB3 := Lib.hid (HB3.out.stay hfe)
      clear hfe
      have hd0 : we.cell? ⟨w0.heap.size + 1 + 1 + 1, 0, none⟩ = some (.int .i64 td) := cellOf (HB3.out.at 0 rfl) 0
      have hk0 : we.cell? ⟨w0.heap.size + 1 + 1, 0, none⟩ = some (.int .i64 kd) := cellOf (HB3.out.at 1 rfl) 0
      obtain ⟨n0, n1, n2, n3, n4, n5, n6, n7, n8, n9⟩ := box10 (Lib.hid (HB3.out.at 2 rfl))
      by_cases hk : kd = 1
      · have hk2 : (kd != 1) = false := by rw [hk]; rfl
        have HK := Lib.hid hk
        clear hk
        by_cases ht : td ≤ 1
        · go_wp2_with fail
          refine (HMay.out _).mono ?_
          rintro e wf ⟨rfl, hff⟩
          replace HB3 := Lib.hid (HB3.out.stay hff)
          clear hff n0 n1 n2 n3 n4 n5 n6 n7 n8 n9 hd0 hk0
          go_wp2_with fail
          go_meet
          case rel => exact ⟨by rw [HGD2.out, HDN.out, HK.out]; simp [show ¬ 1 < td by omega, ht], HB3⟩
        · have ht2 := Int.not_le.1 ht
          go_wp2_with fail
          go_meet
          case rel => exact ⟨by rw [HGD2.out, decide_eq_false (show ¬ td ≤ 1 by omega)]; simp, HB3⟩
      · have hk2 : (kd != 1) = true := by simpa using hk
        have HK := Lib.hid hk
        clear hk
        go_wp2_with fail
        go_meet
        case rel => exact ⟨by rw [HGD2.out, decide_eq_false HK.out]; simp, HB3⟩
    · have hd2 : (sf.doneV != 0) = true := by simpa using hdn
      have HDN := Lib.hid hdn
      clear hdn
      go_wp2_with fail
      refine (RDone_any _ HB3.out.rd HG9.out).mono ?_
      rintro e we ⟨rfl, hfe⟩
      replace HB3 := Lib.hid (HB3.out.stay hfe)
      go_wp2_with fail
      go_meet
      case rel => exact ⟨by rw [HGD2.out, decide_eq_false HDN.out]; simp, HB3⟩
  case rest =>
  obtain ⟨rfl, HBz⟩ := hcut
  clear HB2 HGD HG9 HLE
  cases gd with
  | true =>
    have hP := HPR.out
    rw [if_pos rfl] at hP
    have HP := Lib.hid hP
    clear hP
    go_upto_region 16 with fail
    refine wp_copy_row3 (w0.heap.size + 1) (w0.heap.size) 45 45 (replyCells rc.1) (replyCells zeroReply) _ rfl (HBz.out.at 2 rfl) rfl rfl (HBz.out.at 3 rfl) Tryz.underlying45 (by kernel_rfl) rfl (replyCells_one _) ?_
    intro w9 hb9 hf9
    have HB9 := Lib.hid hb9
    have HF9 := Lib.hid (HBz.out.fr.then hf9 (fun i hi e => by omega))
    clear hb9 hf9 HBz
    go_wp2
    refine bodyPost_ret (results_row_tmp rfl _ _ _ _ _ _ _ rfl rfl HB9.out Tryz.underlying45 (by kernel_rfl)) rfl ⟨by rw [HP.out]; rfl, HF9.out⟩
  | false =>
    have hP := HPR.out
    rw [if_neg (by decide)] at hP
    have HP := Lib.hid hP
    clear hP
    go_upto_region 15 with fail
    refine wp_zero_row3 (w0.heap.size) 45 (replyCells zeroReply) (replyCells zeroReply) (by kernel_rfl) rfl rfl (HBz.out.at 3 rfl) (by kernel_rfl) rfl (replyCells_one _) ?_
    intro w9 hb9 hf9
    have HB9 := Lib.hid hb9
    have HF9 := Lib.hid (HBz.out.fr.then hf9 (fun i hi e => by omega))
    clear hb9 hf9 HBz
    go_wp2
    refine bodyPost_ret (results_row_tmp rfl _ _ _ _ _ _ _ rfl rfl HB9.out Tryz.underlying45 (by kernel_rfl)) rfl ⟨by rw [HP.out]; rfl, HF9.out⟩
end Go.Proofs.YtbegjpmifcnieaaGreatDoor
