/- Package message: PrintReply. -/
import Derived.Test.YtbegjpmifcnieaaGreatDoorWb
import Derived.Test.YtbegjpmifcnieaaGreatDoorMd
namespace Go.Proofs.YtbegjpmifcnieaaGreatDoor
open Go.RowKit
set_option linter.unusedVariables false
set_option linter.unusedSimpArgs false

set_option maxRecDepth 100000 in
set_option maxHeartbeats 8000000 in
theorem PrintReply_any (r : ReplyM) (w0 : World) (hg : ErrT w0) (h1 : r.verf.body.size ≤ 140737488351232) (h3 : r.results.size ≤ 140737488351232) :
    Calls Tryz.prog 80 #[.agg (replyCells r)] w0 fun e w' => e = .returned (.tuple #[.string (printReplyM r).1, .int .i64 (printReplyM r).2]) ∧ Fr (fun _ => False) w0 w' := by
  have HG := Lib.hid hg
  have HM := fun w => mayReply_any r w h3
  have hgz := hg.lt
  clear hg
  unfold replyCells at *
  by_cases hd : r.denied = true
  · have hV : shV r = false := by simp [shV, hd]
    have hR : shR r = false := by simp [shR, hd]
    rw [show printReplyM r = doneM ((((newW 4096).uints [r.xid, 1, 1]).uints [r.reject]).uints (shN r)) (mayReplyB r) by simp [printReplyM, hd, hV, hR]]
    generalize mayReplyB r = may at HM
    rw [hd] at HM
    have HMay := Lib.hid HM
    clear HM
    have HS : Hid (∀ w, ReplyAt w w0.heap.size 45 r → Calls Tryz.prog 149 #[.pointer (some ⟨w0.heap.size, 0, none⟩)] w fun e w' => ∃ v, e = .returned (.agg #[v, .bool false, .bool false, .bool (shOk r)]) ∧ Fr (fun _ => False) w w' ∧ w'.ownsRow w.heap.size 326 3 v (shP w0.heap.size r).length (fieldCells (shP w0.heap.size r))) := Lib.hid (fun w hx => by have := shapeOf_any w0.heap.size 45 r w hx; rwa [hV, hR] at this)
    clear hV hR
    have hxa := Lib.hid (heap_alloc_new w0 (Obj.cells #[.int .i64 r.xid, .bool true, .int .i64 r.verf.flavor, .string r.verf.body, .int .i64 r.accept, .int .i64 r.reject, .int .i64 r.why, .int .i64 r.low, .int .i64 r.high, .string r.results] 45 (0, 0)))
    go_enter Tryz.func80, Tryz.ntmps80
    go_wp2_with fail
    refine (WNew_any 4096 _ (by decide)).mono ?_
    rintro e w1 ⟨rfl, hf1, hw1⟩
    have e4 : max (4096 : Int) 0 = 4096 := by decide
    rw [e4] at hw1
    clear e4
    simp only [World.size_alloc] at hw1
    have HB := Lib.hid (WBo.new (Obj.cells #[.int .i64 r.xid, .bool true, .int .i64 r.verf.flavor, .string r.verf.body, .int .i64 r.accept, .int .i64 r.reject, .int .i64 r.why, .int .i64 r.low, .int .i64 r.high, .string r.results] 45 (0, 0)) hf1 hw1 (newW_ok (m := 4096) (by decide) (by decide)))
    have HB3 := Lib.hid (((HB.out.more (Obj.cells #[.int .i64 1] 3 (0, 0)) rfl).more (Obj.cells #[.int .i64 1] 3 (0, 0)) (n := w1.heap.size + 1) (by simp)).more (Obj.cells #[.pointer (some ⟨w0.heap.size, 0, none⟩), .pointer (some ⟨w1.heap.size, 0, none⟩), .pointer (some ⟨w1.heap.size + 1, 0, none⟩)] 258 (0, 0)) (n := w1.heap.size + 1 + 1) (by simp))
    have hx := hidMove hxa hf1 id
    obtain ⟨n0, n1, n2, n3, n4, n5, n6, n7, n8, n9⟩ := box10 hx
    have hlx := lt_of_block hx.out
    clear hf1 hw1 hxa HB
    go_wp2_with fail
    clear n0 n1 n2 n3 n4 n5 n6 n7 n8 n9 hlx hx
    refine (words_any (w1.heap.size + 1 + 1) 3 [⟨w0.heap.size, 0, none⟩, ⟨w1.heap.size, 0, none⟩, ⟨w1.heap.size + 1, 0, none⟩] _ (by simp) (ptrs3 (HB3.out.at 0 rfl))).mono ?_
    rintro e w4 ⟨v, rfl, hb4, ho4⟩
    obtain ⟨g, cp, rfl, hg1, hg2⟩ := owns_some ho4 (by simp)
    obtain ⟨og, hB4⟩ := HB3.out.row (Fr.ofBelow hb4) hg1 hg2
    clear HB3 hb4
    go_wp2_with fail
    refine (hB4.lay _ [r.xid, 1, 1] (by simp) ho4 ⟨og, by simp⟩ (nums3 (cellOf (hB4.at 4 rfl) 0) (cellOf (hB4.at 3 rfl) 0) (cellOf (hB4.at 2 rfl) 0)) (in3 ⟨(Obj.cells #[.int .i64 r.xid, .bool true, .int .i64 r.verf.flavor, .string r.verf.body, .int .i64 r.accept, .int .i64 r.reject, .int .i64 r.why, .int .i64 r.low, .int .i64 r.high, .string r.results] 45 (0, 0)), by simp⟩ ⟨(Obj.cells #[.int .i64 1] 3 (0, 0)), by simp⟩ ⟨(Obj.cells #[.int .i64 1] 3 (0, 0)), by simp⟩)).mono ?_
    rintro e w5 ⟨rfl, hB⟩
    have HB := Lib.hid hB.less.less.less.less
    clear hB hB4 ho4 hg1 hg2
    go_wp2_with fail
    refine (HS.out _ (by unfold ReplyAt; rw [hd]; exact HB.out.at 0 rfl)).mono ?_
    rintro e w6 ⟨v, rfl, hf6, ho6⟩
    obtain ⟨A, c, rfl⟩ := owns_slice ho6
    obtain ⟨ks, os, hB6, hA⟩ := HB.out.rowA hf6 ho6
    have HO := Lib.hid ho6
    have HA := Lib.hid hA
    have HB6 := Lib.hid (hB6.at 0 rfl)
    clear HB HS
    generalize hln : (shP w0.heap.size r).length = ln at *
    have HLN := Lib.hid hln
    clear hln
    have SH : ∃ o, o = Obj.cells #[.slice A ln c, .bool false, .bool false, .bool (shOk r)] 260 (0, 0) := ⟨_, rfl⟩
    have HB := Lib.hid (hB6.more (Obj.cells #[.slice A ln c, .bool false, .bool false, .bool (shOk r)] 260 (0, 0)) rfl)
    obtain ⟨n0, n1, n2, n3, n4, n5, n6, n7, n8, n9⟩ := box10 (Lib.hid (hB6.at 1 rfl))
    have hlx : w0.heap.size < w6.heap.size := lt_of_block (hB6.at 1 rfl)
    clear hB6 hf6 ho6 hA SH
    go_wp2_with fail
    clear n0 n1 n2 n3 n4 n5 n6 n7 n8 n9 hlx
    have HPT := Lib.hid (HB.out.more (Obj.cells #[.pointer (some ⟨w0.heap.size, 5, none⟩)] 258 (0, 0)) (n := w6.heap.size + 1) (by simp))
    clear HB
    refine (words_any (w6.heap.size + 1) 1 [⟨w0.heap.size, 5, none⟩] _ (by simp) (ptrs1 (HPT.out.at 0 rfl))).mono ?_
    rintro e w8 ⟨v, rfl, hb8, ho8⟩
    obtain ⟨g8, cp8, rfl, hg1, hg2⟩ := owns_some ho8 (by simp)
    obtain ⟨og8, hB8⟩ := HPT.out.row (Fr.ofBelow hb8) hg1 hg2
    clear HPT hb8
    go_wp2_with fail
    refine (hB8.lay _ [r.reject] (by simp) ho8 ⟨og8, by simp⟩ (nums1 (cellOf (hB8.at 4 rfl) 5)) (in1 ⟨(Obj.cells #[.int .i64 r.xid, .bool true, .int .i64 r.verf.flavor, .string r.verf.body, .int .i64 r.accept, .int .i64 r.reject, .int .i64 r.why, .int .i64 r.low, .int .i64 r.high, .string r.results] 45 (0, 0)), by simp⟩)).mono ?_
    rintro e w9 ⟨rfl, hB⟩
    have HB := Lib.hid hB.less.less
    clear hB hB8 ho8 hg1 hg2
    obtain ⟨⟨q0, q1, q2, q3⟩, -, hq⟩ := box4 (HB.out.at 0 rfl)
    go_wp2_with fail
    refine (HB.out.layRow (shP w0.heap.size r) (shN r) (by rw [shP_len]; have := shO_len r; omega) HLN.out (by rw [HLN.out]; exact row_of_box HO.out HA.out HB6.out (HB.out.at 1 rfl)) (fun g e => ⟨os, by rw [HA.out g e]; simp⟩) (shN_at (T := 45) (by unfold ReplyAt; rw [hd]; exact HB.out.at 2 rfl)) (fun j hj => ⟨(Obj.cells #[.int .i64 r.xid, .bool true, .int .i64 r.verf.flavor, .string r.verf.body, .int .i64 r.accept, .int .i64 r.reject, .int .i64 r.why, .int .i64 r.low, .int .i64 r.high, .string r.results] 45 (0, 0)), by rw [shP_block hj]; simp⟩)).mono ?_
    rintro e w10 ⟨rfl, hB⟩
    clear HB HO HA HB6 q0 q1 q2 q3 hq
    have HB := Lib.hid hB
    clear hB
    obtain ⟨⟨q0, q1, q2, q3⟩, -, hq⟩ := box4 (HB.out.at 0 rfl)
    obtain ⟨n0, n1, n2, n3, n4, n5, n6, n7, n8, n9⟩ := box10 (Lib.hid (HB.out.at 2 rfl))
    have hlx := lt_of_block (HB.out.at 2 rfl)
    go_wp2_with fail
    clear n0 n1 n2 n3 n4 n5 n6 n7 n8 n9 hlx q0 q1 q2 q3 hq
    refine (HMay.out _).mono ?_
    rintro e w12 ⟨rfl, hf12⟩
    replace HB := Lib.hid (HB.out.stay hf12)
    clear hf12
    have HG2 := Lib.hid (HG.out.fr HB.out.fr id)
    go_wp2_with fail
    refine (HB.out.done may HG2.out).mono ?_
    rintro e w13 ⟨rfl, hf13⟩
    go_wp2_with fail
    go_ret2
    exact ⟨rfl, HB.out.fr.trans hf13⟩
  · rw [Bool.not_eq_true] at hd
    by_cases hR : shR r = true
    · have hV : shV r = true := by simp [shR, hd] at hR; simp [shV, hd, hR]
      rw [show printReplyM r = doneM ((((((newW 4096).uints [r.xid, 1, 0]).auth r.verf).uints [r.accept]).uints (shN r)).raw r.results) (mayReplyB r) by simp [printReplyM, hd, hV, hR]]
      generalize mayReplyB r = may at HM
      rw [hd] at HM
      have HMay := Lib.hid HM
      clear HM
      have HS : Hid (∀ w, ReplyAt w w0.heap.size 45 r → Calls Tryz.prog 149 #[.pointer (some ⟨w0.heap.size, 0, none⟩)] w fun e w' => ∃ v, e = .returned (.agg #[v, .bool true, .bool true, .bool (shOk r)]) ∧ Fr (fun _ => False) w w' ∧ w'.ownsRow w.heap.size 326 3 v (shP w0.heap.size r).length (fieldCells (shP w0.heap.size r))) := Lib.hid (fun w hx => by have := shapeOf_any w0.heap.size 45 r w hx; rwa [hV, hR] at this)
      clear hV hR
      have hxa := Lib.hid (heap_alloc_new w0 (Obj.cells #[.int .i64 r.xid, .bool false, .int .i64 r.verf.flavor, .string r.verf.body, .int .i64 r.accept, .int .i64 r.reject, .int .i64 r.why, .int .i64 r.low, .int .i64 r.high, .string r.results] 45 (0, 0)))
      go_enter Tryz.func80, Tryz.ntmps80
      go_wp2_with fail
      refine (WNew_any 4096 _ (by decide)).mono ?_
      rintro e w1 ⟨rfl, hf1, hw1⟩
      have e4 : max (4096 : Int) 0 = 4096 := by decide
      rw [e4] at hw1
      clear e4
      simp only [World.size_alloc] at hw1
      have HB := Lib.hid (WBo.new (Obj.cells #[.int .i64 r.xid, .bool false, .int .i64 r.verf.flavor, .string r.verf.body, .int .i64 r.accept, .int .i64 r.reject, .int .i64 r.why, .int .i64 r.low, .int .i64 r.high, .string r.results] 45 (0, 0)) hf1 hw1 (newW_ok (m := 4096) (by decide) (by decide)))
      have HB3 := Lib.hid (((HB.out.more (Obj.cells #[.int .i64 1] 3 (0, 0)) rfl).more (Obj.cells #[.int .i64 0] 3 (0, 0)) (n := w1.heap.size + 1) (by simp)).more (Obj.cells #[.pointer (some ⟨w0.heap.size, 0, none⟩), .pointer (some ⟨w1.heap.size, 0, none⟩), .pointer (some ⟨w1.heap.size + 1, 0, none⟩)] 258 (0, 0)) (n := w1.heap.size + 1 + 1) (by simp))
      have hx := hidMove hxa hf1 id
      obtain ⟨n0, n1, n2, n3, n4, n5, n6, n7, n8, n9⟩ := box10 hx
      have hlx := lt_of_block hx.out
      clear hf1 hw1 hxa HB
      go_wp2_with fail
      clear n0 n1 n2 n3 n4 n5 n6 n7 n8 n9 hlx hx
      refine (words_any (w1.heap.size + 1 + 1) 3 [⟨w0.heap.size, 0, none⟩, ⟨w1.heap.size, 0, none⟩, ⟨w1.heap.size + 1, 0, none⟩] _ (by simp) (ptrs3 (HB3.out.at 0 rfl))).mono ?_
      rintro e w4 ⟨v, rfl, hb4, ho4⟩
      obtain ⟨g, cp, rfl, hg1, hg2⟩ := owns_some ho4 (by simp)
      obtain ⟨og, hB4⟩ := HB3.out.row (Fr.ofBelow hb4) hg1 hg2
      clear HB3 hb4
      go_wp2_with fail
      refine (hB4.lay _ [r.xid, 1, 0] (by simp) ho4 ⟨og, by simp⟩ (nums3 (cellOf (hB4.at 4 rfl) 0) (cellOf (hB4.at 3 rfl) 0) (cellOf (hB4.at 2 rfl) 0)) (in3 ⟨(Obj.cells #[.int .i64 r.xid, .bool false, .int .i64 r.verf.flavor, .string r.verf.body, .int .i64 r.accept, .int .i64 r.reject, .int .i64 r.why, .int .i64 r.low, .int .i64 r.high, .string r.results] 45 (0, 0)), by simp⟩ ⟨(Obj.cells #[.int .i64 1] 3 (0, 0)), by simp⟩ ⟨(Obj.cells #[.int .i64 0] 3 (0, 0)), by simp⟩)).mono ?_
      rintro e w5 ⟨rfl, hB⟩
      have HB := Lib.hid hB.less.less.less.less
      clear hB hB4 ho4 hg1 hg2
      go_wp2_with fail
      refine (HS.out _ (by unfold ReplyAt; rw [hd]; exact HB.out.at 0 rfl)).mono ?_
      rintro e w6 ⟨v, rfl, hf6, ho6⟩
      obtain ⟨A, c, rfl⟩ := owns_slice ho6
      obtain ⟨ks, os, hB6, hA⟩ := HB.out.rowA hf6 ho6
      have HO := Lib.hid ho6
      have HA := Lib.hid hA
      have HB6 := Lib.hid (hB6.at 0 rfl)
      clear HB HS
      generalize hln : (shP w0.heap.size r).length = ln at *
      have HLN := Lib.hid hln
      clear hln
      have SH : ∃ o, o = Obj.cells #[.slice A ln c, .bool true, .bool true, .bool (shOk r)] 260 (0, 0) := ⟨_, rfl⟩
      have HB := Lib.hid (hB6.more (Obj.cells #[.slice A ln c, .bool true, .bool true, .bool (shOk r)] 260 (0, 0)) rfl)
      obtain ⟨n0, n1, n2, n3, n4, n5, n6, n7, n8, n9⟩ := box10 (Lib.hid (hB6.at 1 rfl))
      have hlx : w0.heap.size < w6.heap.size := lt_of_block (hB6.at 1 rfl)
      clear hB6 hf6 ho6 hA SH
      go_wp2_with fail
      clear n0 n1 n2 n3 n4 n5 n6 n7 n8 n9 hlx
      refine (HB.out.layAuth r.verf h1).mono ?_
      rintro e w7 ⟨rfl, hB⟩
      have HPT := Lib.hid (hB.more (Obj.cells #[.pointer (some ⟨w0.heap.size, 4, none⟩)] 258 (0, 0)) rfl)
      clear HB hB
      go_wp2_with fail
      refine (words_any w7.heap.size 1 [⟨w0.heap.size, 4, none⟩] _ (by simp) (ptrs1 (HPT.out.at 0 rfl))).mono ?_
      rintro e w8 ⟨v, rfl, hb8, ho8⟩
      obtain ⟨g8, cp8, rfl, hg1, hg2⟩ := owns_some ho8 (by simp)
      obtain ⟨og8, hB8⟩ := HPT.out.row (Fr.ofBelow hb8) hg1 hg2
      clear HPT hb8
      go_wp2_with fail
      refine (hB8.lay _ [r.accept] (by simp) ho8 ⟨og8, by simp⟩ (nums1 (cellOf (hB8.at 4 rfl) 4)) (in1 ⟨(Obj.cells #[.int .i64 r.xid, .bool false, .int .i64 r.verf.flavor, .string r.verf.body, .int .i64 r.accept, .int .i64 r.reject, .int .i64 r.why, .int .i64 r.low, .int .i64 r.high, .string r.results] 45 (0, 0)), by simp⟩)).mono ?_
      rintro e w9 ⟨rfl, hB⟩
      have HB := Lib.hid hB.less.less
      clear hB hB8 ho8 hg1 hg2
      obtain ⟨⟨q0, q1, q2, q3⟩, -, hq⟩ := box4 (HB.out.at 0 rfl)
      go_wp2_with fail
      refine (HB.out.layRow (shP w0.heap.size r) (shN r) (by rw [shP_len]; have := shO_len r; omega) HLN.out (by rw [HLN.out]; exact row_of_box HO.out HA.out HB6.out (HB.out.at 1 rfl)) (fun g e => ⟨os, by rw [HA.out g e]; simp⟩) (shN_at (T := 45) (by unfold ReplyAt; rw [hd]; exact HB.out.at 2 rfl)) (fun j hj => ⟨(Obj.cells #[.int .i64 r.xid, .bool false, .int .i64 r.verf.flavor, .string r.verf.body, .int .i64 r.accept, .int .i64 r.reject, .int .i64 r.why, .int .i64 r.low, .int .i64 r.high, .string r.results] 45 (0, 0)), by rw [shP_block hj]; simp⟩)).mono ?_
      rintro e w10 ⟨rfl, hB⟩
      clear HB HO HA HB6 q0 q1 q2 q3 hq
      have HB := Lib.hid hB
      clear hB
      obtain ⟨⟨q0, q1, q2, q3⟩, -, hq⟩ := box4 (HB.out.at 0 rfl)
      obtain ⟨n0, n1, n2, n3, n4, n5, n6, n7, n8, n9⟩ := box10 (Lib.hid (HB.out.at 2 rfl))
      have hlx := lt_of_block (HB.out.at 2 rfl)
      go_wp2_with fail
      clear n0 n1 n2 n3 n4 n5 n6 n7 n8 n9 hlx q0 q1 q2 q3 hq
      refine (HB.out.raw r.results h3).mono ?_
      rintro e w11 ⟨rfl, hB⟩
      clear HB
      have HB := Lib.hid hB
      clear hB
      obtain ⟨n0, n1, n2, n3, n4, n5, n6, n7, n8, n9⟩ := box10 (Lib.hid (HB.out.at 2 rfl))
      have hlx := lt_of_block (HB.out.at 2 rfl)
      go_wp2_with fail
      clear n0 n1 n2 n3 n4 n5 n6 n7 n8 n9 hlx
      refine (HMay.out _).mono ?_
      rintro e w12 ⟨rfl, hf12⟩
      replace HB := Lib.hid (HB.out.stay hf12)
      clear hf12
      have HG2 := Lib.hid (HG.out.fr HB.out.fr id)
      go_wp2_with fail
      refine (HB.out.done may HG2.out).mono ?_
      rintro e w13 ⟨rfl, hf13⟩
      go_wp2_with fail
      go_ret2
      exact ⟨rfl, HB.out.fr.trans hf13⟩
    · rw [Bool.not_eq_true] at hR
      by_cases hV : shV r = true
      ·
        rw [show printReplyM r = doneM (((((newW 4096).uints [r.xid, 1, 0]).auth r.verf).uints [r.accept]).uints (shN r)) (mayReplyB r) by simp [printReplyM, hd, hV, hR]]
        generalize mayReplyB r = may at HM
        rw [hd] at HM
        have HMay := Lib.hid HM
        clear HM
        have HS : Hid (∀ w, ReplyAt w w0.heap.size 45 r → Calls Tryz.prog 149 #[.pointer (some ⟨w0.heap.size, 0, none⟩)] w fun e w' => ∃ v, e = .returned (.agg #[v, .bool true, .bool false, .bool (shOk r)]) ∧ Fr (fun _ => False) w w' ∧ w'.ownsRow w.heap.size 326 3 v (shP w0.heap.size r).length (fieldCells (shP w0.heap.size r))) := Lib.hid (fun w hx => by have := shapeOf_any w0.heap.size 45 r w hx; rwa [hV, hR] at this)
        clear hV hR
        have hxa := Lib.hid (heap_alloc_new w0 (Obj.cells #[.int .i64 r.xid, .bool false, .int .i64 r.verf.flavor, .string r.verf.body, .int .i64 r.accept, .int .i64 r.reject, .int .i64 r.why, .int .i64 r.low, .int .i64 r.high, .string r.results] 45 (0, 0)))
        go_enter Tryz.func80, Tryz.ntmps80
        go_wp2_with fail
        refine (WNew_any 4096 _ (by decide)).mono ?_
        rintro e w1 ⟨rfl, hf1, hw1⟩
        have e4 : max (4096 : Int) 0 = 4096 := by decide
        rw [e4] at hw1
        clear e4
        simp only [World.size_alloc] at hw1
        have HB := Lib.hid (WBo.new (Obj.cells #[.int .i64 r.xid, .bool false, .int .i64 r.verf.flavor, .string r.verf.body, .int .i64 r.accept, .int .i64 r.reject, .int .i64 r.why, .int .i64 r.low, .int .i64 r.high, .string r.results] 45 (0, 0)) hf1 hw1 (newW_ok (m := 4096) (by decide) (by decide)))
        have HB3 := Lib.hid (((HB.out.more (Obj.cells #[.int .i64 1] 3 (0, 0)) rfl).more (Obj.cells #[.int .i64 0] 3 (0, 0)) (n := w1.heap.size + 1) (by simp)).more (Obj.cells #[.pointer (some ⟨w0.heap.size, 0, none⟩), .pointer (some ⟨w1.heap.size, 0, none⟩), .pointer (some ⟨w1.heap.size + 1, 0, none⟩)] 258 (0, 0)) (n := w1.heap.size + 1 + 1) (by simp))
        have hx := hidMove hxa hf1 id
        obtain ⟨n0, n1, n2, n3, n4, n5, n6, n7, n8, n9⟩ := box10 hx
        have hlx := lt_of_block hx.out
        clear hf1 hw1 hxa HB
        go_wp2_with fail
        clear n0 n1 n2 n3 n4 n5 n6 n7 n8 n9 hlx hx
        refine (words_any (w1.heap.size + 1 + 1) 3 [⟨w0.heap.size, 0, none⟩, ⟨w1.heap.size, 0, none⟩, ⟨w1.heap.size + 1, 0, none⟩] _ (by simp) (ptrs3 (HB3.out.at 0 rfl))).mono ?_
        rintro e w4 ⟨v, rfl, hb4, ho4⟩
        obtain ⟨g, cp, rfl, hg1, hg2⟩ := owns_some ho4 (by simp)
        obtain ⟨og, hB4⟩ := HB3.out.row (Fr.ofBelow hb4) hg1 hg2
        clear HB3 hb4
        go_wp2_with fail
        refine (hB4.lay _ [r.xid, 1, 0] (by simp) ho4 ⟨og, by simp⟩ (nums3 (cellOf (hB4.at 4 rfl) 0) (cellOf (hB4.at 3 rfl) 0) (cellOf (hB4.at 2 rfl) 0)) (in3 ⟨(Obj.cells #[.int .i64 r.xid, .bool false, .int .i64 r.verf.flavor, .string r.verf.body, .int .i64 r.accept, .int .i64 r.reject, .int .i64 r.why, .int .i64 r.low, .int .i64 r.high, .string r.results] 45 (0, 0)), by simp⟩ ⟨(Obj.cells #[.int .i64 1] 3 (0, 0)), by simp⟩ ⟨(Obj.cells #[.int .i64 0] 3 (0, 0)), by simp⟩)).mono ?_
        rintro e w5 ⟨rfl, hB⟩
        have HB := Lib.hid hB.less.less.less.less
        clear hB hB4 ho4 hg1 hg2
        go_wp2_with fail
        refine (HS.out _ (by unfold ReplyAt; rw [hd]; exact HB.out.at 0 rfl)).mono ?_
        rintro e w6 ⟨v, rfl, hf6, ho6⟩
        obtain ⟨A, c, rfl⟩ := owns_slice ho6
        obtain ⟨ks, os, hB6, hA⟩ := HB.out.rowA hf6 ho6
        have HO := Lib.hid ho6
        have HA := Lib.hid hA
        have HB6 := Lib.hid (hB6.at 0 rfl)
        clear HB HS
        generalize hln : (shP w0.heap.size r).length = ln at *
        have HLN := Lib.hid hln
        clear hln
        have SH : ∃ o, o = Obj.cells #[.slice A ln c, .bool true, .bool false, .bool (shOk r)] 260 (0, 0) := ⟨_, rfl⟩
        have HB := Lib.hid (hB6.more (Obj.cells #[.slice A ln c, .bool true, .bool false, .bool (shOk r)] 260 (0, 0)) rfl)
        obtain ⟨n0, n1, n2, n3, n4, n5, n6, n7, n8, n9⟩ := box10 (Lib.hid (hB6.at 1 rfl))
        have hlx : w0.heap.size < w6.heap.size := lt_of_block (hB6.at 1 rfl)
        clear hB6 hf6 ho6 hA SH
        go_wp2_with fail
        clear n0 n1 n2 n3 n4 n5 n6 n7 n8 n9 hlx
        refine (HB.out.layAuth r.verf h1).mono ?_
        rintro e w7 ⟨rfl, hB⟩
        have HPT := Lib.hid (hB.more (Obj.cells #[.pointer (some ⟨w0.heap.size, 4, none⟩)] 258 (0, 0)) rfl)
        clear HB hB
        go_wp2_with fail
        refine (words_any w7.heap.size 1 [⟨w0.heap.size, 4, none⟩] _ (by simp) (ptrs1 (HPT.out.at 0 rfl))).mono ?_
        rintro e w8 ⟨v, rfl, hb8, ho8⟩
        obtain ⟨g8, cp8, rfl, hg1, hg2⟩ := owns_some ho8 (by simp)
        obtain ⟨og8, hB8⟩ := HPT.out.row (Fr.ofBelow hb8) hg1 hg2
        clear HPT hb8
        go_wp2_with fail
        refine (hB8.lay _ [r.accept] (by simp) ho8 ⟨og8, by simp⟩ (nums1 (cellOf (hB8.at 4 rfl) 4)) (in1 ⟨(Obj.cells #[.int .i64 r.xid, .bool false, .int .i64 r.verf.flavor, .string r.verf.body, .int .i64 r.accept, .int .i64 r.reject, .int .i64 r.why, .int .i64 r.low, .int .i64 r.high, .string r.results] 45 (0, 0)), by simp⟩)).mono ?_
        rintro e w9 ⟨rfl, hB⟩
        have HB := Lib.hid hB.less.less
        clear hB hB8 ho8 hg1 hg2
        obtain ⟨⟨q0, q1, q2, q3⟩, -, hq⟩ := box4 (HB.out.at 0 rfl)
        go_wp2_with fail
        refine (HB.out.layRow (shP w0.heap.size r) (shN r) (by rw [shP_len]; have := shO_len r; omega) HLN.out (by rw [HLN.out]; exact row_of_box HO.out HA.out HB6.out (HB.out.at 1 rfl)) (fun g e => ⟨os, by rw [HA.out g e]; simp⟩) (shN_at (T := 45) (by unfold ReplyAt; rw [hd]; exact HB.out.at 2 rfl)) (fun j hj => ⟨(Obj.cells #[.int .i64 r.xid, .bool false, .int .i64 r.verf.flavor, .string r.verf.body, .int .i64 r.accept, .int .i64 r.reject, .int .i64 r.why, .int .i64 r.low, .int .i64 r.high, .string r.results] 45 (0, 0)), by rw [shP_block hj]; simp⟩)).mono ?_
        rintro e w10 ⟨rfl, hB⟩
        clear HB HO HA HB6 q0 q1 q2 q3 hq
        have HB := Lib.hid hB
        clear hB
        obtain ⟨⟨q0, q1, q2, q3⟩, -, hq⟩ := box4 (HB.out.at 0 rfl)
        obtain ⟨n0, n1, n2, n3, n4, n5, n6, n7, n8, n9⟩ := box10 (Lib.hid (HB.out.at 2 rfl))
        have hlx := lt_of_block (HB.out.at 2 rfl)
        go_wp2_with fail
        clear n0 n1 n2 n3 n4 n5 n6 n7 n8 n9 hlx q0 q1 q2 q3 hq
        refine (HMay.out _).mono ?_
        rintro e w12 ⟨rfl, hf12⟩
        replace HB := Lib.hid (HB.out.stay hf12)
        clear hf12
        have HG2 := Lib.hid (HG.out.fr HB.out.fr id)
        go_wp2_with fail
        refine (HB.out.done may HG2.out).mono ?_
        rintro e w13 ⟨rfl, hf13⟩
        go_wp2_with fail
        go_ret2
        exact ⟨rfl, HB.out.fr.trans hf13⟩
      · rw [Bool.not_eq_true] at hV
        rw [show printReplyM r = doneM ((((newW 4096).uints [r.xid, 1, 0]).uints [r.reject]).uints (shN r)) (mayReplyB r) by simp [printReplyM, hd, hV, hR]]
        generalize mayReplyB r = may at HM
        rw [hd] at HM
        have HMay := Lib.hid HM
        clear HM
        have HS : Hid (∀ w, ReplyAt w w0.heap.size 45 r → Calls Tryz.prog 149 #[.pointer (some ⟨w0.heap.size, 0, none⟩)] w fun e w' => ∃ v, e = .returned (.agg #[v, .bool false, .bool false, .bool (shOk r)]) ∧ Fr (fun _ => False) w w' ∧ w'.ownsRow w.heap.size 326 3 v (shP w0.heap.size r).length (fieldCells (shP w0.heap.size r))) := Lib.hid (fun w hx => by have := shapeOf_any w0.heap.size 45 r w hx; rwa [hV, hR] at this)
        clear hV hR
        have hxa := Lib.hid (heap_alloc_new w0 (Obj.cells #[.int .i64 r.xid, .bool false, .int .i64 r.verf.flavor, .string r.verf.body, .int .i64 r.accept, .int .i64 r.reject, .int .i64 r.why, .int .i64 r.low, .int .i64 r.high, .string r.results] 45 (0, 0)))
        go_enter Tryz.func80, Tryz.ntmps80
        go_wp2_with fail
        refine (WNew_any 4096 _ (by decide)).mono ?_
        rintro e w1 ⟨rfl, hf1, hw1⟩
        have e4 : max (4096 : Int) 0 = 4096 := by decide
        rw [e4] at hw1
        clear e4
        simp only [World.size_alloc] at hw1
        have HB := Lib.hid (WBo.new (Obj.cells #[.int .i64 r.xid, .bool false, .int .i64 r.verf.flavor, .string r.verf.body, .int .i64 r.accept, .int .i64 r.reject, .int .i64 r.why, .int .i64 r.low, .int .i64 r.high, .string r.results] 45 (0, 0)) hf1 hw1 (newW_ok (m := 4096) (by decide) (by decide)))
        have HB3 := Lib.hid (((HB.out.more (Obj.cells #[.int .i64 1] 3 (0, 0)) rfl).more (Obj.cells #[.int .i64 0] 3 (0, 0)) (n := w1.heap.size + 1) (by simp)).more (Obj.cells #[.pointer (some ⟨w0.heap.size, 0, none⟩), .pointer (some ⟨w1.heap.size, 0, none⟩), .pointer (some ⟨w1.heap.size + 1, 0, none⟩)] 258 (0, 0)) (n := w1.heap.size + 1 + 1) (by simp))
        have hx := hidMove hxa hf1 id
        obtain ⟨n0, n1, n2, n3, n4, n5, n6, n7, n8, n9⟩ := box10 hx
        have hlx := lt_of_block hx.out
        clear hf1 hw1 hxa HB
        go_wp2_with fail
        clear n0 n1 n2 n3 n4 n5 n6 n7 n8 n9 hlx hx
        refine (words_any (w1.heap.size + 1 + 1) 3 [⟨w0.heap.size, 0, none⟩, ⟨w1.heap.size, 0, none⟩, ⟨w1.heap.size + 1, 0, none⟩] _ (by simp) (ptrs3 (HB3.out.at 0 rfl))).mono ?_
        rintro e w4 ⟨v, rfl, hb4, ho4⟩
        obtain ⟨g, cp, rfl, hg1, hg2⟩ := owns_some ho4 (by simp)
        obtain ⟨og, hB4⟩ := HB3.out.row (Fr.ofBelow hb4) hg1 hg2
        clear HB3 hb4
        go_wp2_with fail
        refine (hB4.lay _ [r.xid, 1, 0] (by simp) ho4 ⟨og, by simp⟩ (nums3 (cellOf (hB4.at 4 rfl) 0) (cellOf (hB4.at 3 rfl) 0) (cellOf (hB4.at 2 rfl) 0)) (in3 ⟨(Obj.cells #[.int .i64 r.xid, .bool false, .int .i64 r.verf.flavor, .string r.verf.body, .int .i64 r.accept, .int .i64 r.reject, .int .i64 r.why, .int .i64 r.low, .int .i64 r.high, .string r.results] 45 (0, 0)), by simp⟩ ⟨(Obj.cells #[.int .i64 1] 3 (0, 0)), by simp⟩ ⟨(Obj.cells #[.int .i64 0] 3 (0, 0)), by simp⟩)).mono ?_
        rintro e w5 ⟨rfl, hB⟩
        have HB := Lib.hid hB.less.less.less.less
        clear hB hB4 ho4 hg1 hg2
        go_wp2_with fail
        refine (HS.out _ (by unfold ReplyAt; rw [hd]; exact HB.out.at 0 rfl)).mono ?_
        rintro e w6 ⟨v, rfl, hf6, ho6⟩
        obtain ⟨A, c, rfl⟩ := owns_slice ho6
        obtain ⟨ks, os, hB6, hA⟩ := HB.out.rowA hf6 ho6
        have HO := Lib.hid ho6
        have HA := Lib.hid hA
        have HB6 := Lib.hid (hB6.at 0 rfl)
        clear HB HS
        generalize hln : (shP w0.heap.size r).length = ln at *
        have HLN := Lib.hid hln
        clear hln
        have SH : ∃ o, o = Obj.cells #[.slice A ln c, .bool false, .bool false, .bool (shOk r)] 260 (0, 0) := ⟨_, rfl⟩
        have HB := Lib.hid (hB6.more (Obj.cells #[.slice A ln c, .bool false, .bool false, .bool (shOk r)] 260 (0, 0)) rfl)
        obtain ⟨n0, n1, n2, n3, n4, n5, n6, n7, n8, n9⟩ := box10 (Lib.hid (hB6.at 1 rfl))
        have hlx : w0.heap.size < w6.heap.size := lt_of_block (hB6.at 1 rfl)
        clear hB6 hf6 ho6 hA SH
        go_wp2_with fail
        clear n0 n1 n2 n3 n4 n5 n6 n7 n8 n9 hlx
        have HPT := Lib.hid (HB.out.more (Obj.cells #[.pointer (some ⟨w0.heap.size, 5, none⟩)] 258 (0, 0)) (n := w6.heap.size + 1) (by simp))
        clear HB
        refine (words_any (w6.heap.size + 1) 1 [⟨w0.heap.size, 5, none⟩] _ (by simp) (ptrs1 (HPT.out.at 0 rfl))).mono ?_
        rintro e w8 ⟨v, rfl, hb8, ho8⟩
        obtain ⟨g8, cp8, rfl, hg1, hg2⟩ := owns_some ho8 (by simp)
        obtain ⟨og8, hB8⟩ := HPT.out.row (Fr.ofBelow hb8) hg1 hg2
        clear HPT hb8
        go_wp2_with fail
        refine (hB8.lay _ [r.reject] (by simp) ho8 ⟨og8, by simp⟩ (nums1 (cellOf (hB8.at 4 rfl) 5)) (in1 ⟨(Obj.cells #[.int .i64 r.xid, .bool false, .int .i64 r.verf.flavor, .string r.verf.body, .int .i64 r.accept, .int .i64 r.reject, .int .i64 r.why, .int .i64 r.low, .int .i64 r.high, .string r.results] 45 (0, 0)), by simp⟩)).mono ?_
        rintro e w9 ⟨rfl, hB⟩
        have HB := Lib.hid hB.less.less
        clear hB hB8 ho8 hg1 hg2
        obtain ⟨⟨q0, q1, q2, q3⟩, -, hq⟩ := box4 (HB.out.at 0 rfl)
        go_wp2_with fail
        refine (HB.out.layRow (shP w0.heap.size r) (shN r) (by rw [shP_len]; have := shO_len r; omega) HLN.out (by rw [HLN.out]; exact row_of_box HO.out HA.out HB6.out (HB.out.at 1 rfl)) (fun g e => ⟨os, by rw [HA.out g e]; simp⟩) (shN_at (T := 45) (by unfold ReplyAt; rw [hd]; exact HB.out.at 2 rfl)) (fun j hj => ⟨(Obj.cells #[.int .i64 r.xid, .bool false, .int .i64 r.verf.flavor, .string r.verf.body, .int .i64 r.accept, .int .i64 r.reject, .int .i64 r.why, .int .i64 r.low, .int .i64 r.high, .string r.results] 45 (0, 0)), by rw [shP_block hj]; simp⟩)).mono ?_
        rintro e w10 ⟨rfl, hB⟩
        clear HB HO HA HB6 q0 q1 q2 q3 hq
        have HB := Lib.hid hB
        clear hB
        obtain ⟨⟨q0, q1, q2, q3⟩, -, hq⟩ := box4 (HB.out.at 0 rfl)
        obtain ⟨n0, n1, n2, n3, n4, n5, n6, n7, n8, n9⟩ := box10 (Lib.hid (HB.out.at 2 rfl))
        have hlx := lt_of_block (HB.out.at 2 rfl)
        go_wp2_with fail
        clear n0 n1 n2 n3 n4 n5 n6 n7 n8 n9 hlx q0 q1 q2 q3 hq
        refine (HMay.out _).mono ?_
        rintro e w12 ⟨rfl, hf12⟩
        replace HB := Lib.hid (HB.out.stay hf12)
        clear hf12
        have HG2 := Lib.hid (HG.out.fr HB.out.fr id)
        go_wp2_with fail
        refine (HB.out.done may HG2.out).mono ?_
        rintro e w13 ⟨rfl, hf13⟩
        go_wp2_with fail
        go_ret2
        exact ⟨rfl, HB.out.fr.trans hf13⟩
end Go.Proofs.YtbegjpmifcnieaaGreatDoor
