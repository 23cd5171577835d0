/- The document's messages (callboxref12): how a reply is laid down. -/
import Derived.Test.YtbegjpmifcnieaaGreatDoorNr
import Derived.Test.YtbegjpmifcnieaaGreatDoorNb
namespace Go.Proofs.YtbegjpmifcnieaaGreatDoor
open Go.RowKit
set_option linter.unusedVariables false
set_option linter.unusedSimpArgs false

/-- what stands behind a reply's kind. -/
def WSt.deniedW (st : WSt) (r : ReplyM) : WSt := if r.reject = 1 then ((((st.uint r.xid).uint 1).uint 1).uint r.reject).uint r.why else (((((st.uint r.xid).uint 1).uint 1).uint r.reject).uint r.low).uint r.high
def WSt.acceptW (st : WSt) (r : ReplyM) : WSt := if r.accept = 2 then ((((((st.uint r.xid).uint 1).uint 0).auth r.verf).uint r.accept).uint r.low).uint r.high else ((((st.uint r.xid).uint 1).uint 0).auth r.verf).uint r.accept
def rPrintReplyM (r : ReplyM) : ByteArray × Int :=
  if replyMayB r = true then (if r.denied = true then (((newW 4096).deniedW r).body, ((newW 4096).deniedW r).e) else (((newW 4096).acceptW r).body ++ r.results, 0)) else (ByteArray.empty, 120)

set_option maxRecDepth 100000 in
set_option maxHeartbeats 4000000 in
theorem rPrintReply_any (r : ReplyM) (w : World) (h1 : r.verf.body.size ≤ 140737488351232) (h3 : r.results.size ≤ 140737488351232) :
    Calls Tryz.prog 139 #[.agg (replyCells r)] w fun e w' => e = .returned (.tuple #[.string (rPrintReplyM r).1, .int .i64 (rPrintReplyM r).2]) ∧ Fr (fun _ => False) w w' := by
  have hx := Lib.hid (heap_alloc_new w (.cells (replyCells r) 45))
  have HM := Lib.hid (fun w => ReplyMay_any r w h1 h3)
  unfold rPrintReplyM
  generalize replyMayB r = ok at HM ⊢
  unfold replyCells at *
  cases ok with
  | false =>
    rw [if_neg (by decide)]
    go_enter Tryz.func139, Tryz.ntmps139
    go_wp2_with fail
    refine (HM.out _).mono ?_
    rintro e w1 ⟨rfl, hf1⟩
    go_wp2
    go_ret2
    exact ⟨rfl, ((Fr.refl _ _).alloc _).then hf1 (fun _ _ h => h)⟩
  | true =>
    rw [if_pos rfl]
    by_cases hd : r.denied = true
    · rw [if_pos hd]
      have HD := Lib.hid hd
      clear hd
      by_cases hj : r.reject = 1
      · rw [show (newW 4096).deniedW r = (((((newW 4096).uint r.xid).uint 1).uint 1).uint r.reject).uint r.why from if_pos hj]
        have hj2 : (r.reject == 1) = true := by rw [hj]; rfl
        clear hj
        go_enter Tryz.func139, Tryz.ntmps139
        go_wp2_with fail
        refine (HM.out _).mono ?_
        rintro e w1 ⟨rfl, hf1⟩
        clear HM
        replace hx := hidMove hx hf1 id
        have hf := ((Fr.refl _ _).alloc _).then hf1 (fun _ _ h => h)
        go_wp2_with fail
        refine (rNew_any 4096 _ (by decide)).mono ?_
        rintro e w2 ⟨rfl, hf2, hw2⟩
        have e4 : max (4096 : Int) 0 = 4096 := by decide
        rw [e4] at hw2
        clear e4
        have hlt : w.heap.size < w1.heap.size := lt_of_block hx.out
        have hb : RBo w w1.heap.size [(w.heap.size, (Obj.cells #[.int .i64 r.xid, .bool r.denied, .int .i64 r.verf.flavor, .string r.verf.body, .int .i64 r.accept, .int .i64 r.reject, .int .i64 r.why, .int .i64 r.low, .int .i64 r.high, .string r.results] 45 (0, 0)))] w2 (newW 4096) :=
          ⟨hw2, hf.then hf2 (fun _ _ h => h), fun p hp => by rw [List.mem_singleton.1 hp]; exact ⟨(hidMove hx hf2 id).out, by show w.heap.size ≠ w1.heap.size; omega⟩, by omega⟩
        have HB := Lib.hid hb
        clear hb hf2 hw2 hf hf1 hx
        obtain ⟨n0, n1, n2, n3, n4, n5, n6, n7, n8, n9⟩ := box10 (Lib.hid HB.out.at0)
        have hl2 := lt_of_block HB.out.at0
        go_wp2_with fail
        refine (rUint_any _ _ HB.out.wr).mono ?_
        rintro e w2 ⟨rfl, hf6, h6⟩
        replace HB := Lib.hid (HB.out.step hf6 h6)
        clear hf6 h6 n0 n1 n2 n3 n4 n5 n6 n7 n8 n9 hl2
        obtain ⟨n0, n1, n2, n3, n4, n5, n6, n7, n8, n9⟩ := box10 (Lib.hid HB.out.at0)
        have hl2 := lt_of_block HB.out.at0
        go_wp2_with fail
        refine (rUint_any 1 _ HB.out.wr).mono ?_
        rintro e w2 ⟨rfl, hf6, h6⟩
        replace HB := Lib.hid (HB.out.step hf6 h6)
        clear hf6 h6 n0 n1 n2 n3 n4 n5 n6 n7 n8 n9 hl2
        have hd := HD.out
        obtain ⟨n0, n1, n2, n3, n4, n5, n6, n7, n8, n9⟩ := box10 (Lib.hid HB.out.at0)
        have hl2 := lt_of_block HB.out.at0
        go_wp2_with fail
        refine (rUint_any 1 _ HB.out.wr).mono ?_
        rintro e w2 ⟨rfl, hf6, h6⟩
        replace HB := Lib.hid (HB.out.step hf6 h6)
        clear hf6 h6 n0 n1 n2 n3 n4 n5 n6 n7 n8 n9 hl2
        obtain ⟨n0, n1, n2, n3, n4, n5, n6, n7, n8, n9⟩ := box10 (Lib.hid HB.out.at0)
        have hl2 := lt_of_block HB.out.at0
        go_wp2_with fail
        refine (rUint_any _ _ HB.out.wr).mono ?_
        rintro e w2 ⟨rfl, hf6, h6⟩
        replace HB := Lib.hid (HB.out.step hf6 h6)
        clear hf6 h6 n0 n1 n2 n3 n4 n5 n6 n7 n8 n9 hl2
        obtain ⟨n0, n1, n2, n3, n4, n5, n6, n7, n8, n9⟩ := box10 (Lib.hid HB.out.at0)
        have hl2 := lt_of_block HB.out.at0
        go_wp2_with fail
        refine (rUint_any _ _ HB.out.wr).mono ?_
        rintro e w2 ⟨rfl, hf6, h6⟩
        replace HB := Lib.hid (HB.out.step hf6 h6)
        clear hf6 h6 n0 n1 n2 n3 n4 n5 n6 n7 n8 n9 hl2
        go_wp2_with fail
        refine (rDone_any _ HB.out.wr).mono ?_
        rintro e w2 ⟨rfl, hf6⟩
        replace HB := Lib.hid (HB.out.stay hf6)
        have hbs := body_size HB.out.wr.ok
        clear hf6
        obtain ⟨n0, n1, n2, n3, n4, n5, n6, n7, n8, n9⟩ := box10 (Lib.hid HB.out.at0)
        have hl2 := lt_of_block HB.out.at0
        go_wp2
        go_ret2
        exact ⟨rfl, HB.out.fr⟩
      · rw [show (newW 4096).deniedW r = ((((((newW 4096).uint r.xid).uint 1).uint 1).uint r.reject).uint r.low).uint r.high from if_neg hj]
        have hj2 : (r.reject == 1) = false := beq_eq_false_iff_ne.2 hj
        clear hj
        go_enter Tryz.func139, Tryz.ntmps139
        go_wp2_with fail
        refine (HM.out _).mono ?_
        rintro e w1 ⟨rfl, hf1⟩
        clear HM
        replace hx := hidMove hx hf1 id
        have hf := ((Fr.refl _ _).alloc _).then hf1 (fun _ _ h => h)
        go_wp2_with fail
        refine (rNew_any 4096 _ (by decide)).mono ?_
        rintro e w2 ⟨rfl, hf2, hw2⟩
        have e4 : max (4096 : Int) 0 = 4096 := by decide
        rw [e4] at hw2
        clear e4
        have hlt : w.heap.size < w1.heap.size := lt_of_block hx.out
        have hb : RBo w w1.heap.size [(w.heap.size, (Obj.cells #[.int .i64 r.xid, .bool r.denied, .int .i64 r.verf.flavor, .string r.verf.body, .int .i64 r.accept, .int .i64 r.reject, .int .i64 r.why, .int .i64 r.low, .int .i64 r.high, .string r.results] 45 (0, 0)))] w2 (newW 4096) :=
          ⟨hw2, hf.then hf2 (fun _ _ h => h), fun p hp => by rw [List.mem_singleton.1 hp]; exact ⟨(hidMove hx hf2 id).out, by show w.heap.size ≠ w1.heap.size; omega⟩, by omega⟩
        have HB := Lib.hid hb
        clear hb hf2 hw2 hf hf1 hx
        obtain ⟨n0, n1, n2, n3, n4, n5, n6, n7, n8, n9⟩ := box10 (Lib.hid HB.out.at0)
        have hl2 := lt_of_block HB.out.at0
        go_wp2_with fail
        refine (rUint_any _ _ HB.out.wr).mono ?_
        rintro e w2 ⟨rfl, hf6, h6⟩
        replace HB := Lib.hid (HB.out.step hf6 h6)
        clear hf6 h6 n0 n1 n2 n3 n4 n5 n6 n7 n8 n9 hl2
        obtain ⟨n0, n1, n2, n3, n4, n5, n6, n7, n8, n9⟩ := box10 (Lib.hid HB.out.at0)
        have hl2 := lt_of_block HB.out.at0
        go_wp2_with fail
        refine (rUint_any 1 _ HB.out.wr).mono ?_
        rintro e w2 ⟨rfl, hf6, h6⟩
        replace HB := Lib.hid (HB.out.step hf6 h6)
        clear hf6 h6 n0 n1 n2 n3 n4 n5 n6 n7 n8 n9 hl2
        have hd := HD.out
        obtain ⟨n0, n1, n2, n3, n4, n5, n6, n7, n8, n9⟩ := box10 (Lib.hid HB.out.at0)
        have hl2 := lt_of_block HB.out.at0
        go_wp2_with fail
        refine (rUint_any 1 _ HB.out.wr).mono ?_
        rintro e w2 ⟨rfl, hf6, h6⟩
        replace HB := Lib.hid (HB.out.step hf6 h6)
        clear hf6 h6 n0 n1 n2 n3 n4 n5 n6 n7 n8 n9 hl2
        obtain ⟨n0, n1, n2, n3, n4, n5, n6, n7, n8, n9⟩ := box10 (Lib.hid HB.out.at0)
        have hl2 := lt_of_block HB.out.at0
        go_wp2_with fail
        refine (rUint_any _ _ HB.out.wr).mono ?_
        rintro e w2 ⟨rfl, hf6, h6⟩
        replace HB := Lib.hid (HB.out.step hf6 h6)
        clear hf6 h6 n0 n1 n2 n3 n4 n5 n6 n7 n8 n9 hl2
        obtain ⟨n0, n1, n2, n3, n4, n5, n6, n7, n8, n9⟩ := box10 (Lib.hid HB.out.at0)
        have hl2 := lt_of_block HB.out.at0
        go_wp2_with fail
        refine (rUint_any _ _ HB.out.wr).mono ?_
        rintro e w2 ⟨rfl, hf6, h6⟩
        replace HB := Lib.hid (HB.out.step hf6 h6)
        clear hf6 h6 n0 n1 n2 n3 n4 n5 n6 n7 n8 n9 hl2
        obtain ⟨n0, n1, n2, n3, n4, n5, n6, n7, n8, n9⟩ := box10 (Lib.hid HB.out.at0)
        have hl2 := lt_of_block HB.out.at0
        go_wp2_with fail
        refine (rUint_any _ _ HB.out.wr).mono ?_
        rintro e w2 ⟨rfl, hf6, h6⟩
        replace HB := Lib.hid (HB.out.step hf6 h6)
        clear hf6 h6 n0 n1 n2 n3 n4 n5 n6 n7 n8 n9 hl2
        go_wp2_with fail
        refine (rDone_any _ HB.out.wr).mono ?_
        rintro e w2 ⟨rfl, hf6⟩
        replace HB := Lib.hid (HB.out.stay hf6)
        have hbs := body_size HB.out.wr.ok
        clear hf6
        obtain ⟨n0, n1, n2, n3, n4, n5, n6, n7, n8, n9⟩ := box10 (Lib.hid HB.out.at0)
        have hl2 := lt_of_block HB.out.at0
        go_wp2
        go_ret2
        exact ⟨rfl, HB.out.fr⟩
    · rw [if_neg hd]
      rw [Bool.not_eq_true] at hd
      have HD := Lib.hid hd
      clear hd
      by_cases hj : r.accept = 2
      · rw [show (newW 4096).acceptW r = (((((((newW 4096).uint r.xid).uint 1).uint 0).auth r.verf).uint r.accept).uint r.low).uint r.high from if_pos hj]
        have hj2 : (r.accept == 2) = true := by rw [hj]; rfl
        clear hj
        go_enter Tryz.func139, Tryz.ntmps139
        go_wp2_with fail
        refine (HM.out _).mono ?_
        rintro e w1 ⟨rfl, hf1⟩
        clear HM
        replace hx := hidMove hx hf1 id
        have hf := ((Fr.refl _ _).alloc _).then hf1 (fun _ _ h => h)
        go_wp2_with fail
        refine (rNew_any 4096 _ (by decide)).mono ?_
        rintro e w2 ⟨rfl, hf2, hw2⟩
        have e4 : max (4096 : Int) 0 = 4096 := by decide
        rw [e4] at hw2
        clear e4
        have hlt : w.heap.size < w1.heap.size := lt_of_block hx.out
        have hb : RBo w w1.heap.size [(w.heap.size, (Obj.cells #[.int .i64 r.xid, .bool r.denied, .int .i64 r.verf.flavor, .string r.verf.body, .int .i64 r.accept, .int .i64 r.reject, .int .i64 r.why, .int .i64 r.low, .int .i64 r.high, .string r.results] 45 (0, 0)))] w2 (newW 4096) :=
          ⟨hw2, hf.then hf2 (fun _ _ h => h), fun p hp => by rw [List.mem_singleton.1 hp]; exact ⟨(hidMove hx hf2 id).out, by show w.heap.size ≠ w1.heap.size; omega⟩, by omega⟩
        have HB := Lib.hid hb
        clear hb hf2 hw2 hf hf1 hx
        obtain ⟨n0, n1, n2, n3, n4, n5, n6, n7, n8, n9⟩ := box10 (Lib.hid HB.out.at0)
        have hl2 := lt_of_block HB.out.at0
        go_wp2_with fail
        refine (rUint_any _ _ HB.out.wr).mono ?_
        rintro e w2 ⟨rfl, hf6, h6⟩
        replace HB := Lib.hid (HB.out.step hf6 h6)
        clear hf6 h6 n0 n1 n2 n3 n4 n5 n6 n7 n8 n9 hl2
        obtain ⟨n0, n1, n2, n3, n4, n5, n6, n7, n8, n9⟩ := box10 (Lib.hid HB.out.at0)
        have hl2 := lt_of_block HB.out.at0
        go_wp2_with fail
        refine (rUint_any 1 _ HB.out.wr).mono ?_
        rintro e w2 ⟨rfl, hf6, h6⟩
        replace HB := Lib.hid (HB.out.step hf6 h6)
        clear hf6 h6 n0 n1 n2 n3 n4 n5 n6 n7 n8 n9 hl2
        have hd := HD.out
        obtain ⟨n0, n1, n2, n3, n4, n5, n6, n7, n8, n9⟩ := box10 (Lib.hid HB.out.at0)
        have hl2 := lt_of_block HB.out.at0
        go_wp2_with fail
        refine (rUint_any 0 _ HB.out.wr).mono ?_
        rintro e w2 ⟨rfl, hf6, h6⟩
        replace HB := Lib.hid (HB.out.step hf6 h6)
        clear hf6 h6 n0 n1 n2 n3 n4 n5 n6 n7 n8 n9 hl2
        obtain ⟨n0, n1, n2, n3, n4, n5, n6, n7, n8, n9⟩ := box10 (Lib.hid HB.out.at0)
        have hl2 := lt_of_block HB.out.at0
        go_wp2_with fail
        refine (rauth_any r.verf _ HB.out.wr h1).mono ?_
        rintro e w2 ⟨rfl, hf6, h6⟩
        replace HB := Lib.hid (HB.out.step hf6 h6)
        clear hf6 h6 n0 n1 n2 n3 n4 n5 n6 n7 n8 n9 hl2
        obtain ⟨n0, n1, n2, n3, n4, n5, n6, n7, n8, n9⟩ := box10 (Lib.hid HB.out.at0)
        have hl2 := lt_of_block HB.out.at0
        go_wp2_with fail
        refine (rUint_any _ _ HB.out.wr).mono ?_
        rintro e w2 ⟨rfl, hf6, h6⟩
        replace HB := Lib.hid (HB.out.step hf6 h6)
        clear hf6 h6 n0 n1 n2 n3 n4 n5 n6 n7 n8 n9 hl2
        obtain ⟨n0, n1, n2, n3, n4, n5, n6, n7, n8, n9⟩ := box10 (Lib.hid HB.out.at0)
        have hl2 := lt_of_block HB.out.at0
        go_wp2_with fail
        refine (rUint_any _ _ HB.out.wr).mono ?_
        rintro e w2 ⟨rfl, hf6, h6⟩
        replace HB := Lib.hid (HB.out.step hf6 h6)
        clear hf6 h6 n0 n1 n2 n3 n4 n5 n6 n7 n8 n9 hl2
        obtain ⟨n0, n1, n2, n3, n4, n5, n6, n7, n8, n9⟩ := box10 (Lib.hid HB.out.at0)
        have hl2 := lt_of_block HB.out.at0
        go_wp2_with fail
        refine (rUint_any _ _ HB.out.wr).mono ?_
        rintro e w2 ⟨rfl, hf6, h6⟩
        replace HB := Lib.hid (HB.out.step hf6 h6)
        clear hf6 h6 n0 n1 n2 n3 n4 n5 n6 n7 n8 n9 hl2
        go_wp2_with fail
        refine (rDone_any _ HB.out.wr).mono ?_
        rintro e w2 ⟨rfl, hf6⟩
        replace HB := Lib.hid (HB.out.stay hf6)
        have hbs := body_size HB.out.wr.ok
        clear hf6
        obtain ⟨n0, n1, n2, n3, n4, n5, n6, n7, n8, n9⟩ := box10 (Lib.hid HB.out.at0)
        have hl2 := lt_of_block HB.out.at0
        go_wp2
        go_ret2
        exact ⟨rfl, HB.out.fr⟩
      · rw [show (newW 4096).acceptW r = (((((newW 4096).uint r.xid).uint 1).uint 0).auth r.verf).uint r.accept from if_neg hj]
        have hj2 : (r.accept == 2) = false := beq_eq_false_iff_ne.2 hj
        clear hj
        go_enter Tryz.func139, Tryz.ntmps139
        go_wp2_with fail
        refine (HM.out _).mono ?_
        rintro e w1 ⟨rfl, hf1⟩
        clear HM
        replace hx := hidMove hx hf1 id
        have hf := ((Fr.refl _ _).alloc _).then hf1 (fun _ _ h => h)
        go_wp2_with fail
        refine (rNew_any 4096 _ (by decide)).mono ?_
        rintro e w2 ⟨rfl, hf2, hw2⟩
        have e4 : max (4096 : Int) 0 = 4096 := by decide
        rw [e4] at hw2
        clear e4
        have hlt : w.heap.size < w1.heap.size := lt_of_block hx.out
        have hb : RBo w w1.heap.size [(w.heap.size, (Obj.cells #[.int .i64 r.xid, .bool r.denied, .int .i64 r.verf.flavor, .string r.verf.body, .int .i64 r.accept, .int .i64 r.reject, .int .i64 r.why, .int .i64 r.low, .int .i64 r.high, .string r.results] 45 (0, 0)))] w2 (newW 4096) :=
          ⟨hw2, hf.then hf2 (fun _ _ h => h), fun p hp => by rw [List.mem_singleton.1 hp]; exact ⟨(hidMove hx hf2 id).out, by show w.heap.size ≠ w1.heap.size; omega⟩, by omega⟩
        have HB := Lib.hid hb
        clear hb hf2 hw2 hf hf1 hx
        obtain ⟨n0, n1, n2, n3, n4, n5, n6, n7, n8, n9⟩ := box10 (Lib.hid HB.out.at0)
        have hl2 := lt_of_block HB.out.at0
        go_wp2_with fail
        refine (rUint_any _ _ HB.out.wr).mono ?_
        rintro e w2 ⟨rfl, hf6, h6⟩
        replace HB := Lib.hid (HB.out.step hf6 h6)
        clear hf6 h6 n0 n1 n2 n3 n4 n5 n6 n7 n8 n9 hl2
        obtain ⟨n0, n1, n2, n3, n4, n5, n6, n7, n8, n9⟩ := box10 (Lib.hid HB.out.at0)
        have hl2 := lt_of_block HB.out.at0
        go_wp2_with fail
        refine (rUint_any 1 _ HB.out.wr).mono ?_
        rintro e w2 ⟨rfl, hf6, h6⟩
        replace HB := Lib.hid (HB.out.step hf6 h6)
        clear hf6 h6 n0 n1 n2 n3 n4 n5 n6 n7 n8 n9 hl2
        have hd := HD.out
        obtain ⟨n0, n1, n2, n3, n4, n5, n6, n7, n8, n9⟩ := box10 (Lib.hid HB.out.at0)
        have hl2 := lt_of_block HB.out.at0
        go_wp2_with fail
        refine (rUint_any 0 _ HB.out.wr).mono ?_
        rintro e w2 ⟨rfl, hf6, h6⟩
        replace HB := Lib.hid (HB.out.step hf6 h6)
        clear hf6 h6 n0 n1 n2 n3 n4 n5 n6 n7 n8 n9 hl2
        obtain ⟨n0, n1, n2, n3, n4, n5, n6, n7, n8, n9⟩ := box10 (Lib.hid HB.out.at0)
        have hl2 := lt_of_block HB.out.at0
        go_wp2_with fail
        refine (rauth_any r.verf _ HB.out.wr h1).mono ?_
        rintro e w2 ⟨rfl, hf6, h6⟩
        replace HB := Lib.hid (HB.out.step hf6 h6)
        clear hf6 h6 n0 n1 n2 n3 n4 n5 n6 n7 n8 n9 hl2
        obtain ⟨n0, n1, n2, n3, n4, n5, n6, n7, n8, n9⟩ := box10 (Lib.hid HB.out.at0)
        have hl2 := lt_of_block HB.out.at0
        go_wp2_with fail
        refine (rUint_any _ _ HB.out.wr).mono ?_
        rintro e w2 ⟨rfl, hf6, h6⟩
        replace HB := Lib.hid (HB.out.step hf6 h6)
        clear hf6 h6 n0 n1 n2 n3 n4 n5 n6 n7 n8 n9 hl2
        obtain ⟨n0, n1, n2, n3, n4, n5, n6, n7, n8, n9⟩ := box10 (Lib.hid HB.out.at0)
        have hl2 := lt_of_block HB.out.at0
        go_wp2_with fail
        refine (rDone_any _ HB.out.wr).mono ?_
        rintro e w2 ⟨rfl, hf6⟩
        replace HB := Lib.hid (HB.out.stay hf6)
        have hbs := body_size HB.out.wr.ok
        clear hf6
        obtain ⟨n0, n1, n2, n3, n4, n5, n6, n7, n8, n9⟩ := box10 (Lib.hid HB.out.at0)
        have hl2 := lt_of_block HB.out.at0
        go_wp2
        go_ret2
        exact ⟨rfl, HB.out.fr⟩
end Go.Proofs.YtbegjpmifcnieaaGreatDoor
