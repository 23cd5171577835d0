/- Package message: a reply with nothing but what its kind has. -/
import Derived.Test.YtbegjpmifcnieaaGreatDoorMa
namespace Go.Proofs.YtbegjpmifcnieaaGreatDoor
open Go.RowKit
set_option linter.unusedVariables false
set_option linter.unusedSimpArgs false

theorem replyCells_one (r : ReplyM) : (replyCells r).all (·.oneCell') = true := by simp [replyCells, Value.oneCell']

structure BaI (w : World) (r : ReplyM) (s n : Nat) (A1 A2 : Option Addr) (c1 c2 : Nat) (y : ReplyM) (wr : World) : Prop where
  fr : Fr (fun _ => False) w wr
  x : ReplyAt wr w.heap.size 45 r
  z : ReplyAt wr (w.heap.size + 1) 45 zeroReply
  y : ReplyAt wr (w.heap.size + 1 + 1) 45 y
  r1 : wr.ownsRow (w.heap.size + 3) 326 3 (.slice A1 n c1) n (fieldCells (shP w.heap.size r))
  r2 : wr.ownsRow (w.heap.size + 3) 326 3 (.slice A2 n c2) n (fieldCells (shP (w.heap.size + 1 + 1) (bare0 r)))
  s1 : wr.heap[s]? = some (.cells #[.slice A1 n c1, .bool (shV r), .bool (shR r), .bool (shOk r)] 260 (0, 0))
  s2 : wr.heap[s + 1]? = some (.cells #[.slice A2 n c2, .bool (shV r), .bool (shR r), .bool (shOk (bare0 r))] 260 (0, 0))
  hs : w.heap.size + 3 ≤ s
theorem BaI.stay {w : World} {r y : ReplyM} {s n : Nat} {A1 A2 : Option Addr} {c1 c2 : Nat} {wr wr' : World} (h : BaI w r s n A1 A2 c1 c2 y wr) (hf : Fr (fun _ => False) wr wr') : BaI w r s n A1 A2 c1 c2 y wr' :=
  ⟨h.fr.trans hf, h.x.fr hf id, h.z.fr hf id, h.y.fr hf id, ownsRow_keep h.r1 (fun g e => hf.block g (h.r1.lt g e).2 id), ownsRow_keep h.r2 (fun g e => hf.block g (h.r2.lt g e).2 id), (hf.block _ (lt_of_block h.s1) id).trans h.s1, (hf.block _ (lt_of_block h.s2) id).trans h.s2, h.hs⟩
theorem BaI.set {w : World} {r y : ReplyM} {s n : Nat} {A1 A2 : Option Addr} {c1 c2 : Nat} {wr : World} (h : BaI w r s n A1 A2 c1 c2 y wr) {i : Nat} {v : Value} {y' : ReplyM} (hy : ReplyAt (wr.setCell ⟨w.heap.size + 1 + 1, i, none⟩ v) (w.heap.size + 1 + 1) 45 y') :
    BaI w r s n A1 A2 c1 c2 y' (wr.setCell ⟨w.heap.size + 1 + 1, i, none⟩ v) := by
  have hs := h.hs
  have hf : Fr (fun k => k = w.heap.size + 1 + 1) wr (wr.setCell ⟨w.heap.size + 1 + 1, i, none⟩ v) := Fr.setCell (S := fun k => k = w.heap.size + 1 + 1) (p := ⟨w.heap.size + 1 + 1, i, none⟩) (Fr.refl _ _) (.inl rfl) _
  exact ⟨h.fr.setCell (.inr (by show w.heap.size ≤ w.heap.size + 1 + 1; omega)) _, h.x.fr hf (by omega), h.z.fr hf (by omega), hy, ownsRow_keep h.r1 (fun g e => hf.block g (h.r1.lt g e).2 (by have := (h.r1.lt g e).1; omega)), ownsRow_keep h.r2 (fun g e => hf.block g (h.r2.lt g e).2 (by have := (h.r2.lt g e).1; omega)), (hf.block _ (lt_of_block h.s1) (by omega)).trans h.s1, (hf.block _ (lt_of_block h.s2) (by omega)).trans h.s2, hs⟩

set_option maxRecDepth 100000 in
set_option maxHeartbeats 8000000 in
theorem bare_any (r : ReplyM) (w : World) :
    Calls Tryz.prog 220 #[.agg (replyCells r)] w fun e w' => e = .returned (.agg (replyCells (bareM r))) ∧ Fr (fun _ => False) w w' := by
  unfold replyCells
  by_cases hd : r.denied = true
  · have E0 : Hid (bare0 r = { zeroReply with xid := r.xid, denied := true, reject := r.reject }) := Lib.hid (if_pos hd)
    have hX := Lib.hid (show ReplyAt (((w.alloc (Obj.cells #[.int .i64 r.xid, .bool true, .int .i64 r.verf.flavor, .string r.verf.body, .int .i64 r.accept, .int .i64 r.reject, .int .i64 r.why, .int .i64 r.low, .int .i64 r.high, .string r.results] 45 (0, 0))).alloc (Obj.cells #[.int .i64 0, .bool false, .int .i64 0, .string ByteArray.empty, .int .i64 0, .int .i64 0, .int .i64 0, .int .i64 0, .int .i64 0, .string ByteArray.empty] 45 (0, 0))).alloc (Obj.cells #[.int .i64 r.xid, .bool true, .int .i64 0, .string ByteArray.empty, .int .i64 0, .int .i64 r.reject, .int .i64 0, .int .i64 0, .int .i64 0, .string ByteArray.empty] 45 (0, 0))) w.heap.size 45 r by unfold ReplyAt; rw [hd]; exact heap_old (heap_old (heap_alloc_new w _)))
    have hZ := Lib.hid (show ReplyAt (((w.alloc (Obj.cells #[.int .i64 r.xid, .bool true, .int .i64 r.verf.flavor, .string r.verf.body, .int .i64 r.accept, .int .i64 r.reject, .int .i64 r.why, .int .i64 r.low, .int .i64 r.high, .string r.results] 45 (0, 0))).alloc (Obj.cells #[.int .i64 0, .bool false, .int .i64 0, .string ByteArray.empty, .int .i64 0, .int .i64 0, .int .i64 0, .int .i64 0, .int .i64 0, .string ByteArray.empty] 45 (0, 0))).alloc (Obj.cells #[.int .i64 r.xid, .bool true, .int .i64 0, .string ByteArray.empty, .int .i64 0, .int .i64 r.reject, .int .i64 0, .int .i64 0, .int .i64 0, .string ByteArray.empty] 45 (0, 0))) (w.heap.size + 1) 45 zeroReply from heap_old heap_two)
    have hY := Lib.hid (show ReplyAt (((w.alloc (Obj.cells #[.int .i64 r.xid, .bool true, .int .i64 r.verf.flavor, .string r.verf.body, .int .i64 r.accept, .int .i64 r.reject, .int .i64 r.why, .int .i64 r.low, .int .i64 r.high, .string r.results] 45 (0, 0))).alloc (Obj.cells #[.int .i64 0, .bool false, .int .i64 0, .string ByteArray.empty, .int .i64 0, .int .i64 0, .int .i64 0, .int .i64 0, .int .i64 0, .string ByteArray.empty] 45 (0, 0))).alloc (Obj.cells #[.int .i64 r.xid, .bool true, .int .i64 0, .string ByteArray.empty, .int .i64 0, .int .i64 r.reject, .int .i64 0, .int .i64 0, .int .i64 0, .string ByteArray.empty] 45 (0, 0))) (w.heap.size + 1 + 1) 45 (bare0 r) by rw [E0.out]; exact heap_three)
    have hF := Lib.hid (show Fr (fun _ => False) w (((w.alloc (Obj.cells #[.int .i64 r.xid, .bool true, .int .i64 r.verf.flavor, .string r.verf.body, .int .i64 r.accept, .int .i64 r.reject, .int .i64 r.why, .int .i64 r.low, .int .i64 r.high, .string r.results] 45 (0, 0))).alloc (Obj.cells #[.int .i64 0, .bool false, .int .i64 0, .string ByteArray.empty, .int .i64 0, .int .i64 0, .int .i64 0, .int .i64 0, .int .i64 0, .string ByteArray.empty] 45 (0, 0))).alloc (Obj.cells #[.int .i64 r.xid, .bool true, .int .i64 0, .string ByteArray.empty, .int .i64 0, .int .i64 r.reject, .int .i64 0, .int .i64 0, .int .i64 0, .string ByteArray.empty] 45 (0, 0))) from (((Fr.refl _ _).alloc _).alloc _).alloc _)
    have hsz : (((w.alloc (Obj.cells #[.int .i64 r.xid, .bool true, .int .i64 r.verf.flavor, .string r.verf.body, .int .i64 r.accept, .int .i64 r.reject, .int .i64 r.why, .int .i64 r.low, .int .i64 r.high, .string r.results] 45 (0, 0))).alloc (Obj.cells #[.int .i64 0, .bool false, .int .i64 0, .string ByteArray.empty, .int .i64 0, .int .i64 0, .int .i64 0, .int .i64 0, .int .i64 0, .string ByteArray.empty] 45 (0, 0))).alloc (Obj.cells #[.int .i64 r.xid, .bool true, .int .i64 0, .string ByteArray.empty, .int .i64 0, .int .i64 r.reject, .int .i64 0, .int .i64 0, .int .i64 0, .string ByteArray.empty] 45 (0, 0))).heap.size = w.heap.size + 3 := by simp
    go_enter Tryz.func220, Tryz.ntmps220
    go_wp2_with fail
    refine (shapeOf_any _ 45 r _ hX.out).mono ?_
    rintro e w4 ⟨v1, rfl, hf4, ho1⟩
    rw [hsz, shP_len] at ho1
    obtain ⟨A1, c1, rfl⟩ := owns_slice ho1
    replace hX := Lib.hid (hX.out.fr hf4 id)
    replace hY := Lib.hid (hY.out.fr hf4 id)
    replace hZ := Lib.hid (hZ.out.fr hf4 id)
    replace hF := Lib.hid (hF.out.trans hf4)
    have hz4 : w.heap.size + 3 ≤ w4.heap.size := by have := hf4.size; rwa [hsz] at this
    clear hf4 hsz
    go_wp2_with fail
    refine (shapeOf_any _ 45 (bare0 r) _ hY.out).mono ?_
    rintro e w5 ⟨v2, rfl, hf5, ho2⟩
    rw [shV_bare, shR_bare] at *
    rw [shP_len, shO_bare] at ho2
    obtain ⟨A2, c2, rfl⟩ := owns_slice ho2
    have hz5 := hf5.size
    have hS : Fr (fun _ => False) w5 ((w5.alloc (.cells #[.slice A1 (shO r).length c1, .bool (shV r), .bool (shR r), .bool (shOk r)] 260)).alloc (.cells #[.slice A2 (shO r).length c2, .bool (shV r), .bool (shR r), .bool (shOk (bare0 r))] 260)) := ((Fr.refl _ _).alloc _).alloc _
    have hf6 := hf5.trans hS
    have HI := Lib.hid (⟨hF.out.trans hf6, hX.out.fr hf6 id, hZ.out.fr hf6 id, hY.out.fr hf6 id, ownsRow_keep ho1 (fun g e => hf6.block g (ho1.lt g e).2 id), ownsRow_keep (ownsRow_lower ho2 hz4) (fun g e => hS.block g (ho2.lt g e).2 id), heap_old (heap_alloc_new w5 _), heap_two, by omega⟩ : BaI w r w5.heap.size (shO r).length A1 A2 c1 c2 (bare0 r) ((w5.alloc (.cells #[.slice A1 (shO r).length c1, .bool (shV r), .bool (shR r), .bool (shOk r)] 260)).alloc (.cells #[.slice A2 (shO r).length c2, .bool (shV r), .bool (shR r), .bool (shOk (bare0 r))] 260)))
    clear E0 hS hf6 hf5 ho1 ho2 hX hY hZ hF
    go_wp2_with fail
    clear hz4 hz5
    go_loopw [26] (fun q wr => ∃ k : Nat, k ≤ (shO r).length ∧ q = .int .i64 k ∧ Hid (BaI w r w5.heap.size (shO r).length A1 A2 c1 c2 (copyO r ((shO r).take k) (bare0 r)) wr)) (fun q _ => (shO r).length - (intOf q).toNat)
    case atStart => exact ⟨0, Nat.zero_le _, rfl, HI⟩
    case round => as_aux_lemma =>
      clear HI
      obtain ⟨k, hkk, rfl, HI⟩ := hrel
      by_cases hlt : k < (shO r).length
      · obtain ⟨g1, d1, e1, hg1, hl1⟩ := owns_some HI.out.r1 (by omega)
        obtain ⟨g2, d2, e2, hg2, hl2⟩ := owns_some HI.out.r2 (by omega)
        injection e1 with e1 _ e3
        injection e2 with e2 _ e4
        subst e1 e2 e3 e4
        have ho := shO_at hlt
        have hp := row_cell HI.out.r1 rfl (k * 3) _ ((fieldCells_at (shP w.heap.size r) k (by rw [shP_len]; exact hlt) default 0 (by omega)).trans rfl)
        have hq := row_cell HI.out.r2 rfl (k * 3) _ ((fieldCells_at (shP (w.heap.size + 1 + 1) (bare0 r)) k (by rw [shP_len, shO_bare]; exact hlt) default 0 (by omega)).trans rfl)
        have hq1 := row_cell HI.out.r2 rfl (k * 3 + 1) _ ((fieldCells_at (shP (w.heap.size + 1 + 1) (bare0 r)) k (by rw [shP_len, shO_bare]; exact hlt) default 1 (by omega)).trans rfl)
        have hq2 := row_cell HI.out.r2 rfl (k * 3 + 2) _ ((fieldCells_at (shP (w.heap.size + 1 + 1) (bare0 r)) k (by rw [shP_len, shO_bare]; exact hlt) default 2 (by omega)).trans rfl)
        rw [shP_at _ _ _ hlt] at hp
        rw [shP_at _ _ _ (by rw [shO_bare]; exact hlt), shO_bare] at hq
        have hcs := copyO_succ r (bare0 r) (shO r) k hlt
        generalize (shO r).getD k 0 = o at *
        have hxo := (HI.out.x.num ho).1
        obtain ⟨hyc, hyo⟩ := HI.out.y.num ho
        have hxl := lt_of_block HI.out.x
        have hyl := lt_of_block HI.out.y
        have hsl := lt_of_block HI.out.s1
        have hs1 := cellOf HI.out.s1 0
        have HCS := Lib.hid hcs
        clear hcs
        go_wp2_with fail
        go_region
        have HI2 := Lib.hid (HI.out.set (ReplyAt.setNum (r := r) HI.out.y ho))
        have h2 := shO_len r
        go_wp2
        exact ⟨⟨k + 1, by omega, by go_num, by rw [HCS.out]; exact Lib.hid (HI2.out.stay (((Fr.refl _ _).alloc _).drew))⟩, by simp [intOf]; omega⟩
      · have hk2 : (shO r).take k = shO r := List.take_of_length_le (by omega)
        rw [hk2] at HI
        have HLT := Lib.hid hlt
        clear hk2 hlt
        have hbm : bareM r = { copyO r (shO r) (bare0 r) with verf := if shV r = true then r.verf else ⟨0, ByteArray.empty⟩, results := if shR r = true then r.results else ByteArray.empty } := rfl
        have HBM := Lib.hid hbm
        clear hbm
        generalize hyy : copyO r (shO r) (bare0 r) = y at HI HBM
        obtain ⟨y0, y1, y2, y3, y4, y5, y6, y7, y8, y9⟩ := box10 (Lib.hid (show _ = _ from HI.out.y))
        obtain ⟨x0, x1, x2, x3, x4, x5, x6, x7, x8, x9⟩ := box10 (Lib.hid (show _ = _ from HI.out.x))
        obtain ⟨z0, z1, z2, z3, z4, z5, z6, z7, z8, z9⟩ := box10 (Lib.hid (show _ = _ from HI.out.z))
        have s21 := cellOf HI.out.s2 1
        have s22 := cellOf HI.out.s2 2
        have hsl := lt_of_block HI.out.s2
        have hss := HI.out.hs
        have hyl := lt_of_block HI.out.y
        have hxl := lt_of_block HI.out.x
        have hf0 := fun i => freeOf HI.out.z i
        have hf1 := fun i => freeOf HI.out.y i
        have hyv : y.verf = ⟨0, ByteArray.empty⟩ ∧ y.results = ByteArray.empty := by rw [← hyy]; exact copyO_rest r
        have HYV := Lib.hid hyv
        clear hyv hyy
        have hV : shV r = false := by simp [shV, hd]
        have hR : shR r = false := by simp [shR, hd]
        rw [hV] at s21 HBM
        rw [hR] at s22 HBM
        clear hV hR
        go_upto_region 15 with fail
        refine wp_copy_row (w.heap.size + 1 + 1) (w.heap.size + 1) 45 45 (replyCells y) (replyCells zeroReply) _ rfl HI.out.y rfl rfl HI.out.z Tryz.underlying45 (by kernel_rfl) rfl (replyCells_one _) ?_
        intro w9 hb9 hf9 hs9
        have HB9 := Lib.hid hb9
        have HF9 := Lib.hid (HI.out.fr.then hf9 (fun i hi e => by omega))
        clear hb9 hf9 HI y0 y1 y2 y3 y4 y5 y6 y7 y8 y9 x0 x1 x2 x3 x4 x5 x6 x7 x8 x9 z0 z1 z2 z3 z4 z5 z6 z7 z8 z9 s21 s22 hf0 hf1
        go_wp2
        refine bodyPost_ret (results_cell_row rfl _ _ _ _ _ _ _ rfl HB9.out Tryz.underlying45 rfl (by kernel_rfl)) rfl ⟨?_, HF9.out⟩
        obtain ⟨e1, e2⟩ := HYV.out
        have hy : y = bareM r := by rw [HBM.out]; cases y; simp only at e1 e2; subst e1 e2; rfl
        rw [← hy]; rfl
  · rw [Bool.not_eq_true] at hd
    have E0 : Hid (bare0 r = { zeroReply with xid := r.xid, denied := false, accept := r.accept }) := Lib.hid (if_neg (by rw [hd]; simp))
    have hX := Lib.hid (show ReplyAt (((w.alloc (Obj.cells #[.int .i64 r.xid, .bool false, .int .i64 r.verf.flavor, .string r.verf.body, .int .i64 r.accept, .int .i64 r.reject, .int .i64 r.why, .int .i64 r.low, .int .i64 r.high, .string r.results] 45 (0, 0))).alloc (Obj.cells #[.int .i64 0, .bool false, .int .i64 0, .string ByteArray.empty, .int .i64 0, .int .i64 0, .int .i64 0, .int .i64 0, .int .i64 0, .string ByteArray.empty] 45 (0, 0))).alloc (Obj.cells #[.int .i64 r.xid, .bool false, .int .i64 0, .string ByteArray.empty, .int .i64 r.accept, .int .i64 0, .int .i64 0, .int .i64 0, .int .i64 0, .string ByteArray.empty] 45 (0, 0))) w.heap.size 45 r by unfold ReplyAt; rw [hd]; exact heap_old (heap_old (heap_alloc_new w _)))
    have hZ := Lib.hid (show ReplyAt (((w.alloc (Obj.cells #[.int .i64 r.xid, .bool false, .int .i64 r.verf.flavor, .string r.verf.body, .int .i64 r.accept, .int .i64 r.reject, .int .i64 r.why, .int .i64 r.low, .int .i64 r.high, .string r.results] 45 (0, 0))).alloc (Obj.cells #[.int .i64 0, .bool false, .int .i64 0, .string ByteArray.empty, .int .i64 0, .int .i64 0, .int .i64 0, .int .i64 0, .int .i64 0, .string ByteArray.empty] 45 (0, 0))).alloc (Obj.cells #[.int .i64 r.xid, .bool false, .int .i64 0, .string ByteArray.empty, .int .i64 r.accept, .int .i64 0, .int .i64 0, .int .i64 0, .int .i64 0, .string ByteArray.empty] 45 (0, 0))) (w.heap.size + 1) 45 zeroReply from heap_old heap_two)
    have hY := Lib.hid (show ReplyAt (((w.alloc (Obj.cells #[.int .i64 r.xid, .bool false, .int .i64 r.verf.flavor, .string r.verf.body, .int .i64 r.accept, .int .i64 r.reject, .int .i64 r.why, .int .i64 r.low, .int .i64 r.high, .string r.results] 45 (0, 0))).alloc (Obj.cells #[.int .i64 0, .bool false, .int .i64 0, .string ByteArray.empty, .int .i64 0, .int .i64 0, .int .i64 0, .int .i64 0, .int .i64 0, .string ByteArray.empty] 45 (0, 0))).alloc (Obj.cells #[.int .i64 r.xid, .bool false, .int .i64 0, .string ByteArray.empty, .int .i64 r.accept, .int .i64 0, .int .i64 0, .int .i64 0, .int .i64 0, .string ByteArray.empty] 45 (0, 0))) (w.heap.size + 1 + 1) 45 (bare0 r) by rw [E0.out]; exact heap_three)
    have hF := Lib.hid (show Fr (fun _ => False) w (((w.alloc (Obj.cells #[.int .i64 r.xid, .bool false, .int .i64 r.verf.flavor, .string r.verf.body, .int .i64 r.accept, .int .i64 r.reject, .int .i64 r.why, .int .i64 r.low, .int .i64 r.high, .string r.results] 45 (0, 0))).alloc (Obj.cells #[.int .i64 0, .bool false, .int .i64 0, .string ByteArray.empty, .int .i64 0, .int .i64 0, .int .i64 0, .int .i64 0, .int .i64 0, .string ByteArray.empty] 45 (0, 0))).alloc (Obj.cells #[.int .i64 r.xid, .bool false, .int .i64 0, .string ByteArray.empty, .int .i64 r.accept, .int .i64 0, .int .i64 0, .int .i64 0, .int .i64 0, .string ByteArray.empty] 45 (0, 0))) from (((Fr.refl _ _).alloc _).alloc _).alloc _)
    have hsz : (((w.alloc (Obj.cells #[.int .i64 r.xid, .bool false, .int .i64 r.verf.flavor, .string r.verf.body, .int .i64 r.accept, .int .i64 r.reject, .int .i64 r.why, .int .i64 r.low, .int .i64 r.high, .string r.results] 45 (0, 0))).alloc (Obj.cells #[.int .i64 0, .bool false, .int .i64 0, .string ByteArray.empty, .int .i64 0, .int .i64 0, .int .i64 0, .int .i64 0, .int .i64 0, .string ByteArray.empty] 45 (0, 0))).alloc (Obj.cells #[.int .i64 r.xid, .bool false, .int .i64 0, .string ByteArray.empty, .int .i64 r.accept, .int .i64 0, .int .i64 0, .int .i64 0, .int .i64 0, .string ByteArray.empty] 45 (0, 0))).heap.size = w.heap.size + 3 := by simp
    go_enter Tryz.func220, Tryz.ntmps220
    go_wp2_with fail
    refine (shapeOf_any _ 45 r _ hX.out).mono ?_
    rintro e w4 ⟨v1, rfl, hf4, ho1⟩
    rw [hsz, shP_len] at ho1
    obtain ⟨A1, c1, rfl⟩ := owns_slice ho1
    replace hX := Lib.hid (hX.out.fr hf4 id)
    replace hY := Lib.hid (hY.out.fr hf4 id)
    replace hZ := Lib.hid (hZ.out.fr hf4 id)
    replace hF := Lib.hid (hF.out.trans hf4)
    have hz4 : w.heap.size + 3 ≤ w4.heap.size := by have := hf4.size; rwa [hsz] at this
    clear hf4 hsz
    go_wp2_with fail
    refine (shapeOf_any _ 45 (bare0 r) _ hY.out).mono ?_
    rintro e w5 ⟨v2, rfl, hf5, ho2⟩
    rw [shV_bare, shR_bare] at *
    rw [shP_len, shO_bare] at ho2
    obtain ⟨A2, c2, rfl⟩ := owns_slice ho2
    have hz5 := hf5.size
    have hS : Fr (fun _ => False) w5 ((w5.alloc (.cells #[.slice A1 (shO r).length c1, .bool (shV r), .bool (shR r), .bool (shOk r)] 260)).alloc (.cells #[.slice A2 (shO r).length c2, .bool (shV r), .bool (shR r), .bool (shOk (bare0 r))] 260)) := ((Fr.refl _ _).alloc _).alloc _
    have hf6 := hf5.trans hS
    have HI := Lib.hid (⟨hF.out.trans hf6, hX.out.fr hf6 id, hZ.out.fr hf6 id, hY.out.fr hf6 id, ownsRow_keep ho1 (fun g e => hf6.block g (ho1.lt g e).2 id), ownsRow_keep (ownsRow_lower ho2 hz4) (fun g e => hS.block g (ho2.lt g e).2 id), heap_old (heap_alloc_new w5 _), heap_two, by omega⟩ : BaI w r w5.heap.size (shO r).length A1 A2 c1 c2 (bare0 r) ((w5.alloc (.cells #[.slice A1 (shO r).length c1, .bool (shV r), .bool (shR r), .bool (shOk r)] 260)).alloc (.cells #[.slice A2 (shO r).length c2, .bool (shV r), .bool (shR r), .bool (shOk (bare0 r))] 260)))
    clear E0 hS hf6 hf5 ho1 ho2 hX hY hZ hF
    go_wp2_with fail
    clear hz4 hz5
    go_loopw [26] (fun q wr => ∃ k : Nat, k ≤ (shO r).length ∧ q = .int .i64 k ∧ Hid (BaI w r w5.heap.size (shO r).length A1 A2 c1 c2 (copyO r ((shO r).take k) (bare0 r)) wr)) (fun q _ => (shO r).length - (intOf q).toNat)
    case atStart => exact ⟨0, Nat.zero_le _, rfl, HI⟩
    case round => as_aux_lemma =>
      clear HI
      obtain ⟨k, hkk, rfl, HI⟩ := hrel
      by_cases hlt : k < (shO r).length
      · obtain ⟨g1, d1, e1, hg1, hl1⟩ := owns_some HI.out.r1 (by omega)
        obtain ⟨g2, d2, e2, hg2, hl2⟩ := owns_some HI.out.r2 (by omega)
        injection e1 with e1 _ e3
        injection e2 with e2 _ e4
        subst e1 e2 e3 e4
        have ho := shO_at hlt
        have hp := row_cell HI.out.r1 rfl (k * 3) _ ((fieldCells_at (shP w.heap.size r) k (by rw [shP_len]; exact hlt) default 0 (by omega)).trans rfl)
        have hq := row_cell HI.out.r2 rfl (k * 3) _ ((fieldCells_at (shP (w.heap.size + 1 + 1) (bare0 r)) k (by rw [shP_len, shO_bare]; exact hlt) default 0 (by omega)).trans rfl)
        have hq1 := row_cell HI.out.r2 rfl (k * 3 + 1) _ ((fieldCells_at (shP (w.heap.size + 1 + 1) (bare0 r)) k (by rw [shP_len, shO_bare]; exact hlt) default 1 (by omega)).trans rfl)
        have hq2 := row_cell HI.out.r2 rfl (k * 3 + 2) _ ((fieldCells_at (shP (w.heap.size + 1 + 1) (bare0 r)) k (by rw [shP_len, shO_bare]; exact hlt) default 2 (by omega)).trans rfl)
        rw [shP_at _ _ _ hlt] at hp
        rw [shP_at _ _ _ (by rw [shO_bare]; exact hlt), shO_bare] at hq
        have hcs := copyO_succ r (bare0 r) (shO r) k hlt
        generalize (shO r).getD k 0 = o at *
        have hxo := (HI.out.x.num ho).1
        obtain ⟨hyc, hyo⟩ := HI.out.y.num ho
        have hxl := lt_of_block HI.out.x
        have hyl := lt_of_block HI.out.y
        have hsl := lt_of_block HI.out.s1
        have hs1 := cellOf HI.out.s1 0
        have HCS := Lib.hid hcs
        clear hcs
        go_wp2_with fail
        go_region
        have HI2 := Lib.hid (HI.out.set (ReplyAt.setNum (r := r) HI.out.y ho))
        have h2 := shO_len r
        go_wp2
        exact ⟨⟨k + 1, by omega, by go_num, by rw [HCS.out]; exact Lib.hid (HI2.out.stay (((Fr.refl _ _).alloc _).drew))⟩, by simp [intOf]; omega⟩
      · have hk2 : (shO r).take k = shO r := List.take_of_length_le (by omega)
        rw [hk2] at HI
        have HLT := Lib.hid hlt
        clear hk2 hlt
        have hbm : bareM r = { copyO r (shO r) (bare0 r) with verf := if shV r = true then r.verf else ⟨0, ByteArray.empty⟩, results := if shR r = true then r.results else ByteArray.empty } := rfl
        have HBM := Lib.hid hbm
        clear hbm
        generalize hyy : copyO r (shO r) (bare0 r) = y at HI HBM
        obtain ⟨y0, y1, y2, y3, y4, y5, y6, y7, y8, y9⟩ := box10 (Lib.hid (show _ = _ from HI.out.y))
        obtain ⟨x0, x1, x2, x3, x4, x5, x6, x7, x8, x9⟩ := box10 (Lib.hid (show _ = _ from HI.out.x))
        obtain ⟨z0, z1, z2, z3, z4, z5, z6, z7, z8, z9⟩ := box10 (Lib.hid (show _ = _ from HI.out.z))
        have s21 := cellOf HI.out.s2 1
        have s22 := cellOf HI.out.s2 2
        have hsl := lt_of_block HI.out.s2
        have hss := HI.out.hs
        have hyl := lt_of_block HI.out.y
        have hxl := lt_of_block HI.out.x
        have hf0 := fun i => freeOf HI.out.z i
        have hf1 := fun i => freeOf HI.out.y i
        have hyv : y.verf = ⟨0, ByteArray.empty⟩ ∧ y.results = ByteArray.empty := by rw [← hyy]; exact copyO_rest r
        have HYV := Lib.hid hyv
        clear hyv hyy
        by_cases hR : shR r = true
        · have hV : shV r = true := by simp [shR, hd] at hR; simp [shV, hd, hR]
          rw [hV] at s21 HBM
          rw [hR] at s22 HBM
          clear hV hR
          go_upto_region 15 with fail
          have HI1 := Lib.hid (BaI.set (i := 2) (v := .int .i64 r.verf.flavor) (y' := { y with verf := ⟨r.verf.flavor, y.verf.body⟩ }) HI.out ((setOf' HI.out.y 2 _).trans rfl))
          have HI2 := Lib.hid (BaI.set (i := 3) (v := .string r.verf.body) (y' := { y with verf := r.verf }) HI1.out ((setOf' HI1.out.y 3 _).trans rfl))
          have HI3 := Lib.hid (BaI.set (i := 9) (v := .string r.results) (y' := { y with verf := r.verf, results := r.results }) HI2.out ((setOf' HI2.out.y 9 _).trans rfl))
          refine wp_copy_row (w.heap.size + 1 + 1) (w.heap.size + 1) 45 45 (replyCells { y with verf := r.verf, results := r.results }) (replyCells zeroReply) _ rfl HI3.out.y rfl rfl HI3.out.z Tryz.underlying45 (by kernel_rfl) rfl (replyCells_one _) ?_
          intro w9 hb9 hf9 hs9
          have HB9 := Lib.hid hb9
          have HF9 := Lib.hid (HI3.out.fr.then hf9 (fun i hi e => by omega))
          clear hb9 hf9 HI3 HI2 HI1 HI y0 y1 y2 y3 y4 y5 y6 y7 y8 y9 x0 x1 x2 x3 x4 x5 x6 x7 x8 x9 z0 z1 z2 z3 z4 z5 z6 z7 z8 z9 s21 s22 hf0 hf1
          go_wp2
          refine bodyPost_ret (results_cell_row rfl _ _ _ _ _ _ _ rfl HB9.out Tryz.underlying45 rfl (by kernel_rfl)) rfl ⟨?_, HF9.out⟩
          obtain ⟨e1, e2⟩ := HYV.out
          have hy : { y with verf := r.verf, results := r.results } = bareM r := by rw [HBM.out]; cases y; simp only at e1 e2; subst e1 e2; rfl
          rw [← hy]; rfl
        · rw [Bool.not_eq_true] at hR
          by_cases hV : shV r = true
          ·
            rw [hV] at s21 HBM
            rw [hR] at s22 HBM
            clear hV hR
            go_upto_region 15 with fail
            have HI1 := Lib.hid (BaI.set (i := 2) (v := .int .i64 r.verf.flavor) (y' := { y with verf := ⟨r.verf.flavor, y.verf.body⟩ }) HI.out ((setOf' HI.out.y 2 _).trans rfl))
            have HI2 := Lib.hid (BaI.set (i := 3) (v := .string r.verf.body) (y' := { y with verf := r.verf }) HI1.out ((setOf' HI1.out.y 3 _).trans rfl))
            refine wp_copy_row (w.heap.size + 1 + 1) (w.heap.size + 1) 45 45 (replyCells { y with verf := r.verf }) (replyCells zeroReply) _ rfl HI2.out.y rfl rfl HI2.out.z Tryz.underlying45 (by kernel_rfl) rfl (replyCells_one _) ?_
            intro w9 hb9 hf9 hs9
            have HB9 := Lib.hid hb9
            have HF9 := Lib.hid (HI2.out.fr.then hf9 (fun i hi e => by omega))
            clear hb9 hf9 HI2 HI1 HI y0 y1 y2 y3 y4 y5 y6 y7 y8 y9 x0 x1 x2 x3 x4 x5 x6 x7 x8 x9 z0 z1 z2 z3 z4 z5 z6 z7 z8 z9 s21 s22 hf0 hf1
            go_wp2
            refine bodyPost_ret (results_cell_row rfl _ _ _ _ _ _ _ rfl HB9.out Tryz.underlying45 rfl (by kernel_rfl)) rfl ⟨?_, HF9.out⟩
            obtain ⟨e1, e2⟩ := HYV.out
            have hy : { y with verf := r.verf } = bareM r := by rw [HBM.out]; cases y; simp only at e1 e2; subst e1 e2; rfl
            rw [← hy]; rfl
          · rw [Bool.not_eq_true] at hV
            rw [hV] at s21 HBM
            rw [hR] at s22 HBM
            clear hV hR
            go_upto_region 15 with fail
            refine wp_copy_row (w.heap.size + 1 + 1) (w.heap.size + 1) 45 45 (replyCells y) (replyCells zeroReply) _ rfl HI.out.y rfl rfl HI.out.z Tryz.underlying45 (by kernel_rfl) rfl (replyCells_one _) ?_
            intro w9 hb9 hf9 hs9
            have HB9 := Lib.hid hb9
            have HF9 := Lib.hid (HI.out.fr.then hf9 (fun i hi e => by omega))
            clear hb9 hf9 HI y0 y1 y2 y3 y4 y5 y6 y7 y8 y9 x0 x1 x2 x3 x4 x5 x6 x7 x8 x9 z0 z1 z2 z3 z4 z5 z6 z7 z8 z9 s21 s22 hf0 hf1
            go_wp2
            refine bodyPost_ret (results_cell_row rfl _ _ _ _ _ _ _ rfl HB9.out Tryz.underlying45 rfl (by kernel_rfl)) rfl ⟨?_, HF9.out⟩
            obtain ⟨e1, e2⟩ := HYV.out
            have hy : y = bareM r := by rw [HBM.out]; cases y; simp only at e1 e2; subst e1 e2; rfl
            rw [← hy]; rfl
end Go.Proofs.YtbegjpmifcnieaaGreatDoor
