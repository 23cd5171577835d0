/- The document's messages (callboxref12): what is read. -/
import Derived.Test.YtcndifccbkekhaaGreatDoorRl
import Derived.Test.YtcndifccbkekhaaGreatDoorR4
namespace Go.Proofs.YtcndifccbkekhaaGreatDoor
open Go.RowKit
set_option linter.unusedVariables false
set_option linter.unusedSimpArgs false

/-- the document's Reader that was made since a world, and boxes beside it. -/
structure QBo (w0 : World) (b : Nat) (B : List (Nat × Obj)) (w : World) (st : RSt) : Prop where
  rd : RRd w b st
  fr : Fr (fun _ => False) w0 w
  box : ∀ p ∈ B, w.heap[p.1]? = some p.2 ∧ p.1 ≠ b ∧ w0.heap.size ≤ p.1
  new : w0.heap.size ≤ b
section
variable {w0 w w' : World} {b : Nat} {B : List (Nat × Obj)} {st st' : RSt}
theorem QBo.at (h : QBo w0 b B w st) (i : Nat) {k : Nat} {o : Obj} (hi : B[i]? = some (k, o)) : w.heap[k]? = some o := (h.box (k, o) (List.mem_of_getElem? hi)).1
theorem QBo.stay (h : QBo w0 b B w st) (hf : Fr (fun _ => False) w w') : QBo w0 b B w' st :=
  ⟨h.rd.fr hf id, h.fr.trans hf, fun p hp => ⟨(hf.block _ (lt_of_block (h.box p hp).1) id).trans (h.box p hp).1, (h.box p hp).2⟩, h.new⟩
theorem QBo.step (h : QBo w0 b B w st) (hf : Fr (fun k => k = b) w w') (hr : RRd w' b st') : QBo w0 b B w' st' :=
  ⟨hr, h.fr.then hf (fun i hi e => by have := h.new; omega), fun p hp => ⟨(hf.block _ (lt_of_block (h.box p hp).1) (h.box p hp).2.1).trans (h.box p hp).1, (h.box p hp).2⟩, h.new⟩
theorem QBo.more (h : QBo w0 b B w st) (o : Obj) {n : Nat} (hn : n = w.heap.size) : QBo w0 b ((n, o) :: B) (w.alloc o) st := by
  subst hn
  have h2 := h.stay (w' := w.alloc o) ((Fr.refl _ _).alloc o)
  refine ⟨h2.rd, h2.fr, fun p hp => ?_, h2.new⟩
  rcases List.mem_cons.1 hp with rfl | hp
  · exact ⟨heap_alloc_new w o, by have := h.rd.lt; show w.heap.size ≠ b; omega, h.fr.size⟩
  · exact h2.box p hp
theorem QBo.row (h : QBo w0 b B w st) (hf : Fr (fun _ => False) w w') {g : Nat} (hg : w.heap.size ≤ g) (hl : g < w'.heap.size) : ∃ o, QBo w0 b ((g, o) :: B) w' st := by
  have h2 := h.stay hf
  refine ⟨w'.heap[g], h2.rd, h2.fr, fun p hp => ?_, h2.new⟩
  rcases List.mem_cons.1 hp with rfl | hp
  · exact ⟨Array.getElem?_eq_getElem hl, by have := h.rd.lt; show g ≠ b; omega, by have := h.fr.size; show _ ≤ g; omega⟩
  · exact h2.box p hp
theorem QBo.sub {B' : List (Nat × Obj)} (h : QBo w0 b B w st) (hs : ∀ p ∈ B', p ∈ B) : QBo w0 b B' w st := ⟨h.rd, h.fr, fun p hp => h.box p (hs p hp), h.new⟩
theorem QBo.less {p : Nat × Obj} (h : QBo w0 b (p :: B) w st) : QBo w0 b B w st := ⟨h.rd, h.fr, fun q hq => h.box q (List.mem_cons_of_mem _ hq), h.new⟩
/-- some boxes written: what they hold then is said anew. -/
theorem QBo.move (h : QBo w0 b B w st) {W : World} {B' : List (Nat × Obj)} (hW : Fr (fun k => w0.heap.size ≤ k) w W) (hf : Fr (fun k => k = b) W w') (hr : RRd w' b st') (hB : ∀ p ∈ B', W.heap[p.1]? = some p.2 ∧ ∃ o, (p.1, o) ∈ B) : QBo w0 b B' w' st' := by
  refine ⟨hr, (h.fr.then hW (fun i hi e => by omega)).then hf (fun i hi e => by have := h.new; omega), fun p hp => ?_, h.new⟩
  obtain ⟨h1, o, h2⟩ := hB p hp
  have h3 := h.box _ h2
  exact ⟨(hf.block _ (lt_of_block h1) h3.2.1).trans h1, h3.2⟩
theorem QBo.set (h : QBo w0 b B w st) {W : World} {B' : List (Nat × Obj)} (hW : Fr (fun k => w0.heap.size ≤ k) w W) (hr : RRd W b st) (hB : ∀ p ∈ B', W.heap[p.1]? = some p.2 ∧ ∃ o, (p.1, o) ∈ B) : QBo w0 b B' W st :=
  h.move hW (Fr.refl _ _) hr hB
theorem QBo.put {B1 B2 : List (Nat × Obj)} {C T : Nat} {cs : Array Value} (h : QBo w0 b (B1 ++ (C, .cells cs T (0, 0)) :: B2) w st) (hd : ∀ p ∈ B1 ++ B2, p.1 ≠ C) (j : Nat) (v : Value) :
    QBo w0 b (B1 ++ (C, .cells (cs.setIfInBounds j v) T (0, 0)) :: B2) (w.setCell ⟨C, j, none⟩ v) st := by
  have hC := h.box (C, .cells cs T (0, 0)) (by simp)
  refine ⟨h.rd.keep (Below.heap_setCell _ _ _ _ (fun e => hC.2.1 e.symm)), h.fr.setCell (.inr hC.2.2) v, fun p hp => ?_, h.new⟩
  rcases List.mem_append.1 hp with hp1 | hp2
  · have := h.box p (List.mem_append_left _ hp1)
    exact ⟨(Below.heap_setCell _ _ _ _ (hd p (List.mem_append_left _ hp1))).trans this.1, this.2⟩
  · rcases List.mem_cons.1 hp2 with rfl | hp2
    · exact ⟨setOf' hC.1 j v, hC.2⟩
    · have := h.box p (List.mem_append_right _ (List.mem_cons_of_mem _ hp2))
      exact ⟨(Below.heap_setCell _ _ _ _ (hd p (List.mem_append_right _ hp2))).trans this.1, this.2⟩
end

set_option maxRecDepth 100000 in
set_option maxHeartbeats 2000000 in
theorem rreadAuth_any {b : Nat} {st : RSt} (w : World) (h : RRd w b st) :
    Calls Tryz.prog 117 #[.pointer (some ⟨b, 0, none⟩)] w fun r w' => r = .returned (.agg #[.int .i64 st.authV.flavor, .string st.authV.body]) ∧ Fr (fun k => k = b) w w' ∧ RRd w' b st.authS := by
  have hlt := h.lt
  have h0 := h.fr (S := fun _ => False) ((Fr.refl _ _).alloc (.cells #[.int .i64 0, .string ByteArray.empty] 23)) id
  have hx := Lib.hid (heap_alloc_new w (.cells #[.int .i64 0, .string ByteArray.empty] 23))
  go_enter Tryz.func117, Tryz.ntmps117
  go_wp2_with fail
  refine (rRUint_any _ h0).mono ?_
  rintro e w1 ⟨rfl, hf1, h1⟩
  have hx := hidMove hx hf1 (by omega)
  go_wp2_with fail
  refine (rROpaque_any 400 _ h1).mono ?_
  rintro e w2 ⟨rfl, hf2, h2⟩
  have hx := hidMove hx hf2 (by omega)
  obtain ⟨x0, x1, f0, f1⟩ := box2 hx
  have hl := lt_of_block hx.out
  have h3 : RRd ((w2.setCell ⟨w.heap.size, 0, none⟩ (.int .i64 st.uintV)).setCell ⟨w.heap.size, 1, none⟩ (.string (st.uint.opaqueV 400))) b st.authS := (h2.keep (Below.heap_setCell _ _ _ _ (by show b ≠ w.heap.size; omega))).keep (Below.heap_setCell _ _ _ _ (by show b ≠ w.heap.size; omega))
  have H3 := Lib.hid h3
  have hfr : Fr (fun k => k = b) w w2 := (((Fr.refl _ _).alloc _).trans hf1).trans hf2
  have HF := Lib.hid hfr
  clear h h0 h1 h2 h3 hfr hf1 hf2
  go_wp2
  refine bodyPost_ret (v := .agg #[.int .i64 st.authV.flavor, .string st.authV.body]) ?_ rfl ⟨rfl, (HF.out.setCell (.inr (Nat.le_refl _)) _).setCell (.inr (Nat.le_refl _)) _, H3.out⟩
  simp [results, Tryz.results117, go_sem, x0, x1, hl, RSt.authV]

theorem callV_small (s : ByteArray) : (RSt.mk s 0).callV.cred.body.size ≤ s.size ∧ (RSt.mk s 0).callV.verf.body.size ≤ s.size ∧ (RSt.mk s 0).callV.args.size ≤ s.size :=
  ⟨Nat.le_trans (authV_le _) (Nat.le_trans (three_le _) (three_le (RSt.mk s 0))), Nat.le_trans (authV_le _) (Nat.le_trans (authS_le _) (Nat.le_trans (three_le _) (three_le (RSt.mk s 0)))), restV_size s _ (Nat.le_refl _)⟩
theorem rReply_small (s : ByteArray) : (RSt.mk s 0).rReply.verf.body.size ≤ s.size ∧ (RSt.mk s 0).rReply.results.size ≤ s.size := by
  have h3 := three_le (RSt.mk s 0)
  have hA := Nat.le_trans (authV_le (RSt.mk s 0).three) h3
  have hS := Nat.le_trans (authS_le (RSt.mk s 0).three) h3
  unfold RSt.rReply RSt.rDenied RSt.rAccept
  split
  · split <;> exact ⟨Nat.zero_le _, Nat.zero_le _⟩
  · split
    · exact ⟨hA, Nat.le_trans (restV_le _) (Nat.le_trans (three_le _) hS)⟩
    · exact ⟨hA, Nat.le_trans (restV_le _) (Nat.le_trans (uint_le _) hS)⟩
end Go.Proofs.YtcndifccbkekhaaGreatDoor
