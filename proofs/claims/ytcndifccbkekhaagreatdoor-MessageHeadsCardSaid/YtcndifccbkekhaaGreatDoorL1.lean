/- callboxlaw12: calls that may be, of raw ones. -/
import Derived.Test.YtcndifccbkekhaaGreatDoorLb
import Derived.Test.YtcndifccbkekhaaGreatDoorRl
import Derived.Test.YtcndifccbkekhaaGreatDoorPc
import Derived.Test.YtcndifccbkekhaaGreatDoorR4
import Derived.Deep.RegionHeld3
namespace Go.Proofs.YtcndifccbkekhaaGreatDoor
open Go.RowKit
set_option linter.unusedVariables false
set_option linter.unusedSimpArgs false

/-- boxes that were made since a world. -/
structure ABo (w0 : World) (B : List (Nat × Obj)) (w : World) : Prop where
  fr : Fr (fun _ => False) w0 w
  box : ∀ p ∈ B, w.heap[p.1]? = some p.2 ∧ w0.heap.size ≤ p.1
section
variable {w0 w w' : World} {B : List (Nat × Obj)}
theorem ABo.at (h : ABo w0 B w) (i : Nat) {k : Nat} {o : Obj} (hi : B[i]? = some (k, o)) : w.heap[k]? = some o := (h.box (k, o) (List.mem_of_getElem? hi)).1
theorem ABo.stay (h : ABo w0 B w) (hf : Fr (fun _ => False) w w') : ABo w0 B w' :=
  ⟨h.fr.trans hf, fun p hp => ⟨(hf.block _ (lt_of_block (h.box p hp).1) id).trans (h.box p hp).1, (h.box p hp).2⟩⟩
theorem ABo.start (w : World) : ABo w [] w := ⟨Fr.refl _ _, fun _ h => nomatch h⟩
theorem ABo.more (h : ABo w0 B w) (o : Obj) {n : Nat} (hn : n = w.heap.size) : ABo w0 ((n, o) :: B) (w.alloc o) := by
  subst hn
  have h2 := h.stay (w' := w.alloc o) ((Fr.refl _ _).alloc o)
  refine ⟨h2.fr, fun p hp => ?_⟩
  rcases List.mem_cons.1 hp with rfl | hp
  · exact ⟨heap_alloc_new w o, h.fr.size⟩
  · exact h2.box p hp
theorem ABo.put {B1 B2 : List (Nat × Obj)} {C T : Nat} {cs : Array Value} (h : ABo w0 (B1 ++ (C, .cells cs T (0, 0)) :: B2) w) (hd : ∀ p ∈ B1 ++ B2, p.1 ≠ C) (j : Nat) (v : Value) :
    ABo w0 (B1 ++ (C, .cells (cs.setIfInBounds j v) T (0, 0)) :: B2) (w.setCell ⟨C, j, none⟩ v) := by
  have hC := h.box (C, .cells cs T (0, 0)) (by simp)
  refine ⟨h.fr.setCell (.inr hC.2) v, fun p hp => ?_⟩
  rcases List.mem_append.1 hp with hp1 | hp2
  · have := h.box p (List.mem_append_left _ hp1)
    exact ⟨(Below.heap_setCell _ _ _ _ (hd p (List.mem_append_left _ hp1))).trans this.1, this.2⟩
  · rcases List.mem_cons.1 hp2 with rfl | hp2
    · exact ⟨setOf' hC.1 j v, hC.2⟩
    · have := h.box p (List.mem_append_right _ (List.mem_cons_of_mem _ hp2))
      exact ⟨(Below.heap_setCell _ _ _ _ (hd p (List.mem_append_right _ hp2))).trans this.1, this.2⟩
theorem ABo.sub {B' : List (Nat × Obj)} (h : ABo w0 B w) (hs : ∀ p ∈ B', p ∈ B) : ABo w0 B' w := ⟨h.fr, fun p hp => h.box p (hs p hp)⟩
theorem ABo.drew (h : ABo w0 B w) : ABo w0 B w.drew := h.stay (Fr.refl _ _).drew
end

set_option maxRecDepth 100000 in
set_option maxHeartbeats 4000000 in
theorem auth12_any (a : AuthM) (w : World) (hf : InI a.flavor) (hs : a.body.size ≤ 140737488351232) :
    Calls Tryz.prog 81 #[.agg #[.int .i64 a.flavor, .string a.body]] w fun r w' => r = .returned (.agg #[.int .i64 (authPM a).flavor, .string (authPM a).body]) ∧ Fr (fun _ => False) w w' := by
  have hx := Lib.hid (heap_old (o := .cells #[.int .i64 0, .string ByteArray.empty] 23) (heap_alloc_new w (.cells #[.int .i64 a.flavor, .string a.body] 23)))
  have hz := Lib.hid (heap_two (w := w) (a := .cells #[.int .i64 a.flavor, .string a.body] 23) (b := .cells #[.int .i64 0, .string ByteArray.empty] 23))
  have HP := Lib.hid (fun w => pick_any a.flavor 4294967296 w hf (by decide) (by decide))
  have hN : Hid ((authPM a).body = a.body.extract 0 (min a.body.size 400)) := Lib.hid rfl
  have hF : Hid ((authPM a).flavor = pickM a.flavor 4294967296) := Lib.hid rfl
  generalize pickM a.flavor 4294967296 = fl at HP hF
  by_cases hm : a.body.size ≤ 400
  · have e1 : min (a.body.size : Int) 400 = a.body.size := by omega
    rw [Nat.min_eq_left hm, extract_all] at hN
    rw [hN.out, hF.out]
    clear hN hF
    obtain ⟨x0, x1, _, _⟩ := box2 hx
    obtain ⟨z0, z1, f0, f1⟩ := box2 hz
    go_enter Tryz.func81, Tryz.ntmps81
    go_upto_region 1 with fail
    go_region_held3 (fun w' => w'.cell? ⟨w.heap.size, 0, none⟩ = some (.int .i64 a.flavor) ∧ w'.cell? ⟨w.heap.size, 1, none⟩ = some (.string a.body)) (first | exact ⟨x0, x1⟩ | (simp [x0, x1]; done)) (first | (go_at_call 39; refine (HP.out _).mono ?_; rintro e w4 ⟨rfl, rfl⟩))
    all_goals
      go_wp2
      have hzz := heap_two (w := w) (a := .cells #[.int .i64 a.flavor, .string a.body] 23) (b := .cells #[.int .i64 fl, .string a.body] 23)
      exact bodyPost_ret (results_cell_row rfl _ _ _ _ _ _ _ rfl (show _ = _ from hzz) Tryz.underlying23 rfl (by kernel_rfl)) rfl ⟨rfl, (((Fr.refl _ _).alloc _).alloc _).drew⟩
  · have e1 : min (a.body.size : Int) 400 = 400 := by omega
    have e2 : (400 : Int) ≤ (a.body.size : Int) := by omega
    rw [Nat.min_eq_right (by omega)] at hN
    rw [hN.out, hF.out]
    clear hN hF hm
    obtain ⟨x0, x1, _, _⟩ := box2 hx
    obtain ⟨z0, z1, f0, f1⟩ := box2 hz
    go_enter Tryz.func81, Tryz.ntmps81
    go_upto_region 1 with fail
    go_region_held3 (fun w' => w'.cell? ⟨w.heap.size, 0, none⟩ = some (.int .i64 a.flavor) ∧ w'.cell? ⟨w.heap.size, 1, none⟩ = some (.string a.body)) (first | exact ⟨x0, x1⟩ | (simp [x0, x1]; done)) (first | (go_at_call 39; refine (HP.out _).mono ?_; rintro e w4 ⟨rfl, rfl⟩))
    all_goals
      go_wp2
      have hzz := heap_two (w := w) (a := .cells #[.int .i64 a.flavor, .string a.body] 23) (b := .cells #[.int .i64 fl, .string (a.body.extract 0 400)] 23)
      exact bodyPost_ret (results_cell_row rfl _ _ _ _ _ _ _ rfl (show _ = _ from hzz) Tryz.underlying23 rfl (by kernel_rfl)) rfl ⟨rfl, (((Fr.refl _ _).alloc _).alloc _).drew⟩
structure CallI (c : CallM) : Prop where
  xid : InI c.xid
  prog : InI c.prog
  vers : InI c.vers
  proc : InI c.proc
  cred : InI c.cred.flavor
  verf : InI c.verf.flavor
end Go.Proofs.YtcndifccbkekhaaGreatDoor
