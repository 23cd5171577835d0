/- The document's credentials (callboxref11): how they are read. -/
import Derived.Test.YtcooijhndiainaaGreatDoorR6
import Derived.Test.YtcooijhndiainaaGreatDoorPw
import Derived.Test.YtcooijhndiainaaGreatDoorPs
import Derived.Deep.RegionLaw
import Derived.Maps.AppendAt
namespace Go.Proofs.YtcooijhndiainaaGreatDoor
open Go.RowKit

/-- the document's Reader, and a sys in the making beside it. -/
structure RSx (w0 : World) (b xb : Nat) (w : World) (st : RSt) (v0 v1 v2 v3 v4 : Value) : Prop where
  rd : RRd w b st
  fr : Fr (fun k => k = b) w0 w
  box : NamesAt w xb 24 v0 v1 v2 v3 v4 []
  lt : b < w0.heap.size
  new : xb = w0.heap.size + 1
  res : w.heap[w0.heap.size]? = some (.cells #[.int .i64 0, .string ByteArray.empty, .int .i64 0, .int .i64 0, .slice none 0 0] 24 (0, 0))
theorem RSx.step {w0 w w' : World} {b xb : Nat} {st st' : RSt} {v0 v1 v2 v3 v4 : Value} (h : RSx w0 b xb w st v0 v1 v2 v3 v4) (hf : Fr (fun k => k = b) w w') (hw : RRd w' b st') : RSx w0 b xb w' st' v0 v1 v2 v3 v4 :=
  ⟨hw, h.fr.trans hf, h.box.fr hf (by have := h.lt; have := h.new; omega), h.lt, h.new, (hf.block _ (lt_of_block h.res) (by have := h.lt; omega)).trans h.res⟩
section
variable {w0 w : World} {b xb : Nat} {st : RSt} {v0 v1 v2 v3 v4 : Value}
theorem RSx.rset (h : RSx w0 b xb w st v0 v1 v2 v3 v4) (i : Nat) (u : Value) : RRd (w.setCell ⟨xb, i, none⟩ u) b st :=
  h.rd.keep (Below.heap_setCell _ _ _ _ (by have := h.lt; have := h.new; show b ≠ xb; omega))
theorem RSx.fset (h : RSx w0 b xb w st v0 v1 v2 v3 v4) (i : Nat) (u : Value) : Fr (fun k => k = b) w0 (w.setCell ⟨xb, i, none⟩ u) := h.fr.setCell (.inr (by have := h.new; show _ ≤ xb; omega)) _
theorem RSx.zset (h : RSx w0 b xb w st v0 v1 v2 v3 v4) (i : Nat) (u : Value) : (w.setCell ⟨xb, i, none⟩ u).heap[w0.heap.size]? = some (.cells #[.int .i64 0, .string ByteArray.empty, .int .i64 0, .int .i64 0, .slice none 0 0] 24 (0, 0)) :=
  (Below.heap_setCell _ _ _ _ (by have := h.new; show w0.heap.size ≠ xb; omega)).trans h.res
theorem RSx.set0 (h : RSx w0 b xb w st v0 v1 v2 v3 v4) (u : Value) : RSx w0 b xb (w.setCell ⟨xb, 0, none⟩ u) st u v1 v2 v3 v4 := ⟨h.rset _ _, h.fset _ _, h.box.set0 u, h.lt, h.new, h.zset _ _⟩
theorem RSx.set1 (h : RSx w0 b xb w st v0 v1 v2 v3 v4) (u : Value) : RSx w0 b xb (w.setCell ⟨xb, 1, none⟩ u) st v0 u v2 v3 v4 := ⟨h.rset _ _, h.fset _ _, h.box.set1 u, h.lt, h.new, h.zset _ _⟩
theorem RSx.set2 (h : RSx w0 b xb w st v0 v1 v2 v3 v4) (u : Value) : RSx w0 b xb (w.setCell ⟨xb, 2, none⟩ u) st v0 v1 u v3 v4 := ⟨h.rset _ _, h.fset _ _, h.box.set2 u, h.lt, h.new, h.zset _ _⟩
theorem RSx.set3 (h : RSx w0 b xb w st v0 v1 v2 v3 v4) (u : Value) : RSx w0 b xb (w.setCell ⟨xb, 3, none⟩ u) st v0 v1 v2 u v4 := ⟨h.rset _ _, h.fset _ _, h.box.set3 u, h.lt, h.new, h.zset _ _⟩
theorem RSx.set4 (h : RSx w0 b xb w st v0 v1 v2 v3 v4) (u : Value) : RSx w0 b xb (w.setCell ⟨xb, 4, none⟩ u) st v0 v1 v2 v3 u := ⟨h.rset _ _, h.fset _ _, h.box.set4 u, h.lt, h.new, h.zset _ _⟩
theorem RSx.drew (h : RSx w0 b xb w st v0 v1 v2 v3 v4) : RSx w0 b xb w.drew st v0 v1 v2 v3 v4 := ⟨h.rd.keep rfl, h.fr.drew, h.box, h.lt, h.new, h.res⟩
theorem RSx.grown {w' : World} {o : Obj} {e n : Nat} {xs : List Value} (h : RSx w0 b xb w st v0 v1 v2 v3 v4) (hO : w.ownsRow (w0.heap.size + 2) e 1 v4 n xs) (hg : (w.alloc o).grownBy w' v4.ownBlock) : RSx w0 b xb w' st v0 v1 v2 v3 v4 := by
  have hb := h.rd.lt
  have hx := lt_of_block h.box
  have hr := lt_of_block h.res
  have hne : ∀ k, k < w0.heap.size + 2 → v4.ownBlock ≠ some k := fun k hk e => by have := (hO.lt k e).1; omega
  have hl := h.lt
  have hnw := h.new
  refine ⟨h.rd.keep ?_, ?_, ?_, h.lt, h.new, ?_⟩
  · rw [hg.block b (by rw [World.size_alloc]; omega) (fun e => hne b (by omega) e.symm)]; exact Below.heap_alloc _ _ _ hb
  · exact (h.fr.alloc o).grown hg (fun k e => .inr (by have := (hO.lt k e).1; omega))
  · exact (hg.block xb (by rw [World.size_alloc]; omega) (fun e => hne xb (by omega) e.symm)).trans ((Below.heap_alloc _ _ _ hx).trans h.box)
  · exact (hg.block _ (by rw [World.size_alloc]; omega) (fun e => hne _ (by omega) e.symm)).trans ((Below.heap_alloc _ _ _ hr).trans h.res)
end

set_option maxRecDepth 100000 in
set_option maxHeartbeats 4000000 in
theorem rreads_any {b : Nat} {st : RSt} (w : World) (h : RRd w b st) :
    Calls Tryz.prog 60 #[.pointer (some ⟨b, 0, none⟩)] w fun r w' => Fr (fun k => k = b) w w' ∧ RRd w' b st.sysS ∧
      ∃ gv, r = .returned (.agg #[.int .i64 st.sysV.stamp, .string st.sysV.machine, .int .i64 st.sysV.user, .int .i64 st.sysV.group, gv]) ∧ w'.ownsRow w.heap.size 3 1 gv st.sysV.groups.length (st.sysV.groups.map (Value.int .i64)) := by
  obtain ⟨i0, hi, hz0, hz1, hz2⟩ := info_parts Tryz.infoInt
  have hlt := h.lt
  have hf2 : Fr (fun k => k = b) w ((w.alloc (.cells #[.int .i64 0, .string ByteArray.empty, .int .i64 0, .int .i64 0, .slice none 0 0] 24)).alloc (.cells #[.int .i64 0, .string ByteArray.empty, .int .i64 0, .int .i64 0, .slice none 0 0] 24)) := ((Fr.refl _ _).alloc _).alloc _
  have hx : RSx w b (w.heap.size + 1) ((w.alloc (.cells #[.int .i64 0, .string ByteArray.empty, .int .i64 0, .int .i64 0, .slice none 0 0] 24)).alloc (.cells #[.int .i64 0, .string ByteArray.empty, .int .i64 0, .int .i64 0, .slice none 0 0] 24)) st (.int .i64 0) (.string ByteArray.empty) (.int .i64 0) (.int .i64 0) (.slice none 0 0) :=
    ⟨(h.fr ((Fr.refl (fun _ => False) _).alloc _) id).fr ((Fr.refl (fun _ => False) _).alloc _) id, hf2, heap_two, hlt, rfl, heap_old (heap_alloc_new _ _)⟩
  have HX := Lib.hid hx
  clear hx h hf2
  go_enter Tryz.func60, Tryz.ntmps60
  go_wp2_with fail
  refine (rRUint_any _ HX.out.rd).mono ?_
  rintro e w1 ⟨rfl, hf1, h1⟩
  replace HX := Lib.hid (HX.out.step hf1 h1)
  clear hf1 h1
  obtain ⟨⟨c0, c1, c2, c3, c4⟩, f0, f1, f2, f3, f4⟩ := HX.out.box.cells
  go_wp2_with fail
  replace HX := Lib.hid (HX.out.set0 (.int .i64 st.uintV))
  clear c0 c1 c2 c3 c4 f0 f1 f2 f3 f4
  generalize w1.setCell _ _ = W1 at *
  refine (rROpaque_any 255 _ HX.out.rd).mono ?_
  rintro e w2 ⟨rfl, hf1, h1⟩
  replace HX := Lib.hid (HX.out.step hf1 h1)
  clear hf1 h1
  obtain ⟨⟨c0, c1, c2, c3, c4⟩, f0, f1, f2, f3, f4⟩ := HX.out.box.cells
  go_wp2_with fail
  replace HX := Lib.hid (HX.out.set1 (.string (st.uint.opaqueV 255)))
  clear c0 c1 c2 c3 c4 f0 f1 f2 f3 f4
  generalize w2.setCell _ _ = W2 at *
  refine (rRUint_any _ HX.out.rd).mono ?_
  rintro e w3 ⟨rfl, hf1, h1⟩
  replace HX := Lib.hid (HX.out.step hf1 h1)
  clear hf1 h1
  obtain ⟨⟨c0, c1, c2, c3, c4⟩, f0, f1, f2, f3, f4⟩ := HX.out.box.cells
  go_wp2_with fail
  replace HX := Lib.hid (HX.out.set2 (.int .i64 st.s2.uintV))
  clear c0 c1 c2 c3 c4 f0 f1 f2 f3 f4
  show Calls _ _ _ (w3.setCell _ (.int .i64 st.s2.uintV)) _
  generalize w3.setCell _ _ = W3 at *
  refine (rRUint_any _ HX.out.rd).mono ?_
  rintro e w4 ⟨rfl, hf1, h1⟩
  replace HX := Lib.hid (HX.out.step hf1 h1)
  clear hf1 h1
  obtain ⟨⟨c0, c1, c2, c3, c4⟩, f0, f1, f2, f3, f4⟩ := HX.out.box.cells
  go_wp2_with fail
  replace HX := Lib.hid (HX.out.set3 (.int .i64 st.s3.uintV))
  clear c0 c1 c2 c3 c4 f0 f1 f2 f3 f4
  show Calls _ _ _ (w4.setCell _ (.int .i64 st.s3.uintV)) _
  generalize w4.setCell _ _ = W4 at *
  refine (rRCount_any 16 _ HX.out.rd).mono ?_
  rintro e w5 ⟨rfl, hf1, h1⟩
  have HY : Hid (RSx w b (w.heap.size + 1) w5 st.s5 (.int .i64 st.sysV.stamp) (.string st.sysV.machine) (.int .i64 st.sysV.user) (.int .i64 st.sysV.group) (.slice none 0 0)) := Lib.hid (HX.out.step hf1 h1)
  clear hf1 h1 HX
  have hnb : st.sN ≤ 4294967296 := by have := (manyV_bound st.s4 16).2; unfold RSt.sN; omega
  have hn : (st.uint.opaqueS 255).uint.uint.manyV 16 = (st.sN : Int) := by have := (manyV_bound st.s4 16).1; show st.s4.manyV 16 = _; unfold RSt.sN; omega
  rw [hn]
  clear hn
  go_wp2_with fail
  go_loopw [5] (fun i wr => ∃ k : Nat, k ≤ st.sN ∧ i = .int .i64 k ∧ Hid (∃ gv, RSx w b (w.heap.size + 1) wr (st.s5.uintsS k) (.int .i64 st.sysV.stamp) (.string st.sysV.machine) (.int .i64 st.sysV.user) (.int .i64 st.sysV.group) gv ∧ wr.ownsRow (w.heap.size + 2) 3 1 gv k ((st.s5.uintsV k).map (Value.int .i64)))) (fun i _ => st.sN - (intOf i).toNat)
  case atStart => exact ⟨0, Nat.zero_le _, rfl, Lib.hid ⟨_, HY.out, World.ownsRow_nil _ _ _ _⟩⟩
  case round =>
    obtain ⟨k, hk, rfl, HG⟩ := hrel
    clear HY
    obtain ⟨gv, hN, hO⟩ := HG.out
    obtain ⟨GA, gc, rfl⟩ := owns_slice hO
    obtain ⟨⟨c0, c1, c2, c3, c4⟩, f0, f1, f2, f3, f4⟩ := hN.box.cells
    have HN := Lib.hid hN
    have HO := Lib.hid hO
    clear HG hN hO f0 f1 f2 f3
    by_cases hlt : k < st.sN
    · clear c0 c1 c2 c3
      have HN0 := Lib.hid HN.out.drew
      have HB0 : Hid (w.heap.size + 2 ≤ wr.heap.size) := Lib.hid (by have := lt_of_block HN.out.box; omega)
      go_wp2_with fail
      go_region_law (first | (go_simp; go_at_call 100; refine (rRUint_any _ HN0.out.rd).mono ?_; rintro e w2 ⟨rfl, hf2, h2⟩; have HN2 := Lib.hid (HN0.out.step hf2 h2); have hc4 := HN2.out.box.cells.1.2.2.2.2; have hxl2 : w.heap.size + 1 < w2.heap.size := lt_of_block HN2.out.box; have HO2 : Hid (w2.ownsRow (w.heap.size + 2) 3 1 (.slice GA k gc) k _) := Lib.hid (ownsRow_keep (w := wr.drew) HO.out (fun g e => hf2.block g (HO.out.lt g e).2 (fun eb => by have := (HO.out.lt g e).1; omega))); have HB2 : Hid (w.heap.size + 2 ≤ w2.heap.size) := Lib.hid (Nat.le_trans HB0.out hf2.size); clear hf2 h2) | (refine step_append_own rfl (.tmp 26) (.tmp 29) 22 rfl (w.heap.size + 2) 3 i0 (.int .i64 0) 1 8 Tryz.underlying22 hi hz0 hz1 hz2 rfl (by decide) _ k _ rfl (HO2.out.alloc _) ⟨w2.heap.size, 0, none⟩ 1 1 [.int .i64 (st.s5.uintsS k).uintV] rfl rfl (cell_one_new _ _ _) (by intro u hu; simp at hu; subst hu; rfl) (by unfold maxLen; omega) (by omega) (by have := HB2.out; simp; omega) ?_; intro v' w' hown hgrow; obtain ⟨GA', gc', rfl⟩ := owns_slice hown; have HN3 := Lib.hid (HN2.out.grown HO2.out hgrow); have hc4' := HN3.out.box.cells.1.2.2.2.2; have hf4' := HN3.out.box.cells.2.2.2.2.2; have hxl3 : w.heap.size + 1 < w'.heap.size := lt_of_block HN3.out.box; have HO3 := Lib.hid hown; clear hown hgrow))
      all_goals
        have HN4 := Lib.hid (HN3.out.set4 (.slice GA' (k + 1) gc'))
        have hOs := ownsRow_setCell_other (a := ⟨w.heap.size + 1, 4, none⟩) HO3.out (fun e => by have := (HO3.out.lt _ e).1; simp at this) (.slice GA' (k + 1) gc')
        rw [show ((st.s5.uintsV k).map (Value.int .i64) ++ [.int .i64 (st.s5.uintsS k).uintV]) = (st.s5.uintsV (k + 1)).map (Value.int .i64) by simp [RSt.uintsV]] at hOs
        have HOs := Lib.hid hOs
        clear hOs hf4' hc4' hc4 c4 f4
        go_wp2
        exact ⟨⟨k + 1, by omega, by go_num, Lib.hid ⟨_, HN4.out, HOs.out⟩⟩, by simp [intOf]; omega⟩
    · have hk2 : k = st.sN := by omega
      subst hk2
      have hxl : w.heap.size + 1 < wr.heap.size := lt_of_block HN.out.box
      obtain ⟨z0, z1, z2, z3, z4⟩ := box5 (Lib.hid HN.out.res)
      have y0 := freeOf HN.out.res 0
      have y1 := freeOf HN.out.res 1
      have y2 := freeOf HN.out.res 2
      have y3 := freeOf HN.out.res 3
      have y4 := freeOf HN.out.res 4
      have hl : st.sysV.groups.length = st.sN := uintsV_length _ _
      have HL := Lib.hid hl
      clear hl
      go_wp2
      refine bodyPost_ret (v := .agg #[.int .i64 st.sysV.stamp, .string st.sysV.machine, .int .i64 st.sysV.user, .int .i64 st.sysV.group, .slice GA st.sN gc]) ?_ rfl ?_
      · simp [results, Tryz.results60, go_sem, z0, z1, z2, z3, z4]
      · have hb : b ≠ w.heap.size := by omega
        refine ⟨((((HN.out.fr.setCell (.inr (Nat.le_refl _)) _).setCell (.inr (Nat.le_refl _)) _).setCell (.inr (Nat.le_refl _)) _).setCell (.inr (Nat.le_refl _)) _).setCell (.inr (Nat.le_refl _)) _, ?_, _, rfl, ?_⟩
        · exact HN.out.rd.keep (by rw [Below.heap_setCell _ _ _ _ hb, Below.heap_setCell _ _ _ _ hb, Below.heap_setCell _ _ _ _ hb, Below.heap_setCell _ _ _ _ hb, Below.heap_setCell _ _ _ _ hb])
        · rw [HL.out]
          refine ownsRow_set5 (ownsRow_lower HO.out (by omega)) (fun e => ?_) _ _ _ _ _
          have := (HO.out.lt _ e).1
          omega

theorem named_of_sysS {st : RSt} (h : st.sysS.e = 0) : namedB st.sysV = true := by
  unfold RSt.sysS at h
  obtain ⟨h5, g5, _⟩ := b_uints _ h
  obtain ⟨_, h4, l0, l1, _⟩ := b_count h5
  obtain ⟨h3, g3, _⟩ := b_uint h4
  obtain ⟨h2, g2, _⟩ := b_uint h3
  obtain ⟨_, h1, g1, _⟩ := b_opq h2
  obtain ⟨_, g0, _⟩ := b_uint h1
  refine namedB_iff.2 ⟨g0, g2, g3, g1, ?_, g5⟩
  have : st.sysV.groups.length = st.sN := by simp [RSt.sysV, uintsV_length]
  rw [this]; unfold RSt.sN; omega
theorem parseSys_eq (a : AuthM) (h : a.flavor = 1) : parseSysM a = if (RSt.sysS ⟨a.body, 0⟩).doneV = 0 then (RSt.sysV ⟨a.body, 0⟩, 0) else (zeroSys, 111) := by
  unfold parseSysM
  rw [if_pos h]
  by_cases hd : (RSt.sysS ⟨a.body, 0⟩).doneV = 0
  · rw [if_pos hd, if_pos ⟨hd, named_of_sysS (doneV_zero.1 hd).1⟩]
  · rw [if_neg hd, if_neg (fun h => hd h.1)]

set_option maxRecDepth 100000 in
set_option maxHeartbeats 4000000 in
theorem rParseSys_any (a : AuthM) (w : World) (hs : a.body.size ≤ 1099511627776) :
    Calls Tryz.prog 21 #[.agg #[.int .i64 a.flavor, .string a.body]] w fun r w' => Fr (fun _ => False) w w' ∧ ∃ gv, r = .returned (.tuple #[sysVv (parseSysM a).1 gv, .int .i64 (parseSysM a).2]) ∧ IntsNew w w' gv (parseSysM a).1.groups := by
  have hx1 := Lib.hid (heap_two (w := w) (a := .cells #[.int .i64 a.flavor, .string a.body] 32) (b := .cells #[.int .i64 0, .string ByteArray.empty, .int .i64 0, .int .i64 0, .slice none 0 0] 24))
  have HB := Lib.hid (((Below.refl _ _).alloc (Nat.le_refl _) _).alloc (by simp) _ : Below w.heap.size w ((w.alloc (.cells #[.int .i64 a.flavor, .string a.body] 32)).alloc (.cells #[.int .i64 0, .string ByteArray.empty, .int .i64 0, .int .i64 0, .slice none 0 0] 24)))
  by_cases hf : a.flavor = 1
  · have hb : (a.flavor != 1) = false := by rw [bne_eq_false_iff_eq]; exact hf
    have hP := parseSys_eq a hf
    have HP := Lib.hid hP
    clear hP hf
    go_enter Tryz.func21, Tryz.ntmps21
    go_wp2_with fail
    refine (rRNew_any _ _ hs).mono ?_
    rintro e w1 ⟨rfl, hf1, hR⟩
    have hx1 := hidMove hx1 hf1 id
    have hz1 := hf1.size
    simp only [World.size_alloc] at hR hz1
    go_wp2_with fail
    refine (rreads_any _ hR).mono ?_
    rintro e w2 ⟨hf2, hR2, gv, rfl, hO⟩
    have hx1 := hidMove hx1 hf2 (by omega)
    have hfw : Fr (fun _ => False) w w2 := ((Fr.ofBelow HB.out).then hf1 (fun _ _ h => h)).then hf2 (fun i hi h => by omega)
    obtain ⟨GA, gc, rfl⟩ := owns_slice hO
    have hR3 : RRd (w2.alloc (.cells #[.int .i64 (RSt.sysV ⟨a.body, 0⟩).stamp, .string (RSt.sysV ⟨a.body, 0⟩).machine, .int .i64 (RSt.sysV ⟨a.body, 0⟩).user, .int .i64 (RSt.sysV ⟨a.body, 0⟩).group, .slice GA (RSt.sysV ⟨a.body, 0⟩).groups.length gc] 24)) (w.heap.size + 1 + 1) (RSt.sysS ⟨a.body, 0⟩) := hR2.keep (Below.heap_alloc _ _ _ hR2.lt)
    have hx0 := Lib.hid (heap_alloc_new w2 (.cells #[.int .i64 (RSt.sysV ⟨a.body, 0⟩).stamp, .string (RSt.sysV ⟨a.body, 0⟩).machine, .int .i64 (RSt.sysV ⟨a.body, 0⟩).user, .int .i64 (RSt.sysV ⟨a.body, 0⟩).group, .slice GA (RSt.sysV ⟨a.body, 0⟩).groups.length gc] 24))
    have hx1 := Lib.hid (heap_old (o := .cells #[.int .i64 (RSt.sysV ⟨a.body, 0⟩).stamp, .string (RSt.sysV ⟨a.body, 0⟩).machine, .int .i64 (RSt.sysV ⟨a.body, 0⟩).user, .int .i64 (RSt.sysV ⟨a.body, 0⟩).group, .slice GA (RSt.sysV ⟨a.body, 0⟩).groups.length gc] 24) hx1.out)
    have HO := Lib.hid (hO.alloc (.cells #[.int .i64 (RSt.sysV ⟨a.body, 0⟩).stamp, .string (RSt.sysV ⟨a.body, 0⟩).machine, .int .i64 (RSt.sysV ⟨a.body, 0⟩).user, .int .i64 (RSt.sysV ⟨a.body, 0⟩).group, .slice GA (RSt.sysV ⟨a.body, 0⟩).groups.length gc] 24))
    have hfw := hfw.alloc (.cells #[.int .i64 (RSt.sysV ⟨a.body, 0⟩).stamp, .string (RSt.sysV ⟨a.body, 0⟩).machine, .int .i64 (RSt.sysV ⟨a.body, 0⟩).user, .int .i64 (RSt.sysV ⟨a.body, 0⟩).group, .slice GA (RSt.sysV ⟨a.body, 0⟩).groups.length gc] 24)
    clear hO hR2
    go_wp2_with fail
    refine (rRDone_any _ hR3).mono ?_
    rintro e w3 ⟨rfl, hf3⟩
    have hx1 := hidMove hx1 hf3 id
    have hx0 := hidMove hx0 hf3 id
    have hfw3 := hfw.then hf3 (fun _ _ h => h)
    have hO3 : w3.ownsRow w1.heap.size 3 1 (.slice GA (RSt.sysV ⟨a.body, 0⟩).groups.length gc) _ _ := ownsRow_keep HO.out (fun g e => hf3.block g (HO.out.lt g e).2 id)
    have HO3 := Lib.hid hO3
    clear hO3 hf3
    obtain ⟨s0, s1, s2, s3, s4⟩ := box5 hx1
    obtain ⟨p0, p1, p2, p3, p4⟩ := box5 hx0
    have t0 := freeOf hx1.out 0
    have t1 := freeOf hx1.out 1
    have t2 := freeOf hx1.out 2
    have t3 := freeOf hx1.out 3
    have t4 := freeOf hx1.out 4
    have hl1 : w.heap.size + 1 < w3.heap.size := lt_of_block hx1.out
    have hl0 : w2.heap.size < w3.heap.size := lt_of_block hx0.out
    by_cases hd : (RSt.sysS ⟨a.body, 0⟩).doneV = 0
    · have hd1 : ((RSt.sysS ⟨a.body, 0⟩).doneV != 0) = false := by rw [hd]; rfl
      have HD := Lib.hid hd
      clear hd
      go_wp2
      refine bodyPost_ret (v := .tuple #[sysVv (RSt.sysV ⟨a.body, 0⟩) (.slice GA (RSt.sysV ⟨a.body, 0⟩).groups.length gc), .int .i64 0]) ?_ rfl ?_
      · simp [results, Tryz.results21, go_sem, sysVv, s0, s1, s2, s3, s4]
      · rw [HP.out, if_pos HD.out]
        refine ⟨(((((hfw3).setCell (.inr (by simp)) _).setCell (.inr (by simp)) _).setCell (.inr (by simp)) _).setCell (.inr (by simp)) _).setCell (.inr (by simp)) _, _, rfl, ?_⟩
        unfold IntsNew
        refine ownsRow_set5 (ownsRow_lower HO3.out (by omega)) (fun e => ?_) _ _ _ _ _
        have := (HO3.out.lt _ e).1
        omega
    · have hd1 : ((RSt.sysS ⟨a.body, 0⟩).doneV != 0) = true := by rw [bne_iff_ne]; exact hd
      have HD := Lib.hid hd
      clear hd
      go_wp2
      refine bodyPost_ret (v := .tuple #[sysVv zeroSys (.slice none 0 0), .int .i64 111]) ?_ rfl ?_
      · simp [results, Tryz.results21, go_sem, sysVv, zeroSys, s0, s1, s2, s3, s4]
        rfl
      · rw [HP.out, if_neg HD.out]
        exact ⟨(((((hfw3).setCell (.inr (by simp)) _).setCell (.inr (by simp)) _).setCell (.inr (by simp)) _).setCell (.inr (by simp)) _).setCell (.inr (by simp)) _, _, rfl, World.ownsRow_nil _ _ _ _⟩
  · have hb : (a.flavor != 1) = true := by rw [bne_iff_ne]; exact hf
    have hP : parseSysM a = (zeroSys, 112) := if_neg hf
    rw [hP]
    clear hP hf HB
    go_enter Tryz.func21, Tryz.ntmps21
    go_wp2
    refine bodyPost_ret (v := .tuple #[sysVv zeroSys (.slice none 0 0), .int .i64 112]) ?_ rfl ?_
    · simp [results, Tryz.results21, go_sem, sysVv, zeroSys]
      rfl
    · exact ⟨((Fr.refl _ _).alloc _).alloc _, _, rfl, World.ownsRow_nil _ _ _ _⟩
end Go.Proofs.YtcooijhndiainaaGreatDoor
