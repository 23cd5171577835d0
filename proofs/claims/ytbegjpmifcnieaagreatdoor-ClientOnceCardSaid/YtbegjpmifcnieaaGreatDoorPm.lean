/- Package cred: who somebody says to be, read off a Reader. -/
import Derived.Test.YtbegjpmifcnieaaGreatDoorRt
import Derived.Test.YtbegjpmifcnieaaGreatDoorBi
import Derived.Test.YtbegjpmifcnieaaGreatDoorCp
import Derived.Deep.RegionLaw
import Derived.Maps.AppendAt
import Derived.Test.YtbegjpmifcnieaaGreatDoorMc
namespace Go.Proofs.YtbegjpmifcnieaaGreatDoor
open Go.RowKit
set_option linter.unusedVariables false
set_option linter.unusedSimpArgs false


/-- append to a row of one's own, as one step of a region that draws. -/
theorem step_append_own {P : Program} {ops : Array Oper} {o : Oper} {a : Act} {w : World} {K : Act → World → Prop} {Q : Exit → Act → World → Prop} {E : Prop}
    (hg : o.guard = none) (s x : Operand) (t : TypeId) (hop : o.op = Op.call { callee := Callee.builtin Builtin.append, args := #[s, x], argTypes := #[t, t] })
    (base : Nat) (e : TypeId) (i : TypeInfo) (z : Value) (size bytes : Nat) (ht : P.underlying t = some (.slice e)) (hi : P.info? e = some i) (hz : i.zero = some z)
    (hsize : i.size = size) (hby : i.bytes = bytes) (hzs : z.cells.size = size) (hsz : 0 < size)
    (v : Value) (n : Nat) (xs : List Value) (hs : a.eval s = v) (hown : w.ownsRow base e size v n xs)
    (ad : Addr) (m c : Nat) (news : List Value) (hx : a.eval x = .slice (some ad) m c) (hl : news.length = m * size) (hnews : ∀ j u, news[j]? = some u → w.cell? (ad.add j) = some u) (h1 : ∀ u ∈ news, u.oneCell' = true)
    (h63 : n + m ≤ maxLen) (hbytes : (n + m) * bytes ≤ 140737488355328) (hbase : base ≤ w.heap.size)
    (hK : ∀ v' w', w'.ownsRow base e size v' (n + m) (xs ++ news) → w.grownBy w' v.ownBlock → K (a.put o.dst v') w') :
    if Region.wanted o (yielded ops a.tmps) = true then Oper.wp P o a w K Q else E := by
  have hw : Region.wanted o (yielded ops a.tmps) = true := by simp [Region.wanted, hg]
  rw [if_pos hw]
  obtain ⟨v', w', hr, h2, h3, _⟩ := run_append_own (P := P) w base t o.type e i z size bytes ht hi hz hsize hby hzs hsz v n xs hown ad m c news hl hnews h1 h63 hbytes hbase
  unfold Oper.wp execOp
  simp only [hop, resolve, invoke, builtin, Sem.run_bind, Sem.run_pure, Result.andThen_ok, List.map_toArray, List.map_cons, List.map_nil, hs, hx, hr]
  exact hK v' w' h2 h3

def RSt.uintsS (st : RSt) : Nat → RSt
  | 0 => st
  | n + 1 => (st.uintsS n).uint
def RSt.uintsV (st : RSt) : Nat → List Int
  | 0 => []
  | n + 1 => st.uintsV n ++ [(st.uintsS n).uintV]
theorem uintsV_length (st : RSt) : ∀ n, (st.uintsV n).length = n := by
  intro n; induction n with
  | zero => rfl
  | succ n ih => simp [RSt.uintsV, ih]

def RSt.s1 (st : RSt) : RSt := st.uint
def RSt.s2 (st : RSt) : RSt := st.s1.opaqueS 255
def RSt.s3 (st : RSt) : RSt := st.s2.uint
def RSt.s4 (st : RSt) : RSt := st.s3.uint
def RSt.s5 (st : RSt) : RSt := st.s4.countS 16
def RSt.sN (st : RSt) : Nat := (st.s4.manyV 16).toNat
def RSt.sysS (st : RSt) : RSt := st.s5.uintsS st.sN
def RSt.sysV (st : RSt) : SysM := ⟨st.uintV, st.s1.opaqueV 255, st.s2.uintV, st.s3.uintV, st.s5.uintsV st.sN⟩

def NamesAt (w : World) (xb T : Nat) (v0 v1 v2 v3 v4 : Value) (ext : List Value) : Prop :=
  w.heap[xb]? = some (.cells ([v0, v1, v2, v3, v4] ++ ext).toArray T (0, 0))
theorem NamesAt.fr {w w' : World} {S : Nat → Prop} {xb T : Nat} {v0 v1 v2 v3 v4 : Value} {ext : List Value} (h : NamesAt w xb T v0 v1 v2 v3 v4 ext) (hf : Fr S w w') (hs : ¬ S xb) : NamesAt w' xb T v0 v1 v2 v3 v4 ext :=
  (hf.block xb (lt_of_block h) hs).trans h
theorem NamesAt.cells {w : World} {xb T : Nat} {v0 v1 v2 v3 v4 : Value} {ext : List Value} (h : NamesAt w xb T v0 v1 v2 v3 v4 ext) :
    (w.cell? ⟨xb, 0, none⟩ = some v0 ∧ w.cell? ⟨xb, 1, none⟩ = some v1 ∧ w.cell? ⟨xb, 2, none⟩ = some v2 ∧ w.cell? ⟨xb, 3, none⟩ = some v3 ∧ w.cell? ⟨xb, 4, none⟩ = some v4) ∧
      w.frozen? ⟨xb, 0, none⟩ = false ∧ w.frozen? ⟨xb, 1, none⟩ = false ∧ w.frozen? ⟨xb, 2, none⟩ = false ∧ w.frozen? ⟨xb, 3, none⟩ = false ∧ w.frozen? ⟨xb, 4, none⟩ = false := by
  refine ⟨⟨?_, ?_, ?_, ?_, ?_⟩, freeOf h 0, freeOf h 1, freeOf h 2, freeOf h 3, freeOf h 4⟩
  · rw [cellOf h 0]; rfl
  · rw [cellOf h 1]; rfl
  · rw [cellOf h 2]; rfl
  · rw [cellOf h 3]; rfl
  · rw [cellOf h 4]; rfl
theorem NamesAt.set0 {w : World} {xb T : Nat} {v0 v1 v2 v3 v4 : Value} {ext : List Value} (h : NamesAt w xb T v0 v1 v2 v3 v4 ext) (v : Value) : NamesAt (w.setCell ⟨xb, 0, none⟩ v) xb T v v1 v2 v3 v4 ext := (setOf' h 0 v).trans (by simp)
theorem NamesAt.set1 {w : World} {xb T : Nat} {v0 v1 v2 v3 v4 : Value} {ext : List Value} (h : NamesAt w xb T v0 v1 v2 v3 v4 ext) (v : Value) : NamesAt (w.setCell ⟨xb, 1, none⟩ v) xb T v0 v v2 v3 v4 ext := (setOf' h 1 v).trans (by simp)
theorem NamesAt.set2 {w : World} {xb T : Nat} {v0 v1 v2 v3 v4 : Value} {ext : List Value} (h : NamesAt w xb T v0 v1 v2 v3 v4 ext) (v : Value) : NamesAt (w.setCell ⟨xb, 2, none⟩ v) xb T v0 v1 v v3 v4 ext := (setOf' h 2 v).trans (by simp)
theorem NamesAt.set3 {w : World} {xb T : Nat} {v0 v1 v2 v3 v4 : Value} {ext : List Value} (h : NamesAt w xb T v0 v1 v2 v3 v4 ext) (v : Value) : NamesAt (w.setCell ⟨xb, 3, none⟩ v) xb T v0 v1 v2 v v4 ext := (setOf' h 3 v).trans (by simp)
theorem NamesAt.set4 {w : World} {xb T : Nat} {v0 v1 v2 v3 v4 : Value} {ext : List Value} (h : NamesAt w xb T v0 v1 v2 v3 v4 ext) (v : Value) : NamesAt (w.setCell ⟨xb, 4, none⟩ v) xb T v0 v1 v2 v3 v ext := (setOf' h 4 v).trans (by simp)

set_option maxRecDepth 100000 in
set_option maxHeartbeats 4000000 in
theorem reads_any {b xb T : Nat} {st : RSt} (ext : List Value) (w : World) (h : Rd w b st) (hx : NamesAt w xb T (.int .i64 0) (.string ByteArray.empty) (.int .i64 0) (.int .i64 0) (.slice none 0 0) ext) (hne : xb ≠ b) :
    Calls Tryz.prog 265 #[.pointer (some ⟨xb, 0, none⟩), .pointer (some ⟨b, 0, none⟩)] w fun r w' => r = .returned (.tuple #[]) ∧ Fr (fun k => k = b ∨ k = xb) w w' ∧ Rd w' b st.sysS ∧
      ∃ gv, NamesAt w' xb T (.int .i64 st.sysV.stamp) (.string st.sysV.machine) (.int .i64 st.sysV.user) (.int .i64 st.sysV.group) gv ext ∧ w'.ownsRow w.heap.size 3 1 gv st.sysV.groups.length (st.sysV.groups.map (Value.int .i64)) := by
  obtain ⟨i0, hi, hz0, hz1, hz2⟩ := info_parts Tryz.infoInt
  have hxl : xb < w.heap.size := lt_of_block hx
  have hbl := h.lt
  have HX := Lib.hid hx
  clear hx
  go_enter Tryz.func265, Tryz.ntmps265
  go_wp2_with fail
  refine (RUint_any _ h).mono ?_
  rintro e w1 ⟨rfl, hf1, hs1, h1⟩
  have HX1 := Lib.hid (HX.out.fr hf1 hne)
  obtain ⟨⟨c0, c1, c2, c3, c4⟩, f0, f1, f2, f3, f4⟩ := HX1.out.cells
  go_wp2_with fail
  have hxa := HX1.out.set0 (.int .i64 st.uintV)
  have h1a : Rd (w1.setCell ⟨xb, 0, none⟩ (.int .i64 st.uintV)) b st.uint := h1.keep (Below.heap_setCell _ _ _ _ (Ne.symm hne))
  have hfa : Fr (fun k => k = b ∨ k = xb) w (w1.setCell ⟨xb, 0, none⟩ (.int .i64 st.uintV)) := (hf1.mono (fun _ _ h => .inl h)).setCell (.inl (.inr rfl)) _
  generalize w1.setCell ⟨xb, 0, none⟩ (.int .i64 st.uintV) = W1 at hxa h1a hfa ⊢
  clear c0 c1 c2 c3 c4 f0 f1 f2 f3 f4
  have HXa := Lib.hid hxa
  clear hxa
  refine (ROpaque_any 255 _ h1a).mono ?_
  rintro e w2 ⟨rfl, hf2, hs2, h2⟩
  have HX2 := Lib.hid (HXa.out.fr hf2 hne)
  obtain ⟨⟨c0, c1, c2, c3, c4⟩, f0, f1, f2, f3, f4⟩ := HX2.out.cells
  go_wp2_with fail
  have hxb := HX2.out.set1 (.string (st.s1.opaqueV 255))
  have h2a : Rd (w2.setCell ⟨xb, 1, none⟩ (.string (st.s1.opaqueV 255))) b st.s2 := h2.keep (Below.heap_setCell _ _ _ _ (Ne.symm hne))
  have hfb : Fr (fun k => k = b ∨ k = xb) w (w2.setCell ⟨xb, 1, none⟩ (.string (st.s1.opaqueV 255))) := (hfa.trans (hf2.mono (fun _ _ h => .inl h))).setCell (.inl (.inr rfl)) _
  have e2 : st.uint.opaqueV 255 = st.s1.opaqueV 255 := rfl
  rw [e2]
  generalize w2.setCell ⟨xb, 1, none⟩ (.string (st.s1.opaqueV 255)) = W2 at hxb h2a hfb ⊢
  clear c0 c1 c2 c3 c4 f0 f1 f2 f3 f4 e2
  have HXb := Lib.hid hxb
  clear hxb
  refine (RUint_any _ h2a).mono ?_
  rintro e w3 ⟨rfl, hf3, hs3, h3⟩
  have HX3 := Lib.hid (HXb.out.fr hf3 hne)
  obtain ⟨⟨c0, c1, c2, c3, c4⟩, f0, f1, f2, f3, f4⟩ := HX3.out.cells
  go_wp2_with fail
  have hxc := HX3.out.set2 (.int .i64 st.s2.uintV)
  have h3a : Rd (w3.setCell ⟨xb, 2, none⟩ (.int .i64 st.s2.uintV)) b st.s3 := h3.keep (Below.heap_setCell _ _ _ _ (Ne.symm hne))
  have hfc : Fr (fun k => k = b ∨ k = xb) w (w3.setCell ⟨xb, 2, none⟩ (.int .i64 st.s2.uintV)) := (hfb.trans (hf3.mono (fun _ _ h => .inl h))).setCell (.inl (.inr rfl)) _
  generalize w3.setCell ⟨xb, 2, none⟩ (.int .i64 st.s2.uintV) = W3 at hxc h3a hfc ⊢
  clear c0 c1 c2 c3 c4 f0 f1 f2 f3 f4
  have HXc := Lib.hid hxc
  clear hxc
  refine (RUint_any _ h3a).mono ?_
  rintro e w4 ⟨rfl, hf4, hs4, h4⟩
  have HX4 := Lib.hid (HXc.out.fr hf4 hne)
  obtain ⟨⟨c0, c1, c2, c3, c4⟩, f0, f1, f2, f3, f4⟩ := HX4.out.cells
  go_wp2_with fail
  have hxd := HX4.out.set3 (.int .i64 st.s3.uintV)
  have h4a : Rd (w4.setCell ⟨xb, 3, none⟩ (.int .i64 st.s3.uintV)) b st.s4 := h4.keep (Below.heap_setCell _ _ _ _ (Ne.symm hne))
  have hfd : Fr (fun k => k = b ∨ k = xb) w (w4.setCell ⟨xb, 3, none⟩ (.int .i64 st.s3.uintV)) := (hfc.trans (hf4.mono (fun _ _ h => .inl h))).setCell (.inl (.inr rfl)) _
  generalize w4.setCell ⟨xb, 3, none⟩ (.int .i64 st.s3.uintV) = W4 at hxd h4a hfd ⊢
  clear c0 c1 c2 c3 c4 f0 f1 f2 f3 f4
  have HXd := Lib.hid hxd
  clear hxd
  refine (RCount_any 16 _ h4a).mono ?_
  rintro e w5 ⟨rfl, hf5, hs5, h5⟩
  have hn : st.s4.manyV 16 = (st.sN : Int) := by have := (manyV_bound st.s4 16).1; unfold RSt.sN; omega
  have hnb : st.sN ≤ 4294967296 := by have := (manyV_bound st.s4 16).2; unfold RSt.sN; omega
  rw [hn]
  clear hn
  have HX5 := Lib.hid (HXd.out.fr hf5 hne)
  have HF5 := Lib.hid (hfd.trans (hf5.mono (fun _ _ h => .inl h)))
  have H5 : Hid (Rd w5 b st.s5) := Lib.hid h5
  clear HX HX1 HXa HX2 HXb HX3 HXc HX4 HXd hfa hfb hfc hfd hf1 hf2 hf3 hf4 hf5 hs1 hs2 hs3 hs4 hs5 h1 h1a h2 h2a h3 h3a h4 h4a h5 h
  go_wp2_with fail
  go_loopw [30] (fun i wr => ∃ k : Nat, k ≤ st.sN ∧ i = .int .i64 k ∧ Hid (Rd wr b (st.s5.uintsS k)) ∧ Hid (Fr (fun k => k = b ∨ k = xb) w wr) ∧ Hid (∃ gv, NamesAt wr xb T (.int .i64 st.uintV) (.string (st.s1.opaqueV 255)) (.int .i64 st.s2.uintV) (.int .i64 st.s3.uintV) gv ext ∧ wr.ownsRow w.heap.size 3 1 gv k ((st.s5.uintsV k).map (Value.int .i64)))) (fun i _ => st.sN - (intOf i).toNat)
  case atStart => exact ⟨0, Nat.zero_le _, rfl, H5, HF5, Lib.hid ⟨_, HX5.out, World.ownsRow_nil _ _ _ _⟩⟩
  case round =>
    obtain ⟨k, hk, rfl, HR, HF, HG⟩ := hrel
    clear HX5 HF5 H5
    obtain ⟨gv, hN, hO⟩ := HG.out
    by_cases hlt : k < st.sN
    · obtain ⟨GA, gc, rfl⟩ := owns_slice hO
      have hRd : Rd wr.drew b (st.s5.uintsS k) := HR.out.keep rfl
      obtain ⟨⟨c0, c1, c2, c3, c4⟩, f0, f1, f2, f3, f4⟩ := hN.cells
      have HN := Lib.hid hN
      have HO := Lib.hid hO
      clear hN hO HG c0 c1 c2 c3 f0 f1 f2 f3
      go_wp2_with fail
      go_region_law (first | (go_simp; go_at_call 217; refine (RUint_any _ hRd).mono ?_; rintro e w2 ⟨rfl, hf2, hs2, h2⟩; clear hs2; have HN2 : Hid (NamesAt w2 xb T _ _ _ _ _ ext) := Lib.hid (NamesAt.fr (w := wr.drew) HN.out hf2 hne); have hc4 := HN2.out.cells.1.2.2.2.2; have hxl2 : xb < w2.heap.size := lt_of_block HN2.out; have HO2 : Hid (w2.ownsRow w.heap.size 3 1 (.slice GA k gc) k _) := Lib.hid (ownsRow_keep (w := wr.drew) HO.out (fun g e => hf2.block g (HO.out.lt g e).2 (fun eb => by have := (HO.out.lt g e).1; omega))); have HB2 : Hid (w.heap.size ≤ w2.heap.size) := Lib.hid (Nat.le_trans HF.out.size hf2.size)) | (refine step_append_own rfl (.tmp 37) (.tmp 40) 24 rfl w.heap.size 3 i0 (.int .i64 0) 1 8 Tryz.underlying24 hi hz0 hz1 hz2 rfl (by decide) _ k _ rfl (HO2.out.alloc _) ⟨w2.heap.size, 0, none⟩ 1 1 [.int .i64 (st.s5.uintsS k).uintV] rfl rfl (cell_one_new _ _ _) (by intro u hu; simp at hu; subst hu; rfl) (by unfold maxLen; omega) (by omega) (by have := HB2.out; simp; omega) ?_; intro v' w' hown hgrow; obtain ⟨GA', gc', rfl⟩ := owns_slice hown; have hN3 : NamesAt w' xb T _ _ _ _ _ ext := grown_block hgrow (heap_old HN2.out) (fun e => by have := (HO2.out.lt xb e).1; omega); have hc4' := hN3.cells.1.2.2.2.2; have hf4' := hN3.cells.2.2.2.2.2; have HN3 := Lib.hid hN3; have HO3 := Lib.hid hown; have HG3 := Lib.hid hgrow; clear hown hgrow hN3))
      all_goals
        have hFw : Fr (fun k => k = b ∨ k = xb) w w' := (((HF.out.drew.trans (hf2.mono (fun _ _ h => .inl h))).alloc _).grown HG3.out (fun g e => .inr (HO.out.lt g e).1))
        have hRw : Rd w' b (st.s5.uintsS (k + 1)) := h2.keep ((HG3.out.block b (by have := h2.lt; simp; omega) (fun e => by have := (HO2.out.lt b e.symm).1; omega)).trans (Below.heap_alloc _ _ _ h2.lt))
        have hFs := Lib.hid (hFw.setCell (p := ⟨xb, 4, none⟩) (.inl (.inr rfl)) (.slice GA' (k + 1) gc'))
        have hRs : Hid (Rd (w'.setCell ⟨xb, 4, none⟩ (.slice GA' (k + 1) gc')) b (st.s5.uintsS (k + 1))) := Lib.hid (hRw.keep (Below.heap_setCell _ _ _ _ (Ne.symm hne)))
        have hNs := HN3.out.set4 (.slice GA' (k + 1) gc')
        have hOs := ownsRow_setCell_other (a := ⟨xb, 4, none⟩) HO3.out (fun e => by have := (HO3.out.lt xb e).1; omega) (.slice GA' (k + 1) gc')
        rw [show ((st.s5.uintsV k).map (Value.int .i64) ++ [.int .i64 (st.s5.uintsS k).uintV]) = (st.s5.uintsV (k + 1)).map (Value.int .i64) by simp [RSt.uintsV]] at hOs
        have hNs := Lib.hid hNs
        have hOs := Lib.hid hOs
        clear hFw hRw hf4' hc4' hc4 c4 f4
        go_wp2
        exact ⟨⟨k + 1, by omega, by go_num, hRs, hFs, Lib.hid ⟨_, hNs.out, hOs.out⟩⟩, by simp [intOf]; omega⟩
    · have hk2 : k = st.sN := by omega
      subst hk2
      have hl : st.sysV.groups.length = st.sN := uintsV_length _ _
      have HGv := Lib.hid (⟨gv, hN, by rw [hl]; exact hO⟩ : ∃ gv, NamesAt wr xb T (.int .i64 st.sysV.stamp) (.string st.sysV.machine) (.int .i64 st.sysV.user) (.int .i64 st.sysV.group) gv ext ∧ wr.ownsRow w.heap.size 3 1 gv st.sysV.groups.length (st.sysV.groups.map (Value.int .i64)))
      clear hN hO HG hl
      go_wp2
      go_end0
      exact ⟨rfl, HF.out, HR.out, HGv.out⟩

end Go.Proofs.YtbegjpmifcnieaaGreatDoor

/- Package cred: ParseSys. -/
namespace Go.Proofs.YtbegjpmifcnieaaGreatDoor
open Go.RowKit
set_option linter.unusedVariables false
set_option linter.unusedSimpArgs false

theorem ownsRow_lower {w : World} {base base' e size n : Nat} {v : Value} {xs : List Value} (h : w.ownsRow base e size v n xs) (hb : base' ≤ base) : w.ownsRow base' e size v n xs := by
  refine ⟨h.1, ?_⟩
  rcases h.2 with h | ⟨g, cap, cur, hv, hg, hr⟩
  · exact .inl h
  · exact .inr ⟨g, cap, cur, hv, Nat.le_trans hb hg, hr⟩
theorem ownsRow_set5 {w : World} {base e size n b : Nat} {v : Value} {xs : List Value} (h : w.ownsRow base e size v n xs) (hb : v.ownBlock ≠ some b) (u0 u1 u2 u3 u4 : Value) :
    (((((w.setCell ⟨b, 0, none⟩ u0).setCell ⟨b, 1, none⟩ u1).setCell ⟨b, 2, none⟩ u2).setCell ⟨b, 3, none⟩ u3).setCell ⟨b, 4, none⟩ u4).ownsRow base e size v n xs :=
  ownsRow_setCell_other (ownsRow_setCell_other (ownsRow_setCell_other (ownsRow_setCell_other (ownsRow_setCell_other h hb u0) hb u1) hb u2) hb u3) hb u4
/-- a list of numbers that came out: new, or none. -/
def IntsNew (w0 w : World) (gv : Value) (xs : List Int) : Prop := w.ownsRow w0.heap.size 3 1 gv xs.length (xs.map (Value.int .i64))

def zeroSys : SysM := ⟨0, ByteArray.empty, 0, 0, []⟩
def parseSysM (a : AuthM) : SysM × Int :=
  if a.flavor = 1 then (if (RSt.sysS ⟨a.body, 0⟩).doneV = 0 ∧ namedB (RSt.sysV ⟨a.body, 0⟩) = true then (RSt.sysV ⟨a.body, 0⟩, 0) else (zeroSys, 111)) else (zeroSys, 112)
def sysVv (s : SysM) (gv : Value) : Value := .agg #[.int .i64 s.stamp, .string s.machine, .int .i64 s.user, .int .i64 s.group, gv]

set_option maxRecDepth 100000 in
set_option maxHeartbeats 4000000 in
theorem ParseSys_any (a : AuthM) (w : World) (hg : ErrT w) (hs : a.body.size ≤ 140737488351232) :
    Calls Tryz.prog 240 #[authV a] w fun r w' => Fr (fun _ => False) w w' ∧ ∃ gv, r = .returned (.tuple #[sysVv (parseSysM a).1 gv, .int .i64 (parseSysM a).2]) ∧ IntsNew w w' gv (parseSysM a).1.groups := by
  have HG := Lib.hid hg
  have hx1 := Lib.hid (heap_two (w := w) (a := .cells #[.int .i64 a.flavor, .string a.body] 43) (b := .cells #[.int .i64 0, .string ByteArray.empty, .int .i64 0, .int .i64 0, .slice none 0 0] 26))
  clear hg
  unfold authV
  by_cases hf : a.flavor = 1
  · have hb : (a.flavor != 1) = false := by rw [bne_eq_false_iff_eq]; exact hf
    have hP : parseSysM a = if (RSt.sysS ⟨a.body, 0⟩).doneV = 0 ∧ namedB (RSt.sysV ⟨a.body, 0⟩) = true then (RSt.sysV ⟨a.body, 0⟩, 0) else (zeroSys, 111) := if_pos hf
    have HP := Lib.hid hP
    clear hP hf
    have hx0 := Lib.hid (heap_three (w := w) (a := .cells #[.int .i64 a.flavor, .string a.body] 43) (b := .cells #[.int .i64 0, .string ByteArray.empty, .int .i64 0, .int .i64 0, .slice none 0 0] 26) (c := .cells #[.int .i64 0, .string ByteArray.empty, .int .i64 0, .int .i64 0, .slice none 0 0] 249))
    have hx1' := Lib.hid (heap_old (o := .cells #[.int .i64 0, .string ByteArray.empty, .int .i64 0, .int .i64 0, .slice none 0 0] 249) hx1.out)
    have hb3 : Below w.heap.size w (((w.alloc (.cells #[.int .i64 a.flavor, .string a.body] 43)).alloc (.cells #[.int .i64 0, .string ByteArray.empty, .int .i64 0, .int .i64 0, .slice none 0 0] 26)).alloc (.cells #[.int .i64 0, .string ByteArray.empty, .int .i64 0, .int .i64 0, .slice none 0 0] 249)) :=
      (((Below.refl _ _).alloc (Nat.le_refl _) _).alloc (by simp) _).alloc (by simp; omega) _
    have HB := Lib.hid hb3
    clear hb3
    go_enter Tryz.func240, Tryz.ntmps240
    go_wp2_with fail
    refine (RNew_any _ _ hs).mono ?_
    rintro e w1 ⟨rfl, hf1, hR⟩
    have hx0 := hidMove hx0 hf1 id
    have hx1 := hidMove hx1' hf1 id
    have hz1 := hf1.size
    simp only [World.size_alloc] at hR hz1
    go_wp2_with fail
    refine (reads_any (T := 249) [] _ hR hx0.out (by omega)).mono ?_
    rintro e w2 ⟨rfl, hf2, hR2, gv, hN, hO⟩
    have hx1 := hidMove hx1 hf2 (by omega)
    obtain ⟨GA, gc, rfl⟩ := owns_slice hO
    have hfw : Fr (fun _ => False) w w2 := ((Fr.ofBelow HB.out).then hf1 (fun _ _ h => h)).then hf2 (fun i hi h => by omega)
    have HG2 := Lib.hid (HG.out.fr hfw id)
    have hls := hR.lt
    have HN := Lib.hid hN
    have HO := Lib.hid hO
    clear hN hO
    go_wp2_with fail
    refine (RDone_any _ hR2 HG2.out).mono ?_
    rintro e w3 ⟨rfl, hf3⟩
    have hx1 := hidMove hx1 hf3 id
    have HN3 := Lib.hid (HN.out.fr hf3 id)
    have hfw3 := hfw.then hf3 (fun _ _ h => h)
    have hO3 : w3.ownsRow w1.heap.size 3 1 (.slice GA (RSt.sysV ⟨a.body, 0⟩).groups.length gc) _ _ := ownsRow_keep HO.out (fun g e => hf3.block g (HO.out.lt g e).2 id)
    have HA3 := Lib.hid (IntsAt.ofRow hO3)
    have HO3 := Lib.hid hO3
    clear hO3
    obtain ⟨⟨n0, n1, n2, n3, n4⟩, _⟩ := HN3.out.cells
    by_cases hd : (RSt.sysS ⟨a.body, 0⟩).doneV = 0
    · have hd1 : ((RSt.sysS ⟨a.body, 0⟩).doneV != 0) = false := by rw [hd]; rfl
      have HD := Lib.hid hd
      clear hd
      by_cases hn : namedB (RSt.sysV ⟨a.body, 0⟩) = true
      · go_wp2_with (go_at_call 143; refine (named_any (RSt.sysV ⟨a.body, 0⟩) GA gc _ HA3.out).mono ?_; rintro e w4 ⟨rfl, hf4⟩; have HN4 := Lib.hid (HN3.out.fr hf4 id); have hx1 := hidMove hx1 hf4 id; obtain ⟨⟨m0, m1, m2, m3, m4⟩, _⟩ := HN4.out.cells; obtain ⟨s0, s1, s2, s3, s4⟩ := box5 hx1; have t0 := freeOf hx1.out 0; have t1 := freeOf hx1.out 1; have t2 := freeOf hx1.out 2; have t3 := freeOf hx1.out 3; have t4 := freeOf hx1.out 4)
        have hd := HD.out
        have hfw4 := hfw3.then hf4 (fun _ _ h => h)
        have hz4 := hfw4.size
        have hO4 : w4.ownsRow w1.heap.size 3 1 (.slice GA (RSt.sysV ⟨a.body, 0⟩).groups.length gc) _ _ := ownsRow_keep HO3.out (fun g e => hf4.block g (HO3.out.lt g e).2 id)
        have hz1w : w.heap.size + 3 ≤ w1.heap.size := by omega
        refine bodyPost_ret (v := .tuple #[sysVv (RSt.sysV ⟨a.body, 0⟩) (.slice GA (RSt.sysV ⟨a.body, 0⟩).groups.length gc), .int .i64 0]) ?_ rfl ?_
        · simp [results, Tryz.results240, go_sem, sysVv, s0, s1, s2, s3, s4]
        · rw [HP.out, if_pos ⟨hd, hn⟩]
          refine ⟨(((((hfw4).setCell (.inr (by simp)) _).setCell (.inr (by simp)) _).setCell (.inr (by simp)) _).setCell (.inr (by simp)) _).setCell (.inr (by simp)) _, _, rfl, ?_⟩
          unfold IntsNew
          refine ownsRow_set5 (ownsRow_lower hO4 (by omega)) (fun e => ?_) _ _ _ _ _
          have := (hO4.lt _ e).1
          omega
      · have hn' := hn
        rw [Bool.not_eq_true] at hn
        go_wp2_with (go_at_call 143; refine (named_any (RSt.sysV ⟨a.body, 0⟩) GA gc _ HA3.out).mono ?_; rintro e w4 ⟨rfl, hf4⟩; have HN4 := Lib.hid (HN3.out.fr hf4 id); have hx1 := hidMove hx1 hf4 id; obtain ⟨⟨m0, m1, m2, m3, m4⟩, _⟩ := HN4.out.cells; obtain ⟨s0, s1, s2, s3, s4⟩ := box5 hx1; have t0 := freeOf hx1.out 0; have t1 := freeOf hx1.out 1; have t2 := freeOf hx1.out 2; have t3 := freeOf hx1.out 3; have t4 := freeOf hx1.out 4)
        have hd := HD.out
        have hfw4 := hfw3.then hf4 (fun _ _ h => h)
        have hz4 := hfw4.size
        refine bodyPost_ret (v := .tuple #[sysVv zeroSys (.slice none 0 0), .int .i64 111]) ?_ rfl ?_
        · simp [results, Tryz.results240, go_sem, sysVv, zeroSys, s0, s1, s2, s3, s4]
          rfl
        · rw [HP.out, if_neg (by simp [hd, hn])]
          exact ⟨(((((hfw4).setCell (.inr (by simp)) _).setCell (.inr (by simp)) _).setCell (.inr (by simp)) _).setCell (.inr (by simp)) _).setCell (.inr (by simp)) _, _, rfl, World.ownsRow_nil _ _ _ _⟩
    · have hd1 : ((RSt.sysS ⟨a.body, 0⟩).doneV != 0) = true := by rw [bne_iff_ne]; exact hd
      obtain ⟨s0, s1, s2, s3, s4⟩ := box5 hx1
      have t0 := freeOf hx1.out 0
      have t1 := freeOf hx1.out 1
      have t2 := freeOf hx1.out 2
      have t3 := freeOf hx1.out 3
      have t4 := freeOf hx1.out 4
      have HD := Lib.hid hd
      clear hd
      go_wp2
      · have hd := HD.out
        have hn : True := trivial
        have hfw4 := hfw3
        have hz4 := hfw4.size
        refine bodyPost_ret (v := .tuple #[sysVv zeroSys (.slice none 0 0), .int .i64 111]) ?_ rfl ?_
        · simp [results, Tryz.results240, go_sem, sysVv, zeroSys, s0, s1, s2, s3, s4]
          rfl
        · rw [HP.out, if_neg (by simp [hd])]
          exact ⟨(((((hfw4).setCell (.inr (by simp)) _).setCell (.inr (by simp)) _).setCell (.inr (by simp)) _).setCell (.inr (by simp)) _).setCell (.inr (by simp)) _, _, rfl, World.ownsRow_nil _ _ _ _⟩
  · have hb : (a.flavor != 1) = true := by rw [bne_iff_ne]; exact hf
    rw [show parseSysM a = (zeroSys, 112) from if_neg hf]
    clear hf
    go_enter Tryz.func240, Tryz.ntmps240
    go_wp2
    refine bodyPost_ret (v := .tuple #[sysVv zeroSys (.slice none 0 0), .int .i64 112]) ?_ rfl ⟨?_, _, rfl, World.ownsRow_nil _ _ _ _⟩
    · simp [results, Tryz.results240, go_sem, sysVv, zeroSys]
      rfl
    · exact ((Fr.refl _ _).alloc _).alloc _

end Go.Proofs.YtbegjpmifcnieaaGreatDoor

/- Package cred: ParseMark. -/
namespace Go.Proofs.YtbegjpmifcnieaaGreatDoor
open Go.RowKit
set_option linter.unusedVariables false
set_option linter.unusedSimpArgs false

def st1 (a : AuthM) : RSt := (RSt.mk a.body 0).hyper
def st2 (a : AuthM) : RSt := (st1 a).hyper
def st3 (a : AuthM) : RSt := (st2 a).hyper
def markOf (a : AuthM) : MarkM := ⟨(RSt.mk a.body 0).hyperV, (st1 a).hyperV, (st2 a).hyperV, (st3 a).sysV⟩
def zeroMark : MarkM := ⟨0, 0, 0, zeroSys⟩
def parseMarkM (a : AuthM) : MarkM × Int :=
  if a.flavor = 1296126539 then (if (st3 a).sysS.doneV = 0 ∧ mayB (markOf a) = true then (markOf a, 0) else (zeroMark, 111)) else (zeroMark, 112)
def markVv (m : MarkM) (gv : Value) : Value := .agg #[.int .i64 m.inst, .int .i64 m.seq, .int .i64 m.water, .int .i64 m.sys.stamp, .string m.sys.machine, .int .i64 m.sys.user, .int .i64 m.sys.group, gv]

theorem ownsRow_set8 {w : World} {base e size n b : Nat} {v : Value} {xs : List Value} (h : w.ownsRow base e size v n xs) (hb : v.ownBlock ≠ some b) (u0 u1 u2 u3 u4 u5 u6 u7 : Value) :
    ((((((((w.setCell ⟨b, 0, none⟩ u0).setCell ⟨b, 1, none⟩ u1).setCell ⟨b, 2, none⟩ u2).setCell ⟨b, 3, none⟩ u3).setCell ⟨b, 4, none⟩ u4).setCell ⟨b, 5, none⟩ u5).setCell ⟨b, 6, none⟩ u6).setCell ⟨b, 7, none⟩ u7).ownsRow base e size v n xs :=
  ownsRow_setCell_other (ownsRow_setCell_other (ownsRow_setCell_other (ownsRow_set5 h hb u0 u1 u2 u3 u4) hb u5) hb u6) hb u7
theorem Fr.set8 {w w' : World} (h : Fr (fun _ => False) w w') {b : Nat} (hb : w.heap.size ≤ b) (u0 u1 u2 u3 u4 u5 u6 u7 : Value) :
    Fr (fun _ => False) w ((((((((w'.setCell ⟨b, 0, none⟩ u0).setCell ⟨b, 1, none⟩ u1).setCell ⟨b, 2, none⟩ u2).setCell ⟨b, 3, none⟩ u3).setCell ⟨b, 4, none⟩ u4).setCell ⟨b, 5, none⟩ u5).setCell ⟨b, 6, none⟩ u6).setCell ⟨b, 7, none⟩ u7) :=
  (((((((h.setCell (.inr hb) _).setCell (.inr hb) _).setCell (.inr hb) _).setCell (.inr hb) _).setCell (.inr hb) _).setCell (.inr hb) _).setCell (.inr hb) _).setCell (.inr hb) _

set_option maxRecDepth 100000 in
set_option maxHeartbeats 4000000 in
theorem ParseMark_any (a : AuthM) (w : World) (hg : ErrT w) (hs : a.body.size ≤ 140737488351232) :
    Calls Tryz.prog 241 #[authV a] w fun r w' => Fr (fun _ => False) w w' ∧ ∃ gv, r = .returned (.tuple #[markVv (parseMarkM a).1 gv, .int .i64 (parseMarkM a).2]) ∧ IntsNew w w' gv (parseMarkM a).1.sys.groups := by
  have HG := Lib.hid hg
  have hx1 := Lib.hid (heap_two (w := w) (a := .cells #[.int .i64 a.flavor, .string a.body] 43) (b := .cells #[.int .i64 0, .int .i64 0, .int .i64 0, .int .i64 0, .string ByteArray.empty, .int .i64 0, .int .i64 0, .slice none 0 0] 132))
  clear hg
  unfold authV
  by_cases hf : a.flavor = 1296126539
  · have hb : (a.flavor != 1296126539) = false := by rw [bne_eq_false_iff_eq]; exact hf
    have hP : parseMarkM a = if (st3 a).sysS.doneV = 0 ∧ mayB (markOf a) = true then (markOf a, 0) else (zeroMark, 111) := if_pos hf
    have HP := Lib.hid hP
    clear hP hf
    have HB := Lib.hid ((((Below.refl _ _).alloc (Nat.le_refl _) _).alloc (by simp) _) : Below w.heap.size w ((w.alloc (.cells #[.int .i64 a.flavor, .string a.body] 43)).alloc (.cells #[.int .i64 0, .int .i64 0, .int .i64 0, .int .i64 0, .string ByteArray.empty, .int .i64 0, .int .i64 0, .slice none 0 0] 132)))
    go_enter Tryz.func241, Tryz.ntmps241
    go_wp2_with fail
    refine (RNew_any _ _ hs).mono ?_
    rintro e w1 ⟨rfl, hf1, hR⟩
    have hx1 := hidMove hx1 hf1 id
    have hz1 := hf1.size
    simp only [World.size_alloc] at hR hz1
    have hls := hR.lt
    have hfw1 := (Fr.ofBelow (S := fun _ => False) HB.out).then hf1 (fun _ _ h => h)
    go_wp2_with fail
    refine (RHyper_any _ hR).mono ?_
    rintro e w2 ⟨rfl, hf2, hs2, hR2⟩
    have hx1 := hidMove hx1 hf2 (by omega)
    have hfw2 := hfw1.then hf2 (fun i hi h => by omega)
    clear hs2
    go_wp2_with fail
    refine (RHyper_any _ hR2).mono ?_
    rintro e w3 ⟨rfl, hf3, hs3, hR3⟩
    have hx1 := hidMove hx1 hf3 (by omega)
    have hfw3 := hfw2.then hf3 (fun i hi h => by omega)
    clear hs3
    go_wp2_with fail
    refine (RHyper_any _ hR3).mono ?_
    rintro e w4 ⟨rfl, hf4, hs4, hR4⟩
    have hx1 := hidMove hx1 hf4 (by omega)
    have hfw4 := hfw3.then hf4 (fun i hi h => by omega)
    clear hs4
    have hlb4 := hR4.lt
    have hx0 := Lib.hid (heap_alloc_new w4 (.cells #[.int .i64 0, .string ByteArray.empty, .int .i64 0, .int .i64 0, .slice none 0 0, .int .i64 (markOf a).inst, .int .i64 (markOf a).seq, .int .i64 (markOf a).water] 316))
    have hR5 : Rd (w4.alloc (.cells #[.int .i64 0, .string ByteArray.empty, .int .i64 0, .int .i64 0, .slice none 0 0, .int .i64 (markOf a).inst, .int .i64 (markOf a).seq, .int .i64 (markOf a).water] 316)) (w.heap.size + 1 + 1) (st3 a) := hR4.keep (Below.heap_alloc _ _ _ hR4.lt)
    have hx1 : Hid ((w4.alloc (.cells #[.int .i64 0, .string ByteArray.empty, .int .i64 0, .int .i64 0, .slice none 0 0, .int .i64 (markOf a).inst, .int .i64 (markOf a).seq, .int .i64 (markOf a).water] 316)).heap[w.heap.size + 1]? = _) := Lib.hid (heap_old hx1.out)
    have e1 : (RSt.mk a.body 0).hyperV = (markOf a).inst := rfl
    have e2 : (RSt.mk a.body 0).hyper.hyperV = (markOf a).seq := rfl
    have e3 : (RSt.mk a.body 0).hyper.hyper.hyperV = (markOf a).water := rfl
    rw [e3]
    clear e3
    go_wp2_with fail
    clear e1 e2
    refine (reads_any (T := 316) [.int .i64 (markOf a).inst, .int .i64 (markOf a).seq, .int .i64 (markOf a).water] _ hR5 hx0.out (by omega)).mono ?_
    rintro e w5 ⟨rfl, hf5, hR5, gv, hN, hO⟩
    have hx1 := hidMove hx1 hf5 (by omega)
    obtain ⟨GA, gc, rfl⟩ := owns_slice hO
    have hfw5 : Fr (fun _ => False) w w5 := (hfw4.alloc _).then hf5 (fun i hi h => by omega)
    have HG5 := Lib.hid (HG.out.fr hfw5 id)
    have HN := Lib.hid hN
    have HO := Lib.hid hO
    clear hN hO
    go_wp2_with fail
    refine (RDone_any _ hR5 HG5.out).mono ?_
    rintro e w6 ⟨rfl, hf6⟩
    have hx1 := hidMove hx1 hf6 id
    have HN6 := Lib.hid (HN.out.fr hf6 id)
    have hfw6 := hfw5.then hf6 (fun _ _ h => h)
    have hO6 : w6.ownsRow _ 3 1 (.slice GA (markOf a).sys.groups.length gc) _ ((markOf a).sys.groups.map (Value.int .i64)) := ownsRow_keep HO.out (fun g e => hf6.block g (HO.out.lt g e).2 id)
    have HA6 := Lib.hid (IntsAt.ofRow hO6)
    have HO6 := Lib.hid hO6
    clear hO6
    obtain ⟨q0, q1, q2, q3, q4, q5, q6, q7⟩ := box8 HN6
    by_cases hd : (st3 a).sysS.doneV = 0
    · have hd1 : ((st3 a).sysS.doneV != 0) = false := by rw [hd]; rfl
      have HD := Lib.hid hd
      clear hd
      by_cases hn : mayB (markOf a) = true
      · go_wp2_with (go_at_call 202; refine (may_any (markOf a) GA gc _ HA6.out).mono ?_; rintro e w7 ⟨rfl, hf7⟩; have HN7 := Lib.hid (HN6.out.fr hf7 id); have hx1 := hidMove hx1 hf7 id; obtain ⟨m0, m1, m2, m3, m4, m5, m6, m7⟩ := box8 HN7; obtain ⟨s0, s1, s2, s3, s4, s5, s6, s7⟩ := box8 hx1; have t0 := freeOf hx1.out 0; have t1 := freeOf hx1.out 1; have t2 := freeOf hx1.out 2; have t3 := freeOf hx1.out 3; have t4 := freeOf hx1.out 4; have t5 := freeOf hx1.out 5; have t6 := freeOf hx1.out 6; have t7 := freeOf hx1.out 7)
        have hd := HD.out
        have hfw7 := hfw6.then hf7 (fun _ _ h => h)
        have hO7 : w7.ownsRow _ 3 1 (.slice GA (markOf a).sys.groups.length gc) _ ((markOf a).sys.groups.map (Value.int .i64)) := ownsRow_keep HO6.out (fun g e => hf7.block g (HO6.out.lt g e).2 id)
        have hz4 : w.heap.size + 3 ≤ w4.heap.size := by omega
        refine bodyPost_ret (v := .tuple #[markVv (markOf a) (.slice GA (markOf a).sys.groups.length gc), .int .i64 0]) ?_ rfl ?_
        · simp [results, Tryz.results241, go_sem, markVv, s0, s1, s2, s3, s4, s5, s6, s7]
          exact ⟨rfl, rfl, rfl, rfl, rfl⟩
        · rw [HP.out, if_pos ⟨hd, hn⟩]
          refine ⟨hfw7.set8 (by omega) _ _ _ _ _ _ _ _, _, rfl, ?_⟩
          unfold IntsNew
          refine ownsRow_set8 (ownsRow_lower hO7 (by simp; omega)) (fun e => ?_) _ _ _ _ _ _ _ _
          have := (hO7.lt _ e).1
          simp at this
          omega
      · have hn' := hn
        rw [Bool.not_eq_true] at hn
        go_wp2_with (go_at_call 202; refine (may_any (markOf a) GA gc _ HA6.out).mono ?_; rintro e w7 ⟨rfl, hf7⟩; have hx1 := hidMove hx1 hf7 id; obtain ⟨s0, s1, s2, s3, s4, s5, s6, s7⟩ := box8 hx1; have t0 := freeOf hx1.out 0; have t1 := freeOf hx1.out 1; have t2 := freeOf hx1.out 2; have t3 := freeOf hx1.out 3; have t4 := freeOf hx1.out 4; have t5 := freeOf hx1.out 5; have t6 := freeOf hx1.out 6; have t7 := freeOf hx1.out 7)
        have hd := HD.out
        have hfw7 := hfw6.then hf7 (fun _ _ h => h)
        refine bodyPost_ret (v := .tuple #[markVv zeroMark (.slice none 0 0), .int .i64 111]) ?_ rfl ?_
        · simp [results, Tryz.results241, go_sem, markVv, zeroMark, zeroSys, s0, s1, s2, s3, s4, s5, s6, s7]
          rfl
        · rw [HP.out, if_neg (by simp [hd, hn])]
          exact ⟨hfw7.set8 (by omega) _ _ _ _ _ _ _ _, _, rfl, World.ownsRow_nil _ _ _ _⟩
    · have hd1 : ((st3 a).sysS.doneV != 0) = true := by rw [bne_iff_ne]; exact hd
      obtain ⟨s0, s1, s2, s3, s4, s5, s6, s7⟩ := box8 hx1
      have t0 := freeOf hx1.out 0
      have t1 := freeOf hx1.out 1
      have t2 := freeOf hx1.out 2
      have t3 := freeOf hx1.out 3
      have t4 := freeOf hx1.out 4
      have t5 := freeOf hx1.out 5
      have t6 := freeOf hx1.out 6
      have t7 := freeOf hx1.out 7
      have HD := Lib.hid hd
      clear hd
      go_wp2
      have hd := HD.out
      refine bodyPost_ret (v := .tuple #[markVv zeroMark (.slice none 0 0), .int .i64 111]) ?_ rfl ?_
      · simp [results, Tryz.results241, go_sem, markVv, zeroMark, zeroSys, s0, s1, s2, s3, s4, s5, s6, s7]
        rfl
      · rw [HP.out, if_neg (by simp [hd])]
        exact ⟨hfw6.set8 (by omega) _ _ _ _ _ _ _ _, _, rfl, World.ownsRow_nil _ _ _ _⟩
  · have hb : (a.flavor != 1296126539) = true := by rw [bne_iff_ne]; exact hf
    rw [show parseMarkM a = (zeroMark, 112) from if_neg hf]
    clear hf
    go_enter Tryz.func241, Tryz.ntmps241
    go_wp2
    refine bodyPost_ret (v := .tuple #[markVv zeroMark (.slice none 0 0), .int .i64 112]) ?_ rfl ⟨?_, _, rfl, World.ownsRow_nil _ _ _ _⟩
    · simp [results, Tryz.results241, go_sem, markVv, zeroMark, zeroSys]
      rfl
    · exact ((Fr.refl _ _).alloc _).alloc _

end Go.Proofs.YtbegjpmifcnieaaGreatDoor
