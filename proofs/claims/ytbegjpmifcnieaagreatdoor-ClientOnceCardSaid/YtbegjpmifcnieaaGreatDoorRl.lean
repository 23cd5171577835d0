/- Package message: fields that are read. -/
import Derived.Test.YtbegjpmifcnieaaGreatDoorNf
import Derived.Test.YtbegjpmifcnieaaGreatDoorMa
import Derived.Laws.ResultCell
namespace Go.Proofs.YtbegjpmifcnieaaGreatDoor
open Go.RowKit
set_option linter.unusedVariables false
set_option linter.unusedSimpArgs false

/-- numbers laid where pointers lead. -/
def setAll : World → List Addr → List Int → World
  | w, p :: ps, v :: vs => setAll (w.setCell p (.int .i64 v)) ps vs
  | w, _, _ => w
theorem setAll_snoc : ∀ (ps : List Addr) (vs : List Int) (w : World) (p : Addr) (v : Int), ps.length = vs.length → setAll w (ps ++ [p]) (vs ++ [v]) = (setAll w ps vs).setCell p (.int .i64 v)
  | [], [], _, _, _, _ => rfl
  | q :: ps, x :: vs, w, p, v, h => setAll_snoc ps vs (w.setCell q (.int .i64 x)) p v (by simpa using h)
theorem setAll_other {j : Nat} : ∀ (ps : List Addr) (vs : List Int) (w : World), (∀ p ∈ ps, p.block ≠ j) → (setAll w ps vs).heap[j]? = w.heap[j]?
  | [], _, _, _ => rfl
  | _ :: _, [], _, _ => rfl
  | p :: ps, v :: vs, w, h => (setAll_other ps vs _ (fun q hq => h q (List.mem_cons_of_mem _ hq))).trans (Below.heap_setCell w p (.int .i64 v) _ (h p (List.mem_cons_self ..)).symm)
theorem setAll_size : ∀ (ps : List Addr) (vs : List Int) (w : World), (setAll w ps vs).heap.size = w.heap.size
  | [], _, _ => rfl
  | _ :: _, [], _ => rfl
  | p :: ps, v :: vs, w => (setAll_size ps vs _).trans (by simp)
theorem setAll_fr {S : Nat → Prop} : ∀ (ps : List Addr) (vs : List Int) (a w : World), Fr S a w → (∀ p ∈ ps, S p.block ∨ a.heap.size ≤ p.block) → Fr S a (setAll w ps vs)
  | [], _, _, _, h, _ => h
  | _ :: _, [], _, _, h, _ => h
  | p :: ps, v :: vs, a, w, h, hp => setAll_fr ps vs a _ (h.setCell (hp p (List.mem_cons_self ..)) _) (fun q hq => hp q (List.mem_cons_of_mem _ hq))

/-- a place where a number lies. -/
def Spot (w : World) (p : Addr) : Prop := p.spot = none ∧ ∃ cs T x, w.heap[p.block]? = some (.cells cs T (0, 0)) ∧ cs[p.off]? = some (.int .i64 x)
theorem Spot.cell {w : World} {p : Addr} (h : Spot w p) : (∃ x, w.cell? p = some (.int .i64 x)) ∧ w.frozen? p = false := by
  obtain ⟨b, o, s⟩ := p
  obtain ⟨rfl, cs, T, x, hb, ho⟩ := h
  exact ⟨⟨x, (cellOf hb o).trans ho⟩, freeOf hb o⟩
theorem Spot.lt {w : World} {p : Addr} (h : Spot w p) : p.block < w.heap.size := by obtain ⟨_, cs, T, x, hb, _⟩ := h; exact lt_of_block hb
theorem Spot.keep {w w' : World} {p : Addr} (h : Spot w p) (hk : w'.heap[p.block]? = w.heap[p.block]?) : Spot w' p := by
  obtain ⟨hs, cs, T, x, hb, ho⟩ := h
  exact ⟨hs, cs, T, x, hk.trans hb, ho⟩
theorem Spot.set {w : World} {p q : Addr} (h : Spot w p) (hq : q.spot = none) (v : Int) : Spot (w.setCell q (.int .i64 v)) p := by
  obtain ⟨hs, cs, T, x, hb, ho⟩ := h
  by_cases e : p.block = q.block
  · obtain ⟨y, hy⟩ : ∃ y, (cs.setIfInBounds q.off (.int .i64 v))[p.off]? = some (.int .i64 y) := by
      by_cases e2 : q.off = p.off
      · rw [e2]
        have hlt : p.off < cs.size := by
          rcases Nat.lt_or_ge p.off cs.size with h | h
          · exact h
          · rw [Array.getElem?_eq_none h] at ho; cases ho
        exact ⟨v, by simp [hlt]⟩
      · exact ⟨x, by rw [Array.getElem?_setIfInBounds_ne e2]; exact ho⟩
    refine ⟨hs, cs.setIfInBounds q.off (.int .i64 v), T, y, ?_, hy⟩
    obtain ⟨b, o, s⟩ := q
    cases hq
    cases e
    exact setOf' hb o _
  · exact ⟨hs, cs, T, x, (Below.heap_setCell w q _ _ e).trans hb, ho⟩
theorem Spot.setAll {p : Addr} : ∀ (ps : List Addr) (vs : List Int) (w : World), Spot w p → (∀ q ∈ ps, q.spot = none) → Spot (setAll w ps vs) p
  | [], _, _, h, _ => h
  | _ :: _, [], _, h, _ => h
  | q :: ps, v :: vs, w, h, hq => Spot.setAll ps vs _ (h.set (hq q (List.mem_cons_self ..)) _) (fun x hx => hq x (List.mem_cons_of_mem _ hx))
theorem Fr.setBoth {S : Nat → Prop} {w w' : World} (h : Fr S w w') {p : Addr} (hp : ¬ S p.block) (hl : p.block < w.heap.size) (v : Value) : Fr S (w.setCell p v) (w'.setCell p v) := by
  refine ⟨h.os, h.tape, h.output, by rw [World.size_setCell, World.size_setCell]; exact h.size, fun k hk hn => ?_⟩
  rw [World.size_setCell] at hk
  by_cases e : k = p.block
  · subst e
    have := h.block _ hl hp
    simp only [World.setCell, Array.getElem?_modify, if_true]
    rw [this]
  · rw [Below.heap_setCell _ _ _ _ e, Below.heap_setCell _ _ _ _ e]
    exact h.block k hk hn

theorem uintsV_take (st : RSt) (k : Nat) : st.uintsV (k + 1) = st.uintsV k ++ [(st.uintsS k).uintV] := rfl

set_option maxRecDepth 100000 in
set_option maxHeartbeats 4000000 in
theorem read_any {b base c g : Nat} {st : RSt} (ps : List Addr) (w : World) (h : Rd w b st) (hn : ps.length ≤ 1000)
    (ho : w.ownsRow base 326 3 (.slice (some ⟨g, 0, none⟩) ps.length c) ps.length (fieldCells ps)) (hg : g ≠ b) (hp : ∀ p ∈ ps, Spot w p ∧ p.block ≠ b ∧ p.block ≠ g) :
    Calls Tryz.prog 159 #[.pointer (some ⟨b, 0, none⟩), .slice (some ⟨g, 0, none⟩) ps.length c] w fun r w' => r = .returned (.tuple #[]) ∧ Rd w' b (st.uintsS ps.length) ∧ Fr (fun k => k = b) (setAll w ps (st.uintsV ps.length)) w' := by
  have HO := Lib.hid ho
  have HP := Lib.hid hp
  have HR := Lib.hid h
  have hgs := (ho.lt g rfl).2
  clear ho hp h
  go_enter Tryz.func159, Tryz.ntmps159
  go_wp2
  go_loopw [8] (fun i wr => ∃ k : Nat, k ≤ ps.length ∧ i = .int .i64 k ∧ Hid (Rd wr b (st.uintsS k)) ∧ Hid (Fr (fun k => k = b) (setAll w (ps.take k) (st.uintsV k)) wr)) (fun i _ => ps.length - (intOf i).toNat)
  case atStart => exact ⟨0, Nat.zero_le _, rfl, HR, Lib.hid (Fr.refl _ _)⟩
  case round =>
    obtain ⟨k, hkk, rfl, HW, HF⟩ := hrel
    by_cases hlt : k < ps.length
    · have hrow : wr.ownsRow base 326 3 (.slice (some ⟨g, 0, none⟩) ps.length c) ps.length (fieldCells ps) :=
        ownsRow_keep HO.out (fun g' e => by
          injection e with e; subst e
          exact (HF.out.block _ (by rw [setAll_size]; exact hgs) hg).trans (setAll_other _ _ _ (fun p hp => (HP.out p (List.mem_of_mem_take hp)).2.2)))
      have hf0 := row_cell hrow rfl (k * 3) _ ((fieldCells_at ps k hlt default 0 (by omega)).trans rfl)
      have hf1 := row_cell hrow rfl (k * 3 + 1) _ ((fieldCells_at ps k hlt default 1 (by omega)).trans rfl)
      have hf2 := row_cell hrow rfl (k * 3 + 2) _ ((fieldCells_at ps k hlt default 2 (by omega)).trans rfl)
      have hmem : ps.getD k default ∈ ps := by rw [getD_lt ps default hlt]; exact List.getElem_mem hlt
      obtain ⟨hps, hpb, hpg⟩ := HP.out _ hmem
      have htk : ps.take (k + 1) = ps.take k ++ [ps.getD k default] := by rw [getD_lt ps default hlt, List.take_succ_eq_append_getElem hlt]
      have hsn := setAll_snoc (ps.take k) (st.uintsV k) w (ps.getD k default) (st.uintsS k).uintV (by rw [uintsV_length]; simp; omega)
      rw [← htk, ← uintsV_take] at hsn
      clear hrow hmem htk
      generalize ps.getD k default = p at hf0 hps hpb hsn
      have hps2 : Spot (setAll w (ps.take k) (st.uintsV k)) p := Spot.setAll _ _ _ hps (fun q hq => (HP.out q (List.mem_of_mem_take hq)).1.1)
      have hpl : p.block < (setAll w (ps.take k) (st.uintsV k)).heap.size := hps2.lt
      have hpr : Spot wr p := hps2.keep (HF.out.block _ hpl hpb)
      have HSN := Lib.hid hsn
      have HPR := Lib.hid hpr
      have HPL := Lib.hid hpl
      have HPB := Lib.hid hpb
      clear hsn hpr hps hps2 hpl hpb
      have hRd : Rd (wr.alloc (.cells #[.pointer (some p), .func (.func 213) #[] #[], .func (.func 217) #[] #[]] 326)).drew b (st.uintsS k) := HW.out.fr (S := fun _ => False) (((Fr.refl _ _).alloc _).drew) id
      have hSp : Spot (wr.alloc (.cells #[.pointer (some p), .func (.func 213) #[] #[], .func (.func 217) #[] #[]] 326)).drew p := HPR.out.keep (((Fr.refl (fun _ => False) wr).alloc (.cells #[.pointer (some p), .func (.func 213) #[] #[], .func (.func 217) #[] #[]] 326)).drew.block _ HPR.out.lt id)
      have HSp := Lib.hid hSp
      have HFX := Lib.hid (show (wr.alloc (.cells #[.pointer (some p), .func (.func 213) #[] #[], .func (.func 217) #[] #[]] 326)).drew.heap[wr.heap.size]? = _ from heap_alloc_new wr _)
      have hbl := HW.out.lt
      have HRd := Lib.hid hRd
      clear hSp hRd
      go_wp2_with fail
      go_region_with (go_at_call 217; refine (RUint_any _ HRd.out).mono ?_; rintro e w2 ⟨rfl, hk, hs2, hI⟩; have hq0 := cellOf (hidMove HFX hk (by omega)).out 0; have hql := lt_of_block (hidMove HFX hk (by omega)).out; obtain ⟨⟨u, hu⟩, hfz⟩ := (HSp.out.keep (hk.block _ HSp.out.lt HPB.out)).cell)
      all_goals
        have hF2 := Lib.hid ((HF.out.trans ((((Fr.refl (fun k => k = b) wr).alloc (.cells #[.pointer (some p), .func (.func 213) #[] #[], .func (.func 217) #[] #[]] 326)).drew).trans hk)).setBoth HPB.out HPL.out (.int .i64 (st.uintsS k).uintV))
        have hI2 : Rd (w2.setCell p (.int .i64 (st.uintsS k).uintV)) b (st.uintsS k).uint := hI.keep (Below.heap_setCell _ _ _ _ (fun e => HPB.out e.symm))
        have HI2 := Lib.hid hI2
        clear hI2
        go_wp2
        exact ⟨⟨k + 1, by omega, by go_num, HI2, by rw [HSN.out]; exact hF2⟩, by simp [intOf]; omega⟩
    · have hk2 : k = ps.length := by omega
      subst hk2
      have hxe : ps.take ps.length = ps := List.take_length
      rw [hxe] at HF
      clear hxe
      go_wp2
      go_end0
      exact ⟨rfl, HW.out, HF.out⟩

set_option maxRecDepth 100000 in
theorem read_none (b c : Nat) (A : Option Addr) (w : World) :
    Calls Tryz.prog 159 #[.pointer (some ⟨b, 0, none⟩), .slice A 0 c] w fun r w' => r = .returned (.tuple #[]) ∧ w = w' := by
  go_enter Tryz.func159, Tryz.ntmps159
  go_wp2
  go_loopw [8] (fun i wr => i = .int .i64 0 ∧ w = wr) (fun _ _ => 0)
  case atStart => exact ⟨rfl, rfl⟩
  case round =>
    obtain ⟨rfl, rfl⟩ := hrel
    go_wp2
    go_end0
    exact ⟨rfl, rfl⟩
theorem read_row {b base c n : Nat} {A : Option Addr} {st : RSt} (ps : List Addr) (w : World) (h : Rd w b st) (hn : ps.length ≤ 1000) (hl : ps.length = n)
    (ho : w.ownsRow base 326 3 (.slice A n c) ps.length (fieldCells ps)) (hp : ∀ p ∈ ps, Spot w p ∧ p.block ≠ b ∧ ∀ g, A = some ⟨g, 0, none⟩ → p.block ≠ g) (hg : ∀ g, A = some ⟨g, 0, none⟩ → g ≠ b) :
    Calls Tryz.prog 159 #[.pointer (some ⟨b, 0, none⟩), .slice A n c] w fun r w' => r = .returned (.tuple #[]) ∧ Rd w' b (st.uintsS ps.length) ∧ Fr (fun k => k = b) (setAll w ps (st.uintsV ps.length)) w' := by
  subst hl
  by_cases h0 : 0 < ps.length
  · obtain ⟨g, c', e, h1, h2⟩ := owns_some ho h0
    injection e with e1 e2 e3
    subst e1 e3
    exact read_any ps w h hn ho (hg g rfl) (fun p hp' => ⟨(hp p hp').1, (hp p hp').2.1, (hp p hp').2.2 g rfl⟩)
  · have hz : ps = [] := List.eq_nil_of_length_eq_zero (by omega)
    subst hz
    exact (read_none b c A w).mono fun r w' ⟨h1, h2⟩ => ⟨h1, by subst h2; exact ⟨h, Fr.refl _ _⟩⟩

set_option maxRecDepth 100000 in
set_option maxHeartbeats 2000000 in
theorem readAuth_any {b : Nat} {st : RSt} (w : World) (h : Rd w b st) :
    Calls Tryz.prog 160 #[.pointer (some ⟨b, 0, none⟩)] w fun r w' => r = .returned (.agg #[.int .i64 st.authV.flavor, .string st.authV.body]) ∧ Fr (fun k => k = b) w w' ∧ Rd w' b st.authS := by
  have hlt := h.lt
  have h0 := h.fr (S := fun _ => False) ((Fr.refl _ _).alloc (.cells #[.int .i64 0, .string ByteArray.empty] 43)) id
  have hx := Lib.hid (heap_alloc_new w (.cells #[.int .i64 0, .string ByteArray.empty] 43))
  go_enter Tryz.func160, Tryz.ntmps160
  go_wp2_with fail
  refine (RUint_any _ h0).mono ?_
  rintro e w1 ⟨rfl, hf1, hs1, h1⟩
  have hx := hidMove hx hf1 (by omega)
  go_wp2_with fail
  refine (ROpaque_any 400 _ h1).mono ?_
  rintro e w2 ⟨rfl, hf2, hs2, h2⟩
  have hx := hidMove hx hf2 (by omega)
  obtain ⟨x0, x1, f0, f1⟩ := box2 hx
  have hl := lt_of_block hx.out
  have h3 : Rd ((w2.setCell ⟨w.heap.size, 0, none⟩ (.int .i64 st.uintV)).setCell ⟨w.heap.size, 1, none⟩ (.string (st.uint.opaqueV 400))) b st.authS := (h2.keep (Below.heap_setCell _ _ _ _ (by show b ≠ w.heap.size; omega))).keep (Below.heap_setCell _ _ _ _ (by show b ≠ w.heap.size; omega))
  have H3 := Lib.hid h3
  have hfr : Fr (fun k => k = b) w w2 := (((Fr.refl _ _).alloc _).trans hf1).trans hf2
  have HF := Lib.hid hfr
  clear h h0 h1 h2 h3 hfr hf1 hf2 hs1 hs2
  go_wp2
  refine bodyPost_ret (v := .agg #[.int .i64 st.authV.flavor, .string st.authV.body]) ?_ rfl ⟨rfl, (HF.out.setCell (.inr (Nat.le_refl _)) _).setCell (.inr (Nat.le_refl _)) _, H3.out⟩
  simp [results, Tryz.results160, go_sem, x0, x1, hl, RSt.authV]
end Go.Proofs.YtbegjpmifcnieaaGreatDoor

/- Rows of cells that come out beside a number; readers and boxes beside them. -/
namespace Go.Proofs.YtbegjpmifcnieaaGreatDoor
open Go.RowKit
set_option linter.unusedVariables false
set_option linter.unusedSimpArgs false

theorem wpList_last {P : Program} {ops : Array Oper} {Q : Exit → Act → World → Prop} {a : Act} {w : World} {e ty : Nat} {v : Value} {pos : String} {af} (h : Q .normal (a.put (some e) v) w) :
    wpList P ops Q [{ dst := some e, op := .assign (.const v), type := ty, pos := pos, after := af, guard := none }] a w := by
  refine wpList_plain rfl fun K hK => ?_
  unfold Oper.wp execOp
  exact hK _ _ h

theorem wp_copy_row3 {P : Program} {id T d e x y ty0 ty1 ty2 : Nat} {v : Value} {pos0 pos1 pos2 : String} {af0 af1 af2} {Q : Exit → Act → World → Prop} {a : Act} {w : World} (s g t0 t1 : Nat) (cs old : Array Value) (fs : Array Field)
    (hx : a.eval (.tmp x) = .pointer (some ⟨s, 0, none⟩)) (hs : w.heap[s]? = some (.cells cs t0 (0, 0)))
    (hy : (a.put (some d) (.agg cs)).eval (.tmp y) = .pointer (some ⟨g, 0, none⟩)) (hd : (a.put (some d) (.agg cs)).eval (.tmp d) = .agg cs)
    (hg : w.heap[g]? = some (.cells old t1 (0, 0))) (hu : P.underlying T = some (.struct fs)) (hi : (P.info? T).map (·.size) = some cs.size) (ho : old.size = cs.size) (h1 : cs.all (·.oneCell') = true)
    (h : ∀ w', w'.heap[g]? = some (.cells cs t1 (0, 0)) → Fr (fun k => k = g) w w' → Q .normal (((a.put (some d) (.agg cs)).put none undef).put (some e) v) w') :
    (Code.region id #[{ dst := some d, op := .load T (.tmp x), type := ty0, pos := pos0, after := af0, guard := none }, { dst := none, op := .store T (.tmp y) (.tmp d), type := ty1, pos := pos1, after := af1, guard := none }, { dst := some e, op := .assign (.const v), type := ty2, pos := pos2, after := af2, guard := none }] false).wp P Q a w := by
  refine wp_region_lit (l := [_, _, _]) ?_
  refine wpList_load_row rfl T (.tmp x) rfl s hx t0 cs (0, 0) (.struct fs) hs hu rfl hi ?_
  refine wpList_store_row rfl T (.tmp y) (.tmp d) rfl g cs hy hd t1 old hg hi ho h1 ?_
  exact wpList_last (h _ (setRow_heap w g old cs t1 (0, 0) hg) (Fr.setRow (S := fun k => k = g) (Fr.refl _ _) (.inl rfl) cs))
theorem wp_zero_row3 {P : Program} {id T d e y ty0 ty1 ty2 : Nat} {v : Value} {pos0 pos1 pos2 : String} {af0 af1 af2} {Q : Exit → Act → World → Prop} {a : Act} {w : World} (g t1 : Nat) (cs old : Array Value)
    (hb : P.built T [] = some cs)
    (hy : (a.put (some d) (.agg cs)).eval (.tmp y) = .pointer (some ⟨g, 0, none⟩)) (hd : (a.put (some d) (.agg cs)).eval (.tmp d) = .agg cs)
    (hg : w.heap[g]? = some (.cells old t1 (0, 0))) (hi : (P.info? T).map (·.size) = some cs.size) (ho : old.size = cs.size) (h1 : cs.all (·.oneCell') = true)
    (h : ∀ w', w'.heap[g]? = some (.cells cs t1 (0, 0)) → Fr (fun k => k = g) w w' → Q .normal (((a.put (some d) (.agg cs)).put none undef).put (some e) v) w') :
    (Code.region id #[{ dst := some d, op := .build T #[], type := ty0, pos := pos0, after := af0, guard := none }, { dst := none, op := .store T (.tmp y) (.tmp d), type := ty1, pos := pos1, after := af1, guard := none }, { dst := some e, op := .assign (.const v), type := ty2, pos := pos2, after := af2, guard := none }] false).wp P Q a w := by
  refine wp_region_lit (l := [_, _, _]) ?_
  refine wpList_build rfl T #[] rfl (by simp [hb]) ?_
  simp only [List.map_toArray, List.map_nil, hb, Option.getD_some]
  refine wpList_store_row rfl T (.tmp y) (.tmp d) rfl g cs hy hd t1 old hg hi ho h1 ?_
  exact wpList_last (h _ (setRow_heap w g old cs t1 (0, 0) hg) (Fr.setRow (S := fun k => k = g) (Fr.refl _ _) (.inl rfl) cs))
theorem results_row_tmp {P : Program} {fn : Func} {p u : Tmp} {T : TypeId} (h : fn.results = #[.cell p T, .tmp u]) (tmps : Array Value) (w : World) (g t : Nat) (cs : Array Value) (fs : Array Field) (v : Value)
    (hp : tmps.getD p undef = .pointer (some ⟨g, 0, none⟩)) (hv : tmps.getD u undef = v) (hg : w.heap[g]? = some (.cells cs t (0, 0))) (hu : P.underlying T = some (.struct fs)) (hi : (P.info? T).map (·.size) = some cs.size) :
    (results fn tmps).run P w = .ok (.tuple #[.agg cs, v]) w := by
  rw [results_cell_tmp h, hp, hv]
  simp [asAddr, run_loadVar_row w g t T cs (0, 0) (.struct fs) hg hu rfl hi]

/-- a Reader that was made since a world, and boxes beside it. -/
structure PBo (w0 : World) (b : Nat) (B : List (Nat × Obj)) (w : World) (st : RSt) : Prop where
  rd : Rd w b st
  fr : Fr (fun _ => False) w0 w
  box : ∀ p ∈ B, w.heap[p.1]? = some p.2 ∧ p.1 ≠ b ∧ w0.heap.size ≤ p.1
  new : w0.heap.size ≤ b
section
variable {w0 w w' : World} {b : Nat} {B : List (Nat × Obj)} {st st' : RSt}
theorem PBo.at (h : PBo w0 b B w st) (i : Nat) {k : Nat} {o : Obj} (hi : B[i]? = some (k, o)) : w.heap[k]? = some o := (h.box (k, o) (List.mem_of_getElem? hi)).1
theorem PBo.stay (h : PBo w0 b B w st) (hf : Fr (fun _ => False) w w') : PBo w0 b B w' st :=
  ⟨h.rd.fr hf id, h.fr.trans hf, fun p hp => ⟨(hf.block _ (lt_of_block (h.box p hp).1) id).trans (h.box p hp).1, (h.box p hp).2⟩, h.new⟩
theorem PBo.step (h : PBo w0 b B w st) (hf : Fr (fun k => k = b) w w') (hr : Rd w' b st') : PBo w0 b B w' st' :=
  ⟨hr, h.fr.then hf (fun i hi e => by have := h.new; omega), fun p hp => ⟨(hf.block _ (lt_of_block (h.box p hp).1) (h.box p hp).2.1).trans (h.box p hp).1, (h.box p hp).2⟩, h.new⟩
theorem PBo.more (h : PBo w0 b B w st) (o : Obj) {n : Nat} (hn : n = w.heap.size) : PBo w0 b ((n, o) :: B) (w.alloc o) st := by
  subst hn
  have h2 := h.stay (w' := w.alloc o) ((Fr.refl _ _).alloc o)
  refine ⟨h2.rd, h2.fr, fun p hp => ?_, h2.new⟩
  rcases List.mem_cons.1 hp with rfl | hp
  · exact ⟨heap_alloc_new w o, by have := h.rd.lt; show w.heap.size ≠ b; omega, h.fr.size⟩
  · exact h2.box p hp
theorem PBo.row (h : PBo w0 b B w st) (hf : Fr (fun _ => False) w w') {g : Nat} (hg : w.heap.size ≤ g) (hl : g < w'.heap.size) : ∃ o, PBo w0 b ((g, o) :: B) w' st := by
  have h2 := h.stay hf
  refine ⟨w'.heap[g], h2.rd, h2.fr, fun p hp => ?_, h2.new⟩
  rcases List.mem_cons.1 hp with rfl | hp
  · exact ⟨Array.getElem?_eq_getElem hl, by have := h.rd.lt; show g ≠ b; omega, by have := h.fr.size; show _ ≤ g; omega⟩
  · exact h2.box p hp
theorem PBo.sub {B' : List (Nat × Obj)} (h : PBo w0 b B w st) (hs : ∀ p ∈ B', p ∈ B) : PBo w0 b B' w st := ⟨h.rd, h.fr, fun p hp => h.box p (hs p hp), h.new⟩
theorem PBo.less {p : Nat × Obj} (h : PBo w0 b (p :: B) w st) : PBo w0 b B w st := ⟨h.rd, h.fr, fun q hq => h.box q (List.mem_cons_of_mem _ hq), h.new⟩
/-- some boxes written: what they hold then is said anew. -/
theorem PBo.move (h : PBo w0 b B w st) {W : World} {B' : List (Nat × Obj)} (hW : Fr (fun k => w0.heap.size ≤ k) w W) (hf : Fr (fun k => k = b) W w') (hr : Rd w' b st') (hB : ∀ p ∈ B', W.heap[p.1]? = some p.2 ∧ ∃ o, (p.1, o) ∈ B) : PBo w0 b B' w' st' := by
  refine ⟨hr, (h.fr.then hW (fun i hi e => by omega)).then hf (fun i hi e => by have := h.new; omega), fun p hp => ?_, h.new⟩
  obtain ⟨h1, o, h2⟩ := hB p hp
  have h3 := h.box _ h2
  exact ⟨(hf.block _ (lt_of_block h1) h3.2.1).trans h1, h3.2⟩
theorem PBo.spot (h : PBo w0 b B w st) (i : Nat) {k j : Nat} {cs : Array Value} {T : Nat} {x : Int} (hi : B[i]? = some (k, .cells cs T (0, 0))) (hj : cs[j]? = some (.int .i64 x)) : Spot w ⟨k, j, none⟩ := ⟨rfl, cs, T, x, h.at i hi, hj⟩
theorem PBo.set (h : PBo w0 b B w st) {W : World} {B' : List (Nat × Obj)} (hW : Fr (fun k => w0.heap.size ≤ k) w W) (hr : Rd W b st) (hB : ∀ p ∈ B', W.heap[p.1]? = some p.2 ∧ ∃ o, (p.1, o) ∈ B) : PBo w0 b B' W st :=
  h.move hW (Fr.refl _ _) hr hB
theorem PBo.put {B1 B2 : List (Nat × Obj)} {C T : Nat} {cs : Array Value} (h : PBo w0 b (B1 ++ (C, .cells cs T (0, 0)) :: B2) w st) (hd : ∀ p ∈ B1 ++ B2, p.1 ≠ C) (j : Nat) (v : Value) :
    PBo w0 b (B1 ++ (C, .cells (cs.setIfInBounds j v) T (0, 0)) :: B2) (w.setCell ⟨C, j, none⟩ v) st := by
  have hC := h.box (C, .cells cs T (0, 0)) (by simp)
  refine ⟨h.rd.keep (Below.heap_setCell _ _ _ _ (fun e => hC.2.1 e.symm)), h.fr.setCell (.inr hC.2.2) v, fun p hp => ?_, h.new⟩
  rcases List.mem_append.1 hp with hp1 | hp2
  · have := h.box p (List.mem_append_left _ hp1)
    exact ⟨(Below.heap_setCell _ _ _ _ (hd p (List.mem_append_left _ hp1))).trans this.1, this.2⟩
  · rcases List.mem_cons.1 hp2 with rfl | hp2
    · exact ⟨setOf' hC.1 j v, hC.2⟩
    · have := h.box p (List.mem_append_right _ (List.mem_cons_of_mem _ hp2))
      exact ⟨(Below.heap_setCell _ _ _ _ (hd p (List.mem_append_right _ hp2))).trans this.1, this.2⟩
end
theorem three_uints (st : RSt) : st.uintsS 3 = st.three ∧ st.uintsV 3 = [st.uintV, st.kind, st.third] := ⟨rfl, rfl⟩
/-- what is left never grows. -/
theorem takes_le (st : RSt) (n : Nat) : (st.takes n).rest.size ≤ st.rest.size := by
  unfold RSt.takes RSt.drop; split
  · simp
  · exact Nat.le_refl _
theorem peeked_rest (st : RSt) (n : Nat) : (st.peeked n).rest = st.rest := by
  unfold RSt.peeked; split
  · exact fail_rest
  · rfl
theorem uint_le (st : RSt) : st.uint.rest.size ≤ st.rest.size := by
  have := takes_le (st.peeked 4) 4
  rw [peeked_rest] at this
  exact this
theorem manyS_rest (st : RSt) (m : Int) : (st.manyS m).rest = st.rest := by
  have h : (st.worded m).rest = st.rest := by unfold RSt.worded; split <;> first | rfl | exact fail_rest
  unfold RSt.manyS
  split
  · rw [fail_rest, peeked_rest, h]
  · rw [peeked_rest, h]
theorem opaqueS_le (st : RSt) (m : Int) : (st.opaqueS m).rest.size ≤ st.rest.size := by
  unfold RSt.opaqueS RSt.textS RSt.drop
  rw [← manyS_rest st m]
  split
  · split
    · rw [fail_rest]; exact Nat.le_refl _
    · split
      · simp
      · rw [fail_rest]; exact Nat.le_refl _
  · exact Nat.le_refl _
theorem authS_le (st : RSt) : st.authS.rest.size ≤ st.rest.size := Nat.le_trans (opaqueS_le _ _) (uint_le st)
theorem three_le (st : RSt) : st.three.rest.size ≤ st.rest.size := Nat.le_trans (uint_le _) (Nat.le_trans (uint_le _) (uint_le st))
theorem restV_le (st : RSt) : st.restV.size ≤ st.rest.size := by
  unfold RSt.restV RSt.taken; split
  · simp
  · exact Nat.zero_le _
theorem restV_size (s : ByteArray) (n : Nat) (h : s.size ≤ n) : (RSt.mk s 0).three.three.authS.authS.restV.size ≤ n :=
  Nat.le_trans (restV_le _) (Nat.le_trans (authS_le _) (Nat.le_trans (authS_le _) (Nat.le_trans (three_le _) (Nat.le_trans (three_le (RSt.mk s 0)) h))))
theorem opaqueV_le (st : RSt) (m : Int) : (st.opaqueV m).size ≤ st.rest.size := by
  unfold RSt.opaqueV RSt.textV
  rw [← manyS_rest st m]
  split
  · simp
    omega
  · exact Nat.zero_le _
theorem authV_le (st : RSt) : st.authV.body.size ≤ st.rest.size := Nat.le_trans (opaqueV_le _ _) (uint_le st)
theorem putsO_rest : ∀ (os : List Nat) (st : RSt) (x : ReplyM), (putsO os st x).1.results = x.results ∧ (putsO os st x).2.rest.size ≤ st.rest.size
  | [], _, _ => ⟨rfl, Nat.le_refl _⟩
  | o :: os, st, x => by
    obtain ⟨h1, h2⟩ := putsO_rest os st.uint (putO x o st.uintV)
    refine ⟨h1.trans ?_, Nat.le_trans h2 (uint_le st)⟩
    unfold putO; split
    · rfl
    · split <;> rfl
theorem replyA_le (st : RSt) : st.replyA.1.results = ByteArray.empty ∧ st.replyA.2.rest.size ≤ st.rest.size := by
  unfold RSt.replyA
  split
  · exact ⟨rfl, Nat.le_trans (uint_le _) (three_le st)⟩
  · exact ⟨rfl, Nat.le_trans (uint_le _) (Nat.le_trans (authS_le _) (three_le st))⟩
theorem replyC_res (s : ByteArray) : (RSt.mk s 0).replyC.1.results.size ≤ s.size := by
  have hA := replyA_le (RSt.mk s 0)
  have hB := putsO_rest (shO (RSt.mk s 0).replyA.1) (RSt.mk s 0).replyA.2 (RSt.mk s 0).replyA.1
  unfold RSt.replyC RSt.replyB
  split
  · exact Nat.le_trans (restV_le _) (Nat.le_trans hB.2 hA.2)
  · rw [hB.1, hA.1]; exact Nat.zero_le _
end Go.Proofs.YtbegjpmifcnieaaGreatDoor
