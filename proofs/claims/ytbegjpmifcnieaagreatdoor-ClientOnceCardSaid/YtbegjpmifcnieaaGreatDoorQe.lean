/- What an argument that can be read is: a life's acts; a text, with its size. -/
import Derived.Test.YtbegjpmifcnieaaGreatDoorKl
import Derived.SizedLaws
import Derived.ChangeMaps5
import Derived.Deep.Slices
namespace Go.Proofs.YtbegjpmifcnieaaGreatDoor
open Go.ChangeShapes Go.WideShapes Go.RowKit
set_option linter.unusedVariables false
set_option linter.unusedSimpArgs false

structure ActM where
  kind : Int
  n : Int
  s : ByteArray
def actD : ActM := ⟨0, 0, ByteArray.empty⟩
def actCells (a : ActM) : Array Value := #[.int .i64 a.kind, .int .i64 a.n, .string a.s]
structure ActM.Is (a : ActM) : Prop where
  k : -9223372036854775808 ≤ a.kind ∧ a.kind ≤ 9223372036854775807
  n : -9223372036854775808 ≤ a.n ∧ a.n ≤ 9223372036854775807
  s : a.s.size ≤ 140737488351232
/-- the acts that a slice holds. -/
def ActsAt (w : World) (A : Option Addr) (l : List ActM) : Prop :=
  l = [] ∨ ∃ g off, A = some ⟨g, off, none⟩ ∧ g < w.heap.size ∧ ∀ j, j < l.length → ∀ i, i < 3 → w.cell? ⟨g, off + j * 3 + i, none⟩ = (actCells (l.getD j actD))[i]?
theorem ActsAt.keep {w w' : World} {A : Option Addr} {l : List ActM} (h : ActsAt w A l) (hs : w.heap.size ≤ w'.heap.size) (hb : ∀ a, A = some a → w'.heap[a.block]? = w.heap[a.block]?) : ActsAt w' A l := by
  rcases h with h | ⟨g, off, rfl, hg, hc⟩
  · exact .inl h
  · refine .inr ⟨g, off, rfl, by omega, fun j hj i hi => ?_⟩
    rw [← hc j hj i hi]
    simp only [World.cell?, hb _ rfl]
theorem ActsAt.grown {w w' : World} {A : Option Addr} {l : List ActM} (h : ActsAt w A l) (hf : Fr (fun _ => False) w w') : ActsAt w' A l := by
  rcases h with h | ⟨g, off, rfl, hg, hc⟩
  · exact .inl h
  · exact ActsAt.keep (.inr ⟨g, off, rfl, hg, hc⟩) hf.size (fun a ha => by obtain rfl := Option.some.inj ha; exact hf.block _ hg id)
theorem ActsAt.cell {w : World} {A : Option Addr} {l : List ActM} (h : ActsAt w A l) (j : Nat) (hj : j < l.length) : ∃ g off, A = some ⟨g, off, none⟩ ∧ w.cell? ⟨g, off + j * 3 + 0, none⟩ = some (.int .i64 (l.getD j actD).kind) ∧ w.cell? ⟨g, off + j * 3 + 1, none⟩ = some (.int .i64 (l.getD j actD).n) ∧ w.cell? ⟨g, off + j * 3 + 2, none⟩ = some (.string (l.getD j actD).s) := by
  rcases h with h | ⟨g, off, rfl, _, hc⟩
  · subst h; simp at hj
  · exact ⟨g, off, rfl, hc j hj 0 (by decide), hc j hj 1 (by decide), hc j hj 2 (by decide)⟩
section
variable {H : Type} {enc : TypeId × Value → H} {w : World}
theorem trod_atX {P : Program} {base : Nat} {spare : Nat → Bool} {held : Bool} {t : TypeId} {fs : Array Field} {fuel : Nat} {cs : List Value} {x : DataW H × List MemPlace} (ht : P.underlying t = some (.struct fs)) (h : DataW.trod enc P w base spare held fuel t cs = some x) (j T off k : Nat)
    (hj : (fs[j]?).map (fun f => (f.type, f.offset)) = some (T, off)) (hk : P.cellsOf T = k) : ∃ n y, DataW.trod enc P w base spare held n T ((cs.drop off).take k) = some y ∧ ∀ m ∈ y.1.weights P T, m ∈ x.1.weights P t := by
  obtain ⟨xs, n, _, rfl, _, hlen, hf⟩ := DataW.trod_struct ht h
  obtain ⟨f, hf1, hf2⟩ := Option.map_eq_some_iff.1 hj
  simp only [Prod.mk.injEq] at hf2
  obtain ⟨rfl, rfl⟩ := hf2
  have hjs : j < xs.length := by rw [hlen]; exact (Array.getElem?_eq_some_iff.1 hf1).1
  refine ⟨n, xs[j], by rw [← hk, hf j f hf1]; exact List.getElem?_eq_getElem hjs, fun m hm => ?_⟩
  have e : (DataW.agg (xs.map (·.1))).weights P t = DataW.weightsEach P (fs.toList.map (·.type)) (xs.map (·.1)) := by
    simp only [DataW.weights, ht]
  show m ∈ (DataW.agg (xs.map (·.1))).weights P t
  rw [e]
  refine DataW.weights_mem_each (j := j) (t := f.type) (d := xs[j].1) ?_ ?_ m hm
  · rw [List.getElem?_map, Array.getElem?_toList, hf1]; rfl
  · rw [List.getElem?_map, List.getElem?_eq_getElem hjs]; rfl
theorem wf_i64 {n : Int} (h : (Lit.int .i64 n).wf = true) : -9223372036854775808 ≤ n ∧ n ≤ 9223372036854775807 := by
  simp only [Lit.wf, Bool.and_eq_true, decide_eq_true_eq] at h
  exact h
theorem cellsAct : Tryz.prog.cellsOf 65 = 3 := by kernel_rfl
theorem bytesAct : Tryz.prog.bytesOf 65 = 32 := by kernel_rfl
theorem open_act {fuel : Nat} {cs : List Value} {x : DataW H × List MemPlace} (h : DataW.trod enc Tryz.prog w 0 (fun _ => true) true fuel 65 cs = some x) :
    ∃ o : ActM, cs = (actCells o).toList ∧ (o.s.size ≤ 140737488351232 → o.Is) ∧ o.s.size ∈ x.1.weights Tryz.prog 65 := by
  have hl := trod_len Tryz.underlying65 h
  rw [cellsAct] at hl
  match cs, hl with
  | [c0, c1, c2], _ =>
  obtain ⟨_, _, h0, _⟩ := trod_atX Tryz.underlying65 h 0 3 0 1 rfl cellsInt
  obtain ⟨_, _, h1, _⟩ := trod_atX Tryz.underlying65 h 1 3 1 1 rfl cellsInt
  obtain ⟨_, y4, h4, w4⟩ := trod_atX Tryz.underlying65 h 2 9 2 1 rfl cellsStr
  obtain ⟨n0, e0, _, q0⟩ := DataW.trod_int Tryz.underlying3 h0
  obtain ⟨n1, e1, _, q1⟩ := DataW.trod_int Tryz.underlying3 h1
  obtain ⟨n4, e4, hx4, _⟩ := DataW.trod_string Tryz.underlying9 h4
  obtain rfl := one_eq e0
  obtain rfl := one_eq e1
  obtain rfl := one_eq e4
  refine ⟨⟨n0, n1, n4⟩, rfl, fun hs => ⟨wf_i64 q0, wf_i64 q1, hs⟩, w4 _ ?_⟩
  subst hx4
  show n4.size ∈ _
  simp [DataW.weights]
theorem weightsAll_mem {P : Program} {e : TypeId} {d : DataW H} {n : Nat} (hn : n ∈ d.weights P e) : ∀ {l : List (DataW H)}, d ∈ l → n ∈ DataW.weightsAll P e l := by
  intro l
  induction l with
  | nil => intro h; cases h
  | cons y l ih =>
    intro h
    rw [DataW.weightsAll]
    rcases List.mem_cons.1 h with rfl | h
    · exact List.mem_append_left _ hn
    · exact List.mem_append_right _ (ih h)

set_option maxRecDepth 100000 in
theorem acts_arg {base : Nat} {v : Value} {d : DataW H} {p : List MemPlace} (hv : Value.okWide Tryz.prog w .any base 55 v) (h : DataW.Trod enc Tryz.prog w 0 (fun _ => true) true 55 v d p) (hz : ∀ n ∈ d.weights Tryz.prog 55, n ≤ 140737488351232) :
    ∃ (l : List ActM) (A : Option Addr) (c : Nat), v = .slice A l.length c ∧ ActsAt w A l ∧ (∀ a, A = some a → a.block < w.heap.size) ∧ l.length ≤ 4398046511104 ∧ ∀ o ∈ l, o.Is := by
  have hu := Tryz.underlying55
  simp only [Value.okWide, hu] at hv
  obtain ⟨fuel, hf⟩ := h
  obtain ⟨A0, n0, c0, rfl⟩ : ∃ A n c, v = .slice A n c := by
    cases v <;> simp only [Cell.okWide, Cell.ok, hu] at hv <;> first | exact ⟨_, _, _, rfl⟩ | exact hv.elim
  rcases Go.Deep.open_slice hu hf with ⟨e, _⟩ | ⟨a, len, cap, m, n, D, Pl, e, _, hl, hm, hmc, hx, hel⟩
  · have e : (Value.slice A0 n0 c0) = .slice none 0 0 := one_eq e
    obtain ⟨rfl, rfl, rfl⟩ : A0 = none ∧ n0 = 0 ∧ c0 = 0 := by simpa using e
    exact ⟨[], none, 0, rfl, .inl rfl, (fun a h => by cases h), by decide, (fun o h => by cases h)⟩
  · have e : (Value.slice A0 n0 c0) = .slice (some a) len cap := one_eq e
    obtain ⟨h1, h2, h3⟩ : A0 = some a ∧ n0 = len ∧ c0 = cap := by simpa using e
    subst h1; subst n0; subst h3
    simp only [if_true] at hmc
    subst hmc
    have hlt := slice_lt hu hv
    have hsp : a.spot = none := by
      simp only [Cell.okWide, Cell.ok, hu] at hv
      exact (has_lt hv.2.2).2
    have hd : d = .slice ((List.range len).map D) ((List.range (m - len)).map fun j => D (len + j)) := congrArg Prod.fst hx
    subst hd
    simp only [DataW.weights, hu] at hz
    have hcap := hz _ (List.mem_cons_self)
    rw [bytesAct] at hcap
    simp only [List.length_map, List.length_range] at hcap
    have hop : ∀ i, i < len → ∃ o : ActM, (∀ j, j < 3 → w.cell? ⟨a.block, a.off + i * 3 + j, none⟩ = (actCells o)[j]?) ∧ o.Is := by
      intro i hi
      obtain ⟨cs', hc, ht⟩ := hel i (by omega)
      rw [cellsAct] at hc
      obtain ⟨o, rfl, hIs, hwt⟩ := open_act ht
      obtain ⟨_, _, hcell⟩ := World.cells?_some hc
      have hw : o.s.size ∈ DataW.weightsAll Tryz.prog 65 ((List.range len).map D) := weightsAll_mem hwt (List.mem_map.2 ⟨i, by simpa using hi, rfl⟩)
      refine ⟨o, fun j hj => ?_, hIs (hz _ (List.mem_cons_of_mem _ (List.mem_append_left _ hw)))⟩
      have := hcell j hj
      rw [Go.Deep.add_add] at this
      have ea : a.add (i * 3 + j) = ⟨a.block, a.off + i * 3 + j, none⟩ := by
        unfold Addr.add
        split
        · rename_i h0
          cases a; simp_all
        · cases a; simp_all [Nat.add_assoc]
      rw [ea] at this
      rw [this]
      simp
    haveI : Inhabited ActM := ⟨actD⟩
    obtain ⟨f, hf⟩ := Go.Deep.choose_lt hop
    refine ⟨(List.range len).map f, some a, m, by simp, ?_, hlt, by simp; omega, ?_⟩
    · refine .inr ⟨a.block, a.off, by cases a; simp_all, hlt a rfl, fun j hj i hi => ?_⟩
      have hj' : j < len := by simpa using hj
      rw [(hf j hj').1 i hi]
      simp [List.getD, hj']
    · intro o ho
      obtain ⟨i, hi, rfl⟩ := List.mem_map.1 ho
      exact (hf i (by simpa using hi)).2
set_option maxRecDepth 100000 in
theorem str_argX {base : Nat} {v : Value} {d : DataW H} {p : List MemPlace} (hv : Value.okWide Tryz.prog w .any base 9 v) (h : DataW.Trod enc Tryz.prog w 0 (fun _ => true) true 9 v d p) : ∃ s : ByteArray, v = .string s ∧ s.size ∈ d.weights Tryz.prog 9 := by
  obtain ⟨s, rfl, rfl, _⟩ := Go.ChangeMaps.open_string Tryz.underlying9 hv h
  exact ⟨s, rfl, by simp [DataW.weights]⟩
/-- a parameter's weight is within reach. -/
theorem reach_ofX {ts : List TypeId} {ds : List (DataW H)} (h : (DataW.weightsEach Tryz.prog ts ds).all (· ≤ reachBytes) = true) (j : Nat) {t : TypeId} {d : DataW H} (ht : ts[j]? = some t) (hd : ds[j]? = some d) {n : Nat} (hn : n ∈ d.weights Tryz.prog t) : n ≤ 140737488351232 := by
  have := List.all_eq_true.1 h n (DataW.weights_mem_each ht hd n hn)
  exact of_decide_eq_true this
end
end Go.Proofs.YtbegjpmifcnieaaGreatDoor
