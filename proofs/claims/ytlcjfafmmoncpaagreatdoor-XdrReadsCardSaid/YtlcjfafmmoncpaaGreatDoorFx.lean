/- What an argument that can be read is: a script; a text, with its size. -/
import Derived.Test.YtlcjfafmmoncpaaGreatDoorKo
import Derived.Test.YtlcjfafmmoncpaaGreatDoorFq
import Derived.SizedLaws
import Derived.ChangeMaps5
import Derived.Deep.Slices
namespace Go.Proofs.YtlcjfafmmoncpaaGreatDoor
open Go.ChangeShapes Go.WideShapes Go.RowKit
set_option linter.unusedVariables false
set_option linter.unusedSimpArgs false

section
variable {H : Type} {enc : TypeId × Value → H} {w : World}
theorem trod_atX {P : Program} {base : Nat} {spare : Nat → Bool} {held : Bool} {t : TypeId} {fs : Array Field} {fuel : Nat} {cs : List Value} {x : DataW H × List MemPlace} (ht : P.underlying t = some (.struct fs)) (h : DataW.trod enc P w base spare held fuel t cs = some x) (j T off k : Nat)
    (hj : (fs[j]?).map (fun f => (f.type, f.offset)) = some (T, off)) (hk : P.cellsOf T = k) : ∃ n y, DataW.trod enc P w base spare held n T ((cs.drop off).take k) = some y ∧ ∀ m ∈ y.1.weights P T, m ∈ x.1.weights P t := by
  obtain ⟨xs, n, _, rfl, _, hlen, hf⟩ := DataW.trod_struct ht h
  obtain ⟨f, hf1, hf2⟩ := Option.map_eq_some_iff.1 hj
  simp only [Prod.mk.injEq] at hf2
  obtain ⟨rfl, rfl⟩ := hf2
  have hjs : j < xs.length := by rw [hlen]; exact (Array.getElem?_eq_some_iff.1 hf1).1
  refine ⟨n, xs[j], by rw [← hk, hf j f hf1]; exact List.getElem?_eq_getElem hjs, fun m hm => ?_⟩
  have e : (DataW.agg (xs.map (·.1))).weights P t = DataW.weightsEach P (fs.toList.map (·.type)) (xs.map (·.1)) := by
    simp only [DataW.weights, ht]
  show m ∈ (DataW.agg (xs.map (·.1))).weights P t
  rw [e]
  refine DataW.weights_mem_each (j := j) (t := f.type) (d := xs[j].1) ?_ ?_ m hm
  · rw [List.getElem?_map, Array.getElem?_toList, hf1]; rfl
  · rw [List.getElem?_map, List.getElem?_eq_getElem hjs]; rfl
theorem wf_i64 {n : Int} (h : (Lit.int .i64 n).wf = true) : -9223372036854775808 ≤ n ∧ n ≤ 9223372036854775807 := by
  simp only [Lit.wf, Bool.and_eq_true, decide_eq_true_eq] at h
  exact h
theorem wf_u32 {n : Int} (h : (Lit.int .u32 n).wf = true) : 0 ≤ n ∧ n ≤ 4294967295 := by
  simp only [Lit.wf, Bool.and_eq_true, decide_eq_true_eq] at h
  exact h
theorem wf_u64 {n : Int} (h : (Lit.int .u64 n).wf = true) : 0 ≤ n ∧ n ≤ 18446744073709551615 := by
  simp only [Lit.wf, Bool.and_eq_true, decide_eq_true_eq] at h
  exact h
theorem cellsOp : Tryz.prog.cellsOf 44 = 7 := by kernel_rfl
theorem bytesOp : Tryz.prog.bytesOf 44 = 64 := by kernel_rfl
theorem cellsBoolX : Tryz.prog.cellsOf 4 = 1 := by kernel_rfl
theorem cellsU32 : Tryz.prog.cellsOf 41 = 1 := by kernel_rfl
theorem cellsU64 : Tryz.prog.cellsOf 42 = 1 := by kernel_rfl
theorem open_op {fuel : Nat} {cs : List Value} {x : DataW H × List MemPlace} (h : DataW.trod enc Tryz.prog w 0 (fun _ => true) true fuel 44 cs = some x) :
    ∃ o : OpM, cs = (opCells o).toList ∧ (o.s.size ≤ 140737488351232 → o.Is) ∧ o.s.size ∈ x.1.weights Tryz.prog 44 := by
  have hl := trod_len Tryz.underlying44 h
  rw [cellsOp] at hl
  match cs, hl with
  | [c0, c1, c2, c3, c4, c5, c6], _ =>
  obtain ⟨_, _, h0, _⟩ := trod_atX Tryz.underlying44 h 0 3 0 1 rfl cellsInt
  obtain ⟨_, _, h1, _⟩ := trod_atX Tryz.underlying44 h 1 3 1 1 rfl cellsInt
  obtain ⟨_, _, h2, _⟩ := trod_atX Tryz.underlying44 h 2 3 2 1 rfl cellsInt
  obtain ⟨_, _, h3, _⟩ := trod_atX Tryz.underlying44 h 3 4 3 1 rfl cellsBoolX
  obtain ⟨_, y4, h4, w4⟩ := trod_atX Tryz.underlying44 h 4 9 4 1 rfl cellsStr
  obtain ⟨_, _, h5, _⟩ := trod_atX Tryz.underlying44 h 5 41 5 1 rfl cellsU32
  obtain ⟨_, _, h6, _⟩ := trod_atX Tryz.underlying44 h 6 42 6 1 rfl cellsU64
  obtain ⟨n0, e0, _, q0⟩ := DataW.trod_int Tryz.underlying3 h0
  obtain ⟨n1, e1, _, q1⟩ := DataW.trod_int Tryz.underlying3 h1
  obtain ⟨n2, e2, _, q2⟩ := DataW.trod_int Tryz.underlying3 h2
  obtain ⟨n3, e3, _⟩ := DataW.trod_bool Tryz.underlying4 h3
  obtain ⟨n4, e4, hx4, _⟩ := DataW.trod_string Tryz.underlying9 h4
  obtain ⟨n5, e5, _, q5⟩ := DataW.trod_int Tryz.underlying41 h5
  obtain ⟨n6, e6, _, q6⟩ := DataW.trod_int Tryz.underlying42 h6
  obtain rfl := one_eq e0
  obtain rfl := one_eq e1
  obtain rfl := one_eq e2
  obtain rfl := one_eq e3
  obtain rfl := one_eq e4
  obtain rfl := one_eq e5
  obtain rfl := one_eq e6
  have q5 := wf_u32 q5
  have q6 := wf_u64 q6
  obtain ⟨k5, rfl⟩ : ∃ k : Nat, n5 = k := ⟨n5.toNat, by omega⟩
  obtain ⟨k6, rfl⟩ : ∃ k : Nat, n6 = k := ⟨n6.toNat, by omega⟩
  refine ⟨⟨n0, n1, n2, n3, n4, k5, k6⟩, rfl, fun hs => ⟨wf_i64 q1, wf_i64 q2, by show k5 < _; omega, by show k6 < _; omega, hs⟩, w4 _ ?_⟩
  subst hx4
  show n4.size ∈ _
  simp [DataW.weights]
theorem weightsAll_mem {P : Program} {e : TypeId} {d : DataW H} {n : Nat} (hn : n ∈ d.weights P e) : ∀ {l : List (DataW H)}, d ∈ l → n ∈ DataW.weightsAll P e l := by
  intro l
  induction l with
  | nil => intro h; cases h
  | cons y l ih =>
    intro h
    rw [DataW.weightsAll]
    rcases List.mem_cons.1 h with rfl | h
    · exact List.mem_append_left _ hn
    · exact List.mem_append_right _ (ih h)

set_option maxRecDepth 100000 in
theorem ops_arg {base : Nat} {v : Value} {d : DataW H} {p : List MemPlace} (hv : Value.okWide Tryz.prog w .any base 35 v) (h : DataW.Trod enc Tryz.prog w 0 (fun _ => true) true 35 v d p) (hz : ∀ n ∈ d.weights Tryz.prog 35, n ≤ 140737488351232) :
    ∃ (l : List OpM) (A : Option Addr) (c : Nat), v = .slice A l.length c ∧ OpsAt w A l ∧ (∀ a, A = some a → a.block < w.heap.size) ∧ l.length ≤ 4398046511104 ∧ ∀ o ∈ l, o.Is := by
  have hu := Tryz.underlying35
  simp only [Value.okWide, hu] at hv
  obtain ⟨fuel, hf⟩ := h
  obtain ⟨A0, n0, c0, rfl⟩ : ∃ A n c, v = .slice A n c := by
    cases v <;> simp only [Cell.okWide, Cell.ok, hu] at hv <;> first | exact ⟨_, _, _, rfl⟩ | exact hv.elim
  rcases Go.Deep.open_slice hu hf with ⟨e, _⟩ | ⟨a, len, cap, m, n, D, Pl, e, _, hl, hm, hmc, hx, hel⟩
  · have e : (Value.slice A0 n0 c0) = .slice none 0 0 := one_eq e
    obtain ⟨rfl, rfl, rfl⟩ : A0 = none ∧ n0 = 0 ∧ c0 = 0 := by simpa using e
    exact ⟨[], none, 0, rfl, .inl rfl, (fun a h => by cases h), by decide, (fun o h => by cases h)⟩
  · have e : (Value.slice A0 n0 c0) = .slice (some a) len cap := one_eq e
    obtain ⟨h1, h2, h3⟩ : A0 = some a ∧ n0 = len ∧ c0 = cap := by simpa using e
    subst h1; subst n0; subst h3
    simp only [if_true] at hmc
    subst hmc
    have hlt := slice_lt hu hv
    have hsp : a.spot = none := by
      simp only [Cell.okWide, Cell.ok, hu] at hv
      exact (has_lt hv.2.2).2
    have hd : d = .slice ((List.range len).map D) ((List.range (m - len)).map fun j => D (len + j)) := congrArg Prod.fst hx
    subst hd
    simp only [DataW.weights, hu] at hz
    have hcap := hz _ (List.mem_cons_self)
    rw [bytesOp] at hcap
    simp only [List.length_map, List.length_range] at hcap
    have hop : ∀ i, i < len → ∃ o : OpM, (∀ j, j < 7 → w.cell? ⟨a.block, a.off + i * 7 + j, none⟩ = (opCells o)[j]?) ∧ o.Is := by
      intro i hi
      obtain ⟨cs', hc, ht⟩ := hel i (by omega)
      rw [cellsOp] at hc
      obtain ⟨o, rfl, hIs, hwt⟩ := open_op ht
      obtain ⟨_, _, hcell⟩ := World.cells?_some hc
      have hw : o.s.size ∈ DataW.weightsAll Tryz.prog 44 ((List.range len).map D) := weightsAll_mem hwt (List.mem_map.2 ⟨i, by simpa using hi, rfl⟩)
      refine ⟨o, fun j hj => ?_, hIs (hz _ (List.mem_cons_of_mem _ (List.mem_append_left _ hw)))⟩
      have := hcell j hj
      rw [Go.Deep.add_add] at this
      have ea : a.add (i * 7 + j) = ⟨a.block, a.off + i * 7 + j, none⟩ := by
        unfold Addr.add
        split
        · rename_i h0
          cases a; simp_all
        · cases a; simp_all [Nat.add_assoc]
      rw [ea] at this
      rw [this]
      simp
    haveI : Inhabited OpM := ⟨⟨0, 0, 0, false, ByteArray.empty, 0, 0⟩⟩
    obtain ⟨f, hf⟩ := Go.Deep.choose_lt hop
    refine ⟨(List.range len).map f, some a, m, by simp, ?_, hlt, by simp; omega, ?_⟩
    · refine .inr ⟨a.block, a.off, by cases a; simp_all, hlt a rfl, fun j hj i hi => ?_⟩
      have hj' : j < len := by simpa using hj
      rw [(hf j hj').1 i hi]
      simp [List.getD, hj']
    · intro o ho
      obtain ⟨i, hi, rfl⟩ := List.mem_map.1 ho
      exact (hf i (by simpa using hi)).2
set_option maxRecDepth 100000 in
theorem str_argX {base : Nat} {v : Value} {d : DataW H} {p : List MemPlace} (hv : Value.okWide Tryz.prog w .any base 9 v) (h : DataW.Trod enc Tryz.prog w 0 (fun _ => true) true 9 v d p) : ∃ s : ByteArray, v = .string s ∧ s.size ∈ d.weights Tryz.prog 9 := by
  obtain ⟨s, rfl, rfl, _⟩ := Go.ChangeMaps.open_string Tryz.underlying9 hv h
  exact ⟨s, rfl, by simp [DataW.weights]⟩
/-- a parameter's weight is within reach. -/
theorem reach_ofX {ts : List TypeId} {ds : List (DataW H)} (h : (DataW.weightsEach Tryz.prog ts ds).all (· ≤ reachBytes) = true) (j : Nat) {t : TypeId} {d : DataW H} (ht : ts[j]? = some t) (hd : ds[j]? = some d) {n : Nat} (hn : n ∈ d.weights Tryz.prog t) : n ≤ 140737488351232 := by
  have := List.all_eq_true.1 h n (DataW.weights_mem_each ht hd n hn)
  exact of_decide_eq_true this
end
end Go.Proofs.YtlcjfafmmoncpaaGreatDoor
