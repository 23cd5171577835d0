/- What the rows' condition gives (errors' cell of the type), and a world that meets it. -/
import Derived.Test.YtlcjfafmmoncpaaGreatDoorRows
import Derived.Test.YtlcjfafmmoncpaaGreatDoorXt
import Derived.ProofKit
import Derived.LaidLaws
import Derived.LaidHandle
import Derived.Stop.Joined
import Derived.Test.YtlcjfafmmoncpaaGreatDoorKo
import Derived.Carry
import Derived.ShutString
namespace Go.Proofs.YtlcjfafmmoncpaaGreatDoor
open Go.ChangeShapes Go.WideShapes Go.RowKit
set_option linter.unusedVariables false
set_option linter.unusedSimpArgs false

def laidL : List (String × DataW Unit) := [("unicode/utf8.acceptRanges", Rows.laid_unicode_utf8_acceptRanges), ("errors.errorType", Rows.laid_errors_errorType), ("unicode/utf8.first", Rows.laid_unicode_utf8_first)]
theorem own : ownKnob Tryz.prog.godebug = none := by kernel_rfl
theorem gErrN : Tryz.prog.globalNamed "errors.errorType" = some 0 := by kernel_rfl
theorem cutRT : (Tryz.prog.cutTypes.find? (·.1 == "internal/reflectlite.rtype")).map (·.2) = some 233 := by kernel_rfl
theorem oneRow : ((List.range (394 - 100)).filter fun t => Tryz.prog.rowNamed t [101, 114, 114, 111, 114]) = [95] := by kernel_rfl
theorem typesSize : Tryz.prog.types.size = 394 - 100 := by kernel_rfl

/-- what the condition gives a walk: the one cell of errors' type. -/
theorem errT_of_laidG {L : List (String × DataW Unit)} (hf : (L.filter fun x => x.2.handleName?.isSome) = [("errors.errorType", Rows.laid_errors_errorType)]) {W : World} (h : laidMetH Tryz.prog L W) : ErrT W := by
  unfold laidMetH at h
  rw [hf] at h
  have h' := h.2
  obtain ⟨name, u, ty, e1, e2, e3, e4, e5⟩ := h' _ (List.mem_singleton.2 rfl)
  have en : name = [101, 114, 114, 111, 114] := (Option.some.inj e1).symm
  subst en
  obtain rfl := Option.some.inj (cutRT.symm.trans e2)
  have hm : ty ∈ (List.range (394 - 100)).filter fun t => Tryz.prog.rowNamed t [101, 114, 114, 111, 114] := List.mem_filter.2 ⟨List.mem_range.2 (by rw [← typesSize]; exact e3), e4⟩
  rw [oneRow] at hm
  obtain rfl := List.mem_singleton.1 hm
  have hh : typeHandle Tryz.prog 95 = .pointer (some ⟨5, 95, none⟩) := by kernel_rfl
  rw [hh] at e5
  unfold ErrT
  simpa using World.var?_cell gErrN e5 0

theorem errT_of_laid {W : World} (h : laidMetH Tryz.prog laidL W) : ErrT W := errT_of_laidG (by kernel_rfl) h

def setCells (cs : Array Value) : Obj → Obj
  | .cells _ t frozen => .cells cs t frozen
  | o => o
def accCells : Array Value := ([128, 191, 160, 191, 128, 159, 144, 191, 128, 143] ++ List.replicate 22 0 : List Int).map (Value.int .u8) |>.toArray
def firstCells : Array Value := (Pinned.utf8FirstZ.map fun n => Value.int .u8 (n : Nat)).toArray
/-- A world that meets the condition: the settled one, the three variables' cells laid. -/
noncomputable def laidWorld (os : Os) : World :=
  let w0 := World.holding Tryz.prog os ⟨#[], #[], []⟩
  { w0 with heap := ((w0.heap.modify 0 (setCells #[.iface 233 (.agg #[.pointer (some ⟨5, 95, none⟩)])])).modify 3 (setCells firstCells)).modify 4 (setCells accCells) }
theorem laidWorld_met (os : Os) (args : Array Value) : laidMetH Tryz.prog laidL ((laidWorld os).forCall (fun _ _ => 0) ⟨#[], args, []⟩).memory :=
  laidMetH_of_parts3 (fuel := 8) (laidMet_of_run' 8 (by kernel_rfl) (by kernel_rfl)) (by kernel_rfl) (by kernel_rfl)
end Go.Proofs.YtlcjfafmmoncpaaGreatDoor

/- From a walk to a law's row: what came in reads as it did, and the law tells true. -/
namespace Go.Proofs.YtlcjfafmmoncpaaGreatDoor
open Go.ChangeShapes Go.WideShapes Go.ChangeAt Go.RowKit
set_option linter.unusedVariables false
set_option linter.unusedSimpArgs false

theorem laidOut : laidOutB Tryz.prog = true := by kernel_rfl
theorem Fr.toBelow {w w' : World} (h : Fr (fun _ => False) w w') : Below w.heap.size w w' := ⟨h.os, h.tape, h.output, h.size, fun k hk => h.block k hk (fun h => h)⟩
theorem trodAll_below {H : Type} {enc : TypeId × Value → H} {W W' : World} (hb : Below W.heap.size W W') : ∀ {ts : List TypeId} {vs : List Value} {ds : List (DataW H)} {ps : List MemPlace},
    (∀ t ∈ ts, Tryz.prog.readableRec t = true ∧ t < Tryz.prog.types.size) → DataW.TrodAll enc Tryz.prog W 0 (fun _ => true) true ts vs ds ps → (∀ x ∈ ps, x.block < W.heap.size) →
    DataW.TrodAll enc Tryz.prog W' 0 (fun b => decide (b < W.heap.size)) true ts vs ds ps
  | [], [], [], _, _, h, _ => h
  | t :: ts, v :: vs, d :: ds, _, hr, ⟨p, q, h1, h2, e⟩, hp => ⟨p, q, Below.trod laidOut (hr t List.mem_cons_self).1 (hr t List.mem_cons_self).2 h1 hb (fun x hx => hp x (by rw [e]; exact List.mem_append_left _ hx)),
      trodAll_below hb (fun t ht => hr t (List.mem_cons_of_mem _ ht)) h2 (fun x hx => hp x (by rw [e]; exact List.mem_append_right _ hx)), e⟩
  | [], [], _ :: _, _, _, h, _ => h.elim
  | [], _ :: _, [], _, _, h, _ => h.elim
  | [], _ :: _, _ :: _, _, _, h, _ => h.elim
  | _ :: _, [], [], _, _, h, _ => h.elim
  | _ :: _, [], _ :: _, _, _, h, _ => h.elim
  | _ :: _, _ :: _, [], _, _, h, _ => h.elim

set_option maxRecDepth 100000 in
theorem law_liftedL (L : List (String × DataW Unit)) (hLaid : ∀ W, laidMetH Tryz.prog L W → ErrT W) {f : FuncId} {fn : Func} {s : ChangeSpec} (os : Os) (started : os.Started) (H : Type) (enc : TypeId × Value → H)
    (noInit : Tryz.prog.inits.idxOf? f = none) (hfn : Tryz.prog.funcs[f]? = some fn) (hres : fn.resultTypes = #[4]) (hvars : s.vars = [])
    (hspec : ∀ ds : List (DataW H), ds.length = fn.params.size → s.fn H ds = { results := [.lit (.bool true)], args := ds })
    (hread : ∀ t ∈ fn.params.toList, Tryz.prog.readableRec t = true ∧ t < Tryz.prog.types.size)
    (witness : ∃ (w : World) (tape : Tape) (i : Input), w.os = os ∧ (w.forCall tape i).Shaped Tryz.prog ∧ i.vars = [] ∧ Input.okWide Tryz.prog (w.forCall tape i) .any w.heap.size f i ∧
      ((s.pre enc Tryz.prog fn [] false (w.forCall tape i).memory i.args ∧ laidMetH Tryz.prog L (w.forCall tape i).memory) ∧ sizedMet enc Tryz.prog fn (OpenSpec.ofChange s) false (w.forCall tape i).memory i.args) ∧ ({} : Assume).holds Tryz.prog (lone (Frame.enter Tryz.prog f i.args .normal) [] (w.forCall tape i)))
    (walk : ∀ (W : World) (base : Nat) (args : Array Value) (ds : List (DataW H)) (ps : List MemPlace), (∀ (j : Nat) t v, fn.params[j]? = some t → args[j]? = some v → Value.okWide Tryz.prog W .any base t v) →
      DataW.TrodAll enc Tryz.prog W 0 (fun _ => true) true fn.params.toList args.toList ds ps → ErrT W →
      (DataW.weightsEach Tryz.prog fn.params.toList ds).all (· ≤ reachBytes) = true →
      Calls Tryz.prog f args W fun e W' => e = .returned (.bool true) ∧ Fr (fun _ => False) W W') :
    ReturnsInHanded {} Tryz.checked os f .any (fun w args => (s.pre enc Tryz.prog fn [] false w args ∧ laidMetH Tryz.prog L w) ∧ sizedMet enc Tryz.prog fn (OpenSpec.ofChange s) false w args) (s.post enc Tryz.prog fn false true false false) := by
  refine returnsInHanded_of_change_and (C := Tryz.checked) (X := fun w _ => laidMetH Tryz.prog L w) (fun _ _ _ hh h => h.of_heap hh) own started noInit hfn witness ?_
  intro W base args ds gs before hval hW _ hsz hL _
  have hW' := hW
  obtain ⟨p, q, hA, hV, rfl, _, _⟩ := hW
  have hV' := hV
  rw [hvars] at hV'
  obtain ⟨rfl, rfl⟩ : gs = [] ∧ q = [] := by
    cases gs with
    | nil => exact ⟨rfl, hV'⟩
    | cons g r => exact absurd hV' (by intro h; cases h)
  have hlen : ds.length = fn.params.size := by
    have key : ∀ {ts : List TypeId} {vs : List Value} {ds : List (DataW H)} {ps : List MemPlace}, DataW.TrodAll enc Tryz.prog W 0 (fun _ => true) true ts vs ds ps → ds.length = ts.length := by
      intro ts
      induction ts with
      | nil => intro vs ds ps h; cases vs <;> cases ds <;> first | rfl | exact h.elim
      | cons t ts ih => intro vs ds ps h; cases vs <;> cases ds <;> first | exact h.elim | (obtain ⟨_, _, _, h2, _⟩ := h; simp [ih h2])
    rw [key hA]; simp
  have hwt : (DataW.weightsEach Tryz.prog fn.params.toList ds).all (· ≤ reachBytes) = true := by
    have e : s.plain.varTypes Tryz.checked.prog = [] := by simp [ChangeSpec.plain, hvars, DataSpec.varTypes]
    rw [e, List.append_nil, List.append_nil] at hsz
    exact hsz
  refine (walk W base args ds p hval hA (hLaid _ hL) hwt).mono fun e W' ⟨he, hf⟩ => ?_
  subst he
  have hb := hf.toBelow
  have hlt : ∀ x ∈ p, x.block < W.heap.size := fun x hx => by
    have := hW'.lt x (List.mem_append_left _ hx)
    simpa using this
  have es := hspec (ds ++ []) (by simpa using hlen)
  refine ⟨_, rfl, _, _, _, [], p, [], hW', ?_, ?_, ?_, hb.frame _, fun h => by cases h⟩
  · rw [es, hres]
    exact trodAll_mk1 (shut_bool Tryz.underlying4 true)
  · rw [es]
    rw [List.append_nil]
    exact trodAll_below hb hread hA hlt
  · rw [es, hvars]
    rfl
end Go.Proofs.YtlcjfafmmoncpaaGreatDoor
