/- What the rows' condition gives (errors' cell of the type), and a world that meets it. -/
import Derived.Test.YtcndifccbkekhaaGreatDoorRows
import Derived.Test.YtcndifccbkekhaaGreatDoorXt
import Derived.ProofKit
import Derived.LaidLaws
import Derived.LaidHandle
import Derived.Stop.Joined
namespace Go.Proofs.YtcndifccbkekhaaGreatDoor
open Go.ChangeShapes Go.WideShapes Go.RowKit
set_option linter.unusedVariables false
set_option linter.unusedSimpArgs false

def laidL : List (String × DataW Unit) := [("unicode/utf8.acceptRanges", Rows.laid_unicode_utf8_acceptRanges), ("errors.errorType", Rows.laid_errors_errorType), ("unicode/utf8.first", Rows.laid_unicode_utf8_first)]
theorem own : ownKnob Tryz.prog.godebug = none := by kernel_rfl
theorem gErrN : Tryz.prog.globalNamed "errors.errorType" = some 0 := by kernel_rfl
theorem cutRT : (Tryz.prog.cutTypes.find? (·.1 == "internal/reflectlite.rtype")).map (·.2) = some 180 := by kernel_rfl
theorem oneRow : ((List.range (347 - 100)).filter fun t => Tryz.prog.rowNamed t [101, 114, 114, 111, 114]) = [122] := by kernel_rfl
theorem typesSize : Tryz.prog.types.size = 347 - 100 := by kernel_rfl

/-- what the condition gives a walk: the one cell of errors' type. -/
theorem errT_of_laid {W : World} (h : laidMetH Tryz.prog laidL W) : ErrT W := by
  unfold laidMetH at h
  have hf : (laidL.filter fun x => x.2.handleName?.isSome) = [("errors.errorType", Rows.laid_errors_errorType)] := by kernel_rfl
  rw [hf] at h
  have h' := h.2
  obtain ⟨name, u, ty, e1, e2, e3, e4, e5⟩ := h' _ (List.mem_singleton.2 rfl)
  have en : name = [101, 114, 114, 111, 114] := (Option.some.inj e1).symm
  subst en
  obtain rfl := Option.some.inj (cutRT.symm.trans e2)
  have hm : ty ∈ (List.range (347 - 100)).filter fun t => Tryz.prog.rowNamed t [101, 114, 114, 111, 114] := List.mem_filter.2 ⟨List.mem_range.2 (by rw [← typesSize]; exact e3), e4⟩
  rw [oneRow] at hm
  obtain rfl := List.mem_singleton.1 hm
  have hh : typeHandle Tryz.prog 122 = .pointer (some ⟨4, 122, none⟩) := by kernel_rfl
  rw [hh] at e5
  unfold ErrT
  simpa using World.var?_cell gErrN e5 0

def setCells (cs : Array Value) : Obj → Obj
  | .cells _ t frozen => .cells cs t frozen
  | o => o
def accCells : Array Value := ([128, 191, 160, 191, 128, 159, 144, 191, 128, 143] ++ List.replicate 22 0 : List Int).map (Value.int .u8) |>.toArray
def firstCells : Array Value := (Pinned.utf8FirstZ.map fun n => Value.int .u8 (n : Nat)).toArray
/-- A world that meets the condition: the settled one, the three variables' cells laid. -/
noncomputable def laidWorld (os : Os) : World :=
  let w0 := World.holding Tryz.prog os ⟨#[], #[], []⟩
  { w0 with heap := ((w0.heap.modify 0 (setCells #[.iface 180 (.agg #[.pointer (some ⟨4, 122, none⟩)])])).modify 2 (setCells firstCells)).modify 3 (setCells accCells) }
theorem laidWorld_met (os : Os) (args : Array Value) : laidMetH Tryz.prog laidL ((laidWorld os).forCall (fun _ _ => 0) ⟨#[], args, []⟩).memory :=
  laidMetH_of_parts3 (fuel := 8) (laidMet_of_run' 8 (by kernel_rfl) (by kernel_rfl)) (by kernel_rfl) (by kernel_rfl)
end Go.Proofs.YtcndifccbkekhaaGreatDoor
