/- callboxlaw17: the config of the chapter's examples. -/
import Derived.Test.YtlcjfafmmoncpaaGreatDoorEc
import Derived.Laws.Tables
namespace Go.Proofs.YtlcjfafmmoncpaaGreatDoor
open Go.RowKit
set_option linter.unusedVariables false
set_option linter.unusedSimpArgs false

def cfg0 : CfgM := ⟨65537, 5, 9, 2, ⟨2, 8, 4⟩, ⟨0, ByteArray.empty, 0, 0, []⟩⟩
def cfgZ : CfgM := ⟨0, 0, 0, 0, ⟨0, 0, 0⟩, ⟨0, ByteArray.empty, 0, 0, []⟩⟩
theorem cfg0_may : NewMay cfg0 := (new_iff _).1 (by decide)
theorem cfgZ_not : ¬ NewMay cfgZ := fun h => by have := h.h1; revert this; decide

set_option maxRecDepth 100000 in
theorem config_any (w : World) : Calls Tryz.prog 35 #[] w fun r w' => r = .returned (.agg (cfgCells cfg0 none 0)) ∧ Fr (fun _ => False) w w' := by
  go_enter Tryz.func35, Tryz.ntmps35
  go_wp2_with fail
  exact bodyPost_ret (results_cell_row rfl _ _ _ _ _ _ _ rfl (heap_alloc_new w _) Tryz.underlying28 rfl (by kernel_rfl)) rfl ⟨rfl, (Fr.refl _ _).alloc _⟩
end Go.Proofs.YtlcjfafmmoncpaaGreatDoor
