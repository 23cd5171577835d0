/- What the table of types says of an int. -/
import Derived.Test.YtbegjpmifcnieaaGreatDoorMc
namespace Go.Proofs.YtbegjpmifcnieaaGreatDoor
open Go.RowKit
set_option linter.unusedVariables false
set_option linter.unusedSimpArgs false
theorem Tryz.infoInt : (Tryz.prog.info? 3).map (fun i => (i.zero, i.size, i.bytes)) = some (some (.int .i64 0), 1, 8) := by kernel_rfl
theorem IntsAt.ofRow {w : World} {base : Nat} {A : Option Addr} {n c : Nat} {xs : List Int} (h : w.ownsRow base 3 1 (.slice A n c) n (xs.map (Value.int .i64))) : IntsAt w A xs := by
  rcases h.2 with ⟨_, h0⟩ | ⟨g, cap, cur, hv, hb, hg, hn, _⟩
  · left
    have := h.1
    rw [h0] at this
    simpa using this
  · right
    injection hv with ha _ _
    refine ⟨g, 0, ha, lt_of_block hg, fun j hj => ?_⟩
    rw [Nat.zero_add]
    have hc := row_cell h (by rw [ha]; rfl) j (.int .i64 (xs.getD j 0)) (by rw [List.getElem?_map, getD_lt xs 0 hj, List.getElem?_eq_getElem hj]; rfl)
    exact hc

end Go.Proofs.YtbegjpmifcnieaaGreatDoor
