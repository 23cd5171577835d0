/- The closed facts of a card in parts: one great equation over all of them outgrows the kernel at a program of many functions. -/
import Derived.Test.YtbegjpmifcnieaaGreatDoorKl
import Derived.SevenTiedAt
import Derived.JoinedOf
namespace Go.Proofs.YtbegjpmifcnieaaGreatDoor
open Go.ChangeShapes Go.WideShapes Go.RowKit
set_option linter.unusedVariables false
set_option linter.unusedSimpArgs false
abbrev factsA (P : Program) (_ : FuncId) (_ : Func) (s : ChangeSpec) (c : OpenClaim) : Bool := c.wf (OpenSpec.ofChange s) && laidOutB P && mapsRowed P
abbrev factsB (P : Program) (_ : FuncId) (fn : Func) (s : ChangeSpec) (c : OpenClaim) : Bool := fn.params.all (P.readableRec ·) && namedTie P c.named s.vars && (c.stops == []) && (P.stops == []) && (c.knobs == []) && (P.stopKnobs == [])
abbrev factsC (P : Program) (f : FuncId) (_ : Func) (_ : ChangeSpec) (c : OpenClaim) : Bool := (c.inPlace == P.inPlace f)
abbrev factsD (P : Program) (f : FuncId) (_ : Func) (_ : ChangeSpec) (c : OpenClaim) : Bool := (c.unfollowed == P.unfollowed f)
abbrev factsE (P : Program) (f : FuncId) (_ : Func) (_ : ChangeSpec) (c : OpenClaim) : Bool := (c.recurses == P.recurses f)
abbrev factsF (P : Program) (f : FuncId) (_ : Func) (_ : ChangeSpec) (c : OpenClaim) : Bool := (c.named == P.varsNamed f)
abbrev factsG (P : Program) (_ : FuncId) (fn : Func) (s : ChangeSpec) (c : OpenClaim) : Bool := (c.maps == (fn.params.toList ++ s.plain.varTypes P).any (P.mapsRec ·)) && (c.ifaces == (fn.params.toList ++ s.plain.varTypes P).any (P.ifacesRec ·)) && (c.mapsOut == P.mapsAmong fn.resultTypes.toList) && (c.loops == (fn.params.toList ++ s.plain.varTypes P).any (P.loopsFrom ·)) && (c.wideKeys == (fn.params.toList ++ s.plain.varTypes P ++ fn.resultTypes.toList).any (P.wideKeysFrom ·))
abbrev factsH (P : Program) (_ : FuncId) (fn : Func) (s : ChangeSpec) (c : OpenClaim) : Bool := s.vars.all (P.varReadable ·) && fn.resultTypes.all (fun t => P.readableRec t && decide (t < P.types.size)) && (c.ifacesOut == fn.resultTypes.toList.any (P.ifacesRec ·)) && (c.loopsOut == fn.resultTypes.toList.any (P.loopsFrom ·)) && (c.plainKeys == P.plainKeys) && c.shortTexts.isNone && P.stopsHeard && P.mayEnter
abbrev factsI (P : Program) (_ : FuncId) (fn : Func) (_ : ChangeSpec) (c : OpenClaim) : Bool := (c.lifted == P.liftsFinal) && (P.make == some c.make) && (c.kinds == (if c.domain.isEmpty then [] else fn.params.toList.map fun t => match P.underlying t with | some (.int k) => some k | _ => none)) && (c.pinned == c.pinnedBy)
abbrev factsJ (P : Program) (_ : FuncId) (fn : Func) (s : ChangeSpec) (c : OpenClaim) : Bool := (c.veiled == (fn.params.toList ++ s.plain.varTypes P ++ fn.resultTypes.toList).any (P.veiledRec ·)) && c.veiledFits P fn.params.toList (fn.params.toList ++ s.plain.varTypes P ++ fn.resultTypes.toList)

theorem joinedFacts_of {P : Program} {f : FuncId} {fn : Func} {s : ChangeSpec} {c : OpenClaim} (hA : factsA P f fn s c = true) (hB : factsB P f fn s c = true) (hC : factsC P f fn s c = true) (hD : factsD P f fn s c = true) (hE : factsE P f fn s c = true) (hF : factsF P f fn s c = true) (hG : factsG P f fn s c = true) (hH : factsH P f fn s c = true) (hI : factsI P f fn s c = true) (hJ : factsJ P f fn s c = true) : joinedFacts P f fn s c = true := by
  simp only [factsA, factsB, factsC, factsD, factsE, factsF, factsG, factsH, factsI, factsJ, Bool.and_eq_true] at hA hB hC hD hE hF hG hH hI hJ
  simp only [joinedFacts, Bool.and_eq_true]
  simp only [and_assoc]
  simp only [and_assoc] at hA hB hC hD hE hF hG hH hI hJ
  grind

set_option maxRecDepth 100000 in
theorem clientOnce_factsA : factsA Tryz.prog 4 Tryz.f4 Rows.clientOnceSpec Rows.clientOnceRow = true := by kernel_rfl

set_option maxRecDepth 100000 in
theorem clientOnce_factsB : factsB Tryz.prog 4 Tryz.f4 Rows.clientOnceSpec Rows.clientOnceRow = true := by kernel_rfl

set_option maxRecDepth 100000 in
theorem clientOnce_factsC : factsC Tryz.prog 4 Tryz.f4 Rows.clientOnceSpec Rows.clientOnceRow = true := by kernel_rfl

set_option maxRecDepth 100000 in
theorem clientOnce_factsD : factsD Tryz.prog 4 Tryz.f4 Rows.clientOnceSpec Rows.clientOnceRow = true := by kernel_rfl

set_option maxRecDepth 100000 in
theorem clientOnce_factsE : factsE Tryz.prog 4 Tryz.f4 Rows.clientOnceSpec Rows.clientOnceRow = true := by kernel_rfl

set_option maxRecDepth 100000 in
theorem clientOnce_factsF : factsF Tryz.prog 4 Tryz.f4 Rows.clientOnceSpec Rows.clientOnceRow = true := by kernel_rfl

set_option maxRecDepth 100000 in
theorem clientOnce_factsG : factsG Tryz.prog 4 Tryz.f4 Rows.clientOnceSpec Rows.clientOnceRow = true := by kernel_rfl

set_option maxRecDepth 100000 in
theorem clientOnce_factsH : factsH Tryz.prog 4 Tryz.f4 Rows.clientOnceSpec Rows.clientOnceRow = true := by kernel_rfl

set_option maxRecDepth 100000 in
theorem clientOnce_factsI : factsI Tryz.prog 4 Tryz.f4 Rows.clientOnceSpec Rows.clientOnceRow = true := by kernel_rfl

set_option maxRecDepth 100000 in
theorem clientOnce_factsJ : factsJ Tryz.prog 4 Tryz.f4 Rows.clientOnceSpec Rows.clientOnceRow = true := by kernel_rfl

theorem clientOnce_facts : joinedFacts Tryz.prog 4 Tryz.f4 Rows.clientOnceSpec Rows.clientOnceRow = true :=
  joinedFacts_of clientOnce_factsA clientOnce_factsB clientOnce_factsC clientOnce_factsD clientOnce_factsE clientOnce_factsF clientOnce_factsG clientOnce_factsH clientOnce_factsI clientOnce_factsJ
end Go.Proofs.YtbegjpmifcnieaaGreatDoor
