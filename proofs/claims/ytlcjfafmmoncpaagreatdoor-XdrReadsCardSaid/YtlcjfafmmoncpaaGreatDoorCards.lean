/-
  DERIVED. GIVEN WITH THE SEED: THE CARDS: each row of YtlcjfafmmoncpaaGreatDoorRows.lean that lists a variable, with what it lists TIED to the program's text (the seventh form; the later family's looks); each row that meets fmt, with fmt's text TOLD by the authors' own Lean function (tested against real Go, not proved from fmt's source: count such statements apart). THE CARD IS WHAT COUNTS. Prove the row's statement (the work); the ties are given (YtlcjfafmmoncpaaGreatDoorTie.lean); close each card by the builder's one call (the guide's Derived/Test/ToyasCard.lean, 'card_holds'). Laid BY PROGRAM, IN A SANDBOX (cutbox-door.mjs). By AI agents, Wed Nov 11 2026. No macro, syntax, notation, axiom, sorry.
-/
import Derived.Test.YtlcjfafmmoncpaaGreatDoorRows
import GoSem.ClaimSeven
namespace Go.Proofs.YtlcjfafmmoncpaaGreatDoor
namespace Rows

/-- THE TIED CARD OF 'callboxlaw17.ClientNews'. -/
def clientNewsCard : Claim7 := { stood := { row := clientNewsRow, standIns := [], harness := (true, "09373d851fd34068965dbb77c2c9fc92b622934687b8d9e5d07146ff3a2f86ca"), looks := true }, kinds := [], alts := [], laidByText := true, laidKinds := [.handle], laidTests := true, laidLooks := .later }
def ClientNewsCardSaid : Prop := Claim7.holds Tryz.pinned (.plain (OpenSpec.ofChange clientNewsSpec)) clientNewsCard

/-- THE TIED CARD OF 'callboxlaw02.XdrWrites'. -/
def xdrWritesCard : Claim7 := { stood := { row := xdrWritesRow, standIns := [], harness := (true, "09373d851fd34068965dbb77c2c9fc92b622934687b8d9e5d07146ff3a2f86ca"), looks := true }, kinds := [], alts := [], laidByText := true, laidKinds := [.data, .handle, .pinned], laidTests := true, laidLooks := .later }
def XdrWritesCardSaid : Prop := Claim7.holds Tryz.pinned (.plain (OpenSpec.ofChange xdrWritesSpec)) xdrWritesCard

/-- THE TIED CARD OF 'callboxlaw02.XdrReads'. -/
def xdrReadsCard : Claim7 := { stood := { row := xdrReadsRow, standIns := [], harness := (true, "09373d851fd34068965dbb77c2c9fc92b622934687b8d9e5d07146ff3a2f86ca"), looks := true }, kinds := [], alts := [], laidByText := true, laidKinds := [.data, .handle, .pinned], laidTests := true, laidLooks := .later }
def XdrReadsCardSaid : Prop := Claim7.holds Tryz.pinned (.plain (OpenSpec.ofChange xdrReadsSpec)) xdrReadsCard

/-- THE TIED CARD OF 'callboxlaw02.XdrBack'. -/
def xdrBackCard : Claim7 := { stood := { row := xdrBackRow, standIns := [], harness := (true, "09373d851fd34068965dbb77c2c9fc92b622934687b8d9e5d07146ff3a2f86ca"), looks := true }, kinds := [], alts := [], laidByText := true, laidKinds := [.data, .handle, .pinned], laidTests := true, laidLooks := .later }
def XdrBackCardSaid : Prop := Claim7.holds Tryz.pinned (.plain (OpenSpec.ofChange xdrBackSpec)) xdrBackCard

/-- THE TIED CARD OF 'callboxlaw02.XdrAgain'. -/
def xdrAgainCard : Claim7 := { stood := { row := xdrAgainRow, standIns := [], harness := (true, "09373d851fd34068965dbb77c2c9fc92b622934687b8d9e5d07146ff3a2f86ca"), looks := true }, kinds := [], alts := [], laidByText := true, laidKinds := [.data, .handle, .pinned], laidTests := true, laidLooks := .later }
def XdrAgainCardSaid : Prop := Claim7.holds Tryz.pinned (.plain (OpenSpec.ofChange xdrAgainSpec)) xdrAgainCard

/-- THE SECOND FORM's CARD OF 'callboxlaw17.ClientNews'. -/
def clientNewsUptoCard : Claim7 := { stood := { row := clientNewsUptoRow, standIns := [], harness := (true, "09373d851fd34068965dbb77c2c9fc92b622934687b8d9e5d07146ff3a2f86ca"), looks := true }, kinds := [], alts := [], laidByText := true, laidKinds := [.handle], laidTests := true, laidLooks := .later }
def ClientNewsUptoCardSaid : Prop := Claim7.holds Tryz.pinned (.plain (OpenSpec.upto clientNewsSpec)) clientNewsUptoCard

/-- THE SECOND FORM's CARD OF 'callboxlaw02.XdrWrites'. -/
def xdrWritesUptoCard : Claim7 := { stood := { row := xdrWritesUptoRow, standIns := [], harness := (true, "09373d851fd34068965dbb77c2c9fc92b622934687b8d9e5d07146ff3a2f86ca"), looks := true }, kinds := [], alts := [], laidByText := true, laidKinds := [.data, .handle, .pinned], laidTests := true, laidLooks := .later }
def XdrWritesUptoCardSaid : Prop := Claim7.holds Tryz.pinned (.plain (OpenSpec.upto xdrWritesSpec)) xdrWritesUptoCard

/-- THE SECOND FORM's CARD OF 'callboxlaw02.XdrReads'. -/
def xdrReadsUptoCard : Claim7 := { stood := { row := xdrReadsUptoRow, standIns := [], harness := (true, "09373d851fd34068965dbb77c2c9fc92b622934687b8d9e5d07146ff3a2f86ca"), looks := true }, kinds := [], alts := [], laidByText := true, laidKinds := [.data, .handle, .pinned], laidTests := true, laidLooks := .later }
def XdrReadsUptoCardSaid : Prop := Claim7.holds Tryz.pinned (.plain (OpenSpec.upto xdrReadsSpec)) xdrReadsUptoCard

/-- THE SECOND FORM's CARD OF 'callboxlaw02.XdrBack'. -/
def xdrBackUptoCard : Claim7 := { stood := { row := xdrBackUptoRow, standIns := [], harness := (true, "09373d851fd34068965dbb77c2c9fc92b622934687b8d9e5d07146ff3a2f86ca"), looks := true }, kinds := [], alts := [], laidByText := true, laidKinds := [.data, .handle, .pinned], laidTests := true, laidLooks := .later }
def XdrBackUptoCardSaid : Prop := Claim7.holds Tryz.pinned (.plain (OpenSpec.upto xdrBackSpec)) xdrBackUptoCard

/-- THE SECOND FORM's CARD OF 'callboxlaw02.XdrAgain'. -/
def xdrAgainUptoCard : Claim7 := { stood := { row := xdrAgainUptoRow, standIns := [], harness := (true, "09373d851fd34068965dbb77c2c9fc92b622934687b8d9e5d07146ff3a2f86ca"), looks := true }, kinds := [], alts := [], laidByText := true, laidKinds := [.data, .handle, .pinned], laidTests := true, laidLooks := .later }
def XdrAgainUptoCardSaid : Prop := Claim7.holds Tryz.pinned (.plain (OpenSpec.upto xdrAgainSpec)) xdrAgainUptoCard
end Rows
end Go.Proofs.YtlcjfafmmoncpaaGreatDoor
