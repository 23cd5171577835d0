/-
  DERIVED. GIVEN WITH THE SEED: THE CARDS: each row of YtcndifccbkekhaaGreatDoorRows.lean that lists a variable, with what it lists TIED to the program's text (the seventh form; the later family's looks); each row that meets fmt, with fmt's text TOLD by the authors' own Lean function (tested against real Go, not proved from fmt's source: count such statements apart). THE CARD IS WHAT COUNTS. Prove the row's statement (the work); the ties are given (YtcndifccbkekhaaGreatDoorTie.lean); close each card by the builder's one call (the guide's Derived/Test/ToyasCard.lean, 'card_holds'). Laid BY PROGRAM, IN A SANDBOX (cutbox-door.mjs). By AI agents, Wed Nov 11 2026. No macro, syntax, notation, axiom, sorry.
-/
import Derived.Test.YtcndifccbkekhaaGreatDoorRows
import GoSem.ClaimSeven
namespace Go.Proofs.YtcndifccbkekhaaGreatDoor
namespace Rows

/-- THE TIED CARD OF 'callboxlaw12.MessagePrints'. -/
def messagePrintsCard : Claim7 := { stood := { row := messagePrintsRow, standIns := [], harness := (true, "67d7159cb40633e60058125994d1505f13f7a7706a9996155739c28203fcfbd8"), looks := true }, kinds := [], alts := [], laidByText := true, laidKinds := [.data, .handle, .pinned], laidTests := true, laidLooks := .later }
def MessagePrintsCardSaid : Prop := Claim7.holds Tryz.pinned (.plain (OpenSpec.ofChange messagePrintsSpec)) messagePrintsCard

/-- THE TIED CARD OF 'callboxlaw11.CredPrints'. -/
def credPrintsCard : Claim7 := { stood := { row := credPrintsRow, standIns := [], harness := (true, "67d7159cb40633e60058125994d1505f13f7a7706a9996155739c28203fcfbd8"), looks := true }, kinds := [], alts := [], laidByText := true, laidKinds := [.data, .handle, .pinned], laidTests := true, laidLooks := .later }
def CredPrintsCardSaid : Prop := Claim7.holds Tryz.pinned (.plain (OpenSpec.ofChange credPrintsSpec)) credPrintsCard

/-- THE TIED CARD OF 'callboxlaw11.CredParses'. -/
def credParsesCard : Claim7 := { stood := { row := credParsesRow, standIns := [], harness := (true, "67d7159cb40633e60058125994d1505f13f7a7706a9996155739c28203fcfbd8"), looks := true }, kinds := [], alts := [], laidByText := true, laidKinds := [.data, .handle, .pinned], laidTests := true, laidLooks := .later }
def CredParsesCardSaid : Prop := Claim7.holds Tryz.pinned (.plain (OpenSpec.ofChange credParsesSpec)) credParsesCard

/-- THE TIED CARD OF 'callboxlaw11.CredJudges'. -/
def credJudgesCard : Claim7 := { stood := { row := credJudgesRow, standIns := [], harness := (true, "67d7159cb40633e60058125994d1505f13f7a7706a9996155739c28203fcfbd8"), looks := true }, kinds := [], alts := [], laidByText := true, laidKinds := [.data, .handle, .pinned], laidTests := true, laidLooks := .later }
def CredJudgesCardSaid : Prop := Claim7.holds Tryz.pinned (.plain (OpenSpec.ofChange credJudgesSpec)) credJudgesCard

/-- THE TIED CARD OF 'callboxlaw11.CredBack'. -/
def credBackCard : Claim7 := { stood := { row := credBackRow, standIns := [], harness := (true, "67d7159cb40633e60058125994d1505f13f7a7706a9996155739c28203fcfbd8"), looks := true }, kinds := [], alts := [], laidByText := true, laidKinds := [.data, .handle, .pinned], laidTests := true, laidLooks := .later }
def CredBackCardSaid : Prop := Claim7.holds Tryz.pinned (.plain (OpenSpec.ofChange credBackSpec)) credBackCard

/-- THE TIED CARD OF 'callboxlaw12.MessageReads'. -/
def messageReadsCard : Claim7 := { stood := { row := messageReadsRow, standIns := [], harness := (true, "67d7159cb40633e60058125994d1505f13f7a7706a9996155739c28203fcfbd8"), looks := true }, kinds := [], alts := [], laidByText := true, laidKinds := [.data, .handle, .pinned], laidTests := true, laidLooks := .later }
def MessageReadsCardSaid : Prop := Claim7.holds Tryz.pinned (.plain (OpenSpec.ofChange messageReadsSpec)) messageReadsCard

/-- THE TIED CARD OF 'callboxlaw12.MessageBack'. -/
def messageBackCard : Claim7 := { stood := { row := messageBackRow, standIns := [], harness := (true, "67d7159cb40633e60058125994d1505f13f7a7706a9996155739c28203fcfbd8"), looks := true }, kinds := [], alts := [], laidByText := true, laidKinds := [.data, .handle, .pinned], laidTests := true, laidLooks := .later }
def MessageBackCardSaid : Prop := Claim7.holds Tryz.pinned (.plain (OpenSpec.ofChange messageBackSpec)) messageBackCard

/-- THE TIED CARD OF 'callboxlaw12.MessageHeads'. -/
def messageHeadsCard : Claim7 := { stood := { row := messageHeadsRow, standIns := [], harness := (true, "67d7159cb40633e60058125994d1505f13f7a7706a9996155739c28203fcfbd8"), looks := true }, kinds := [], alts := [], laidByText := true, laidKinds := [.data, .handle, .pinned], laidTests := true, laidLooks := .later }
def MessageHeadsCardSaid : Prop := Claim7.holds Tryz.pinned (.plain (OpenSpec.ofChange messageHeadsSpec)) messageHeadsCard

/-- THE SECOND FORM's CARD OF 'callboxlaw12.MessagePrints'. -/
def messagePrintsUptoCard : Claim7 := { stood := { row := messagePrintsUptoRow, standIns := [], harness := (true, "67d7159cb40633e60058125994d1505f13f7a7706a9996155739c28203fcfbd8"), looks := true }, kinds := [], alts := [], laidByText := true, laidKinds := [.data, .handle, .pinned], laidTests := true, laidLooks := .later }
def MessagePrintsUptoCardSaid : Prop := Claim7.holds Tryz.pinned (.plain (OpenSpec.upto messagePrintsSpec)) messagePrintsUptoCard

/-- THE SECOND FORM's CARD OF 'callboxlaw11.CredPrints'. -/
def credPrintsUptoCard : Claim7 := { stood := { row := credPrintsUptoRow, standIns := [], harness := (true, "67d7159cb40633e60058125994d1505f13f7a7706a9996155739c28203fcfbd8"), looks := true }, kinds := [], alts := [], laidByText := true, laidKinds := [.data, .handle, .pinned], laidTests := true, laidLooks := .later }
def CredPrintsUptoCardSaid : Prop := Claim7.holds Tryz.pinned (.plain (OpenSpec.upto credPrintsSpec)) credPrintsUptoCard

/-- THE SECOND FORM's CARD OF 'callboxlaw11.CredParses'. -/
def credParsesUptoCard : Claim7 := { stood := { row := credParsesUptoRow, standIns := [], harness := (true, "67d7159cb40633e60058125994d1505f13f7a7706a9996155739c28203fcfbd8"), looks := true }, kinds := [], alts := [], laidByText := true, laidKinds := [.data, .handle, .pinned], laidTests := true, laidLooks := .later }
def CredParsesUptoCardSaid : Prop := Claim7.holds Tryz.pinned (.plain (OpenSpec.upto credParsesSpec)) credParsesUptoCard

/-- THE SECOND FORM's CARD OF 'callboxlaw11.CredJudges'. -/
def credJudgesUptoCard : Claim7 := { stood := { row := credJudgesUptoRow, standIns := [], harness := (true, "67d7159cb40633e60058125994d1505f13f7a7706a9996155739c28203fcfbd8"), looks := true }, kinds := [], alts := [], laidByText := true, laidKinds := [.data, .handle, .pinned], laidTests := true, laidLooks := .later }
def CredJudgesUptoCardSaid : Prop := Claim7.holds Tryz.pinned (.plain (OpenSpec.upto credJudgesSpec)) credJudgesUptoCard

/-- THE SECOND FORM's CARD OF 'callboxlaw11.CredBack'. -/
def credBackUptoCard : Claim7 := { stood := { row := credBackUptoRow, standIns := [], harness := (true, "67d7159cb40633e60058125994d1505f13f7a7706a9996155739c28203fcfbd8"), looks := true }, kinds := [], alts := [], laidByText := true, laidKinds := [.data, .handle, .pinned], laidTests := true, laidLooks := .later }
def CredBackUptoCardSaid : Prop := Claim7.holds Tryz.pinned (.plain (OpenSpec.upto credBackSpec)) credBackUptoCard

/-- THE SECOND FORM's CARD OF 'callboxlaw12.MessageReads'. -/
def messageReadsUptoCard : Claim7 := { stood := { row := messageReadsUptoRow, standIns := [], harness := (true, "67d7159cb40633e60058125994d1505f13f7a7706a9996155739c28203fcfbd8"), looks := true }, kinds := [], alts := [], laidByText := true, laidKinds := [.data, .handle, .pinned], laidTests := true, laidLooks := .later }
def MessageReadsUptoCardSaid : Prop := Claim7.holds Tryz.pinned (.plain (OpenSpec.upto messageReadsSpec)) messageReadsUptoCard

/-- THE SECOND FORM's CARD OF 'callboxlaw12.MessageBack'. -/
def messageBackUptoCard : Claim7 := { stood := { row := messageBackUptoRow, standIns := [], harness := (true, "67d7159cb40633e60058125994d1505f13f7a7706a9996155739c28203fcfbd8"), looks := true }, kinds := [], alts := [], laidByText := true, laidKinds := [.data, .handle, .pinned], laidTests := true, laidLooks := .later }
def MessageBackUptoCardSaid : Prop := Claim7.holds Tryz.pinned (.plain (OpenSpec.upto messageBackSpec)) messageBackUptoCard

/-- THE SECOND FORM's CARD OF 'callboxlaw12.MessageHeads'. -/
def messageHeadsUptoCard : Claim7 := { stood := { row := messageHeadsUptoRow, standIns := [], harness := (true, "67d7159cb40633e60058125994d1505f13f7a7706a9996155739c28203fcfbd8"), looks := true }, kinds := [], alts := [], laidByText := true, laidKinds := [.data, .handle, .pinned], laidTests := true, laidLooks := .later }
def MessageHeadsUptoCardSaid : Prop := Claim7.holds Tryz.pinned (.plain (OpenSpec.upto messageHeadsSpec)) messageHeadsUptoCard
end Rows
end Go.Proofs.YtcndifccbkekhaaGreatDoor
