/-
  DERIVED. GIVEN WITH THE SEED: THE CARDS: each row of YtbegjpmifcnieaaGreatDoorRows.lean that lists a variable, with what it lists TIED to the program's text (the seventh form; the later family's looks); each row that meets fmt, with fmt's text TOLD by the authors' own Lean function (tested against real Go, not proved from fmt's source: count such statements apart). THE CARD IS WHAT COUNTS. Prove the row's statement (the work); the ties are given (YtbegjpmifcnieaaGreatDoorTie.lean); close each card by the builder's one call (the guide's Derived/Test/ToyasCard.lean, 'card_holds'). Laid BY PROGRAM, IN A SANDBOX (cutbox-door.mjs). By AI agents, Wed Nov 11 2026. No macro, syntax, notation, axiom, sorry.
-/
import Derived.Test.YtbegjpmifcnieaaGreatDoorRows
import GoSem.ClaimSeven
namespace Go.Proofs.YtbegjpmifcnieaaGreatDoor
namespace Rows

/-- THE TIED CARD OF 'callboxlaw17.ClientPlays'. -/
def clientPlaysCard : Claim7 := { stood := { row := clientPlaysRow, standIns := [], harness := (true, "577c4c1a5635e6efe169f402258e35ddb9f544ceaa503bd454a80b7c25403ca6"), looks := true }, kinds := [], alts := [], laidByText := true, laidKinds := [.data, .handle, .pinned], laidTests := true, laidLooks := .later }
def ClientPlaysCardSaid : Prop := Claim7.holds Tryz.pinned (.plain (OpenSpec.ofChange clientPlaysSpec)) clientPlaysCard

/-- THE TIED CARD OF 'callboxlaw17.ClientOnce'. -/
def clientOnceCard : Claim7 := { stood := { row := clientOnceRow, standIns := [], harness := (true, "577c4c1a5635e6efe169f402258e35ddb9f544ceaa503bd454a80b7c25403ca6"), looks := true }, kinds := [], alts := [], laidByText := true, laidKinds := [.data, .handle, .pinned], laidTests := true, laidLooks := .later }
def ClientOnceCardSaid : Prop := Claim7.holds Tryz.pinned (.plain (OpenSpec.ofChange clientOnceSpec)) clientOnceCard

/-- THE TIED CARD OF 'callboxlaw20.ServerPlays'. -/
def serverPlaysCard : Claim7 := { stood := { row := serverPlaysRow, standIns := [], harness := (true, "577c4c1a5635e6efe169f402258e35ddb9f544ceaa503bd454a80b7c25403ca6"), looks := true }, kinds := [], alts := [], laidByText := true, laidKinds := [.data, .handle, .pinned], laidTests := true, laidLooks := .later }
def ServerPlaysCardSaid : Prop := Claim7.holds Tryz.pinned (.plain (OpenSpec.ofChange serverPlaysSpec)) serverPlaysCard

/-- THE TIED CARD OF 'callboxlaw20.ServerMakes'. -/
def serverMakesCard : Claim7 := { stood := { row := serverMakesRow, standIns := [], harness := (true, "577c4c1a5635e6efe169f402258e35ddb9f544ceaa503bd454a80b7c25403ca6"), looks := true }, kinds := [], alts := [], laidByText := true, laidKinds := [.data, .handle, .pinned], laidTests := true, laidLooks := .later }
def ServerMakesCardSaid : Prop := Claim7.holds Tryz.pinned (.plain (OpenSpec.ofChange serverMakesSpec)) serverMakesCard

/-- THE TIED CARD OF 'callboxlaw20.ServerOnce'. -/
def serverOnceCard : Claim7 := { stood := { row := serverOnceRow, standIns := [], harness := (true, "577c4c1a5635e6efe169f402258e35ddb9f544ceaa503bd454a80b7c25403ca6"), looks := true }, kinds := [], alts := [], laidByText := true, laidKinds := [.data, .handle, .pinned], laidTests := true, laidLooks := .later }
def ServerOnceCardSaid : Prop := Claim7.holds Tryz.pinned (.plain (OpenSpec.ofChange serverOnceSpec)) serverOnceCard

/-- THE TIED CARD OF 'callboxlaw20.ServerDeaf'. -/
def serverDeafCard : Claim7 := { stood := { row := serverDeafRow, standIns := [], harness := (true, "577c4c1a5635e6efe169f402258e35ddb9f544ceaa503bd454a80b7c25403ca6"), looks := true }, kinds := [], alts := [], laidByText := true, laidKinds := [.data, .handle, .pinned], laidTests := true, laidLooks := .later }
def ServerDeafCardSaid : Prop := Claim7.holds Tryz.pinned (.plain (OpenSpec.ofChange serverDeafSpec)) serverDeafCard

/-- THE SECOND FORM's CARD OF 'callboxlaw17.ClientPlays'. -/
def clientPlaysUptoCard : Claim7 := { stood := { row := clientPlaysUptoRow, standIns := [], harness := (true, "577c4c1a5635e6efe169f402258e35ddb9f544ceaa503bd454a80b7c25403ca6"), looks := true }, kinds := [], alts := [], laidByText := true, laidKinds := [.data, .handle, .pinned], laidTests := true, laidLooks := .later }
def ClientPlaysUptoCardSaid : Prop := Claim7.holds Tryz.pinned (.plain (OpenSpec.upto clientPlaysSpec)) clientPlaysUptoCard

/-- THE SECOND FORM's CARD OF 'callboxlaw17.ClientOnce'. -/
def clientOnceUptoCard : Claim7 := { stood := { row := clientOnceUptoRow, standIns := [], harness := (true, "577c4c1a5635e6efe169f402258e35ddb9f544ceaa503bd454a80b7c25403ca6"), looks := true }, kinds := [], alts := [], laidByText := true, laidKinds := [.data, .handle, .pinned], laidTests := true, laidLooks := .later }
def ClientOnceUptoCardSaid : Prop := Claim7.holds Tryz.pinned (.plain (OpenSpec.upto clientOnceSpec)) clientOnceUptoCard

/-- THE SECOND FORM's CARD OF 'callboxlaw20.ServerPlays'. -/
def serverPlaysUptoCard : Claim7 := { stood := { row := serverPlaysUptoRow, standIns := [], harness := (true, "577c4c1a5635e6efe169f402258e35ddb9f544ceaa503bd454a80b7c25403ca6"), looks := true }, kinds := [], alts := [], laidByText := true, laidKinds := [.data, .handle, .pinned], laidTests := true, laidLooks := .later }
def ServerPlaysUptoCardSaid : Prop := Claim7.holds Tryz.pinned (.plain (OpenSpec.upto serverPlaysSpec)) serverPlaysUptoCard

/-- THE SECOND FORM's CARD OF 'callboxlaw20.ServerMakes'. -/
def serverMakesUptoCard : Claim7 := { stood := { row := serverMakesUptoRow, standIns := [], harness := (true, "577c4c1a5635e6efe169f402258e35ddb9f544ceaa503bd454a80b7c25403ca6"), looks := true }, kinds := [], alts := [], laidByText := true, laidKinds := [.data, .handle, .pinned], laidTests := true, laidLooks := .later }
def ServerMakesUptoCardSaid : Prop := Claim7.holds Tryz.pinned (.plain (OpenSpec.upto serverMakesSpec)) serverMakesUptoCard

/-- THE SECOND FORM's CARD OF 'callboxlaw20.ServerOnce'. -/
def serverOnceUptoCard : Claim7 := { stood := { row := serverOnceUptoRow, standIns := [], harness := (true, "577c4c1a5635e6efe169f402258e35ddb9f544ceaa503bd454a80b7c25403ca6"), looks := true }, kinds := [], alts := [], laidByText := true, laidKinds := [.data, .handle, .pinned], laidTests := true, laidLooks := .later }
def ServerOnceUptoCardSaid : Prop := Claim7.holds Tryz.pinned (.plain (OpenSpec.upto serverOnceSpec)) serverOnceUptoCard

/-- THE SECOND FORM's CARD OF 'callboxlaw20.ServerDeaf'. -/
def serverDeafUptoCard : Claim7 := { stood := { row := serverDeafUptoRow, standIns := [], harness := (true, "577c4c1a5635e6efe169f402258e35ddb9f544ceaa503bd454a80b7c25403ca6"), looks := true }, kinds := [], alts := [], laidByText := true, laidKinds := [.data, .handle, .pinned], laidTests := true, laidLooks := .later }
def ServerDeafUptoCardSaid : Prop := Claim7.holds Tryz.pinned (.plain (OpenSpec.upto serverDeafSpec)) serverDeafUptoCard
end Rows
end Go.Proofs.YtbegjpmifcnieaaGreatDoor
