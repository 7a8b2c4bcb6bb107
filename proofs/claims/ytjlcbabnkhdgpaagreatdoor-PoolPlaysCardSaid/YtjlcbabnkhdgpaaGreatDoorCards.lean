/-
  DERIVED. GIVEN WITH THE SEED: THE CARDS: each row of YtjlcbabnkhdgpaaGreatDoorRows.lean that lists a variable, with what it lists TIED to the program's text (the seventh form; the later family's looks); each row that meets fmt, with fmt's text TOLD by the authors' own Lean function (tested against real Go, not proved from fmt's source: count such statements apart). THE CARD IS WHAT COUNTS. Prove the row's statement (the work); the ties are given (YtjlcbabnkhdgpaaGreatDoorTie.lean); close each card by the builder's one call (the guide's Derived/Test/ToyasCard.lean, 'card_holds'). Laid BY PROGRAM, IN A SANDBOX (cutbox-door.mjs). By AI agents, Wed Nov 11 2026. No macro, syntax, notation, axiom, sorry.
-/
import Derived.Test.YtjlcbabnkhdgpaaGreatDoorRows
import GoSem.ClaimSeven
namespace Go.Proofs.YtjlcbabnkhdgpaaGreatDoor
namespace Rows

/-- THE TIED CARD OF 'concordancelaw10.PoolPins'. -/
def poolPinsCard : Claim7 := { stood := { row := poolPinsRow, standIns := [], harness := (true, "e4e4f1a481edf15e443bf376b86a37dd0b93e8d22077b282cdc905dddfc2007c"), looks := false }, kinds := [], alts := [], laidByText := true, laidKinds := [.data, .data, .pinned], laidTests := true, laidLooks := .later }
def PoolPinsCardSaid : Prop := Claim7.holds Tryz.pinned (.plain (OpenSpec.ofChange poolPinsSpec)) poolPinsCard

/-- THE TIED CARD OF 'concordancelaw10.PoolRefuses'. -/
def poolRefusesCard : Claim7 := { stood := { row := poolRefusesRow, standIns := [], harness := (true, "e4e4f1a481edf15e443bf376b86a37dd0b93e8d22077b282cdc905dddfc2007c"), looks := false }, kinds := [], alts := [], laidByText := true, laidKinds := [.data, .data, .pinned], laidTests := true, laidLooks := .later }
def PoolRefusesCardSaid : Prop := Claim7.holds Tryz.pinned (.plain (OpenSpec.ofChange poolRefusesSpec)) poolRefusesCard

/-- THE TIED CARD OF 'concordancelaw10.PoolPlays'. -/
def poolPlaysCard : Claim7 := { stood := { row := poolPlaysRow, standIns := [], harness := (true, "e4e4f1a481edf15e443bf376b86a37dd0b93e8d22077b282cdc905dddfc2007c"), looks := false }, kinds := [], alts := [], laidByText := true, laidKinds := [.data, .data, .pinned], laidTests := true, laidLooks := .later }
def PoolPlaysCardSaid : Prop := Claim7.holds Tryz.pinned (.plain (OpenSpec.ofChange poolPlaysSpec)) poolPlaysCard

/-- THE TIED CARD OF 'concordancelaw10.PoolKeeps'. -/
def poolKeepsCard : Claim7 := { stood := { row := poolKeepsRow, standIns := [], harness := (true, "e4e4f1a481edf15e443bf376b86a37dd0b93e8d22077b282cdc905dddfc2007c"), looks := false }, kinds := [], alts := [], laidByText := true, laidKinds := [.data, .data, .pinned], laidTests := true, laidLooks := .later }
def PoolKeepsCardSaid : Prop := Claim7.holds Tryz.pinned (.plain (OpenSpec.ofChange poolKeepsSpec)) poolKeepsCard

/-- THE SECOND FORM's CARD OF 'concordancelaw10.PoolPins'. -/
def poolPinsUptoCard : Claim7 := { stood := { row := poolPinsUptoRow, standIns := [], harness := (true, "e4e4f1a481edf15e443bf376b86a37dd0b93e8d22077b282cdc905dddfc2007c"), looks := false }, kinds := [], alts := [], laidByText := true, laidKinds := [.data, .data, .pinned], laidTests := true, laidLooks := .later }
def PoolPinsUptoCardSaid : Prop := Claim7.holds Tryz.pinned (.plain (OpenSpec.upto poolPinsSpec)) poolPinsUptoCard

/-- THE SECOND FORM's CARD OF 'concordancelaw10.PoolRefuses'. -/
def poolRefusesUptoCard : Claim7 := { stood := { row := poolRefusesUptoRow, standIns := [], harness := (true, "e4e4f1a481edf15e443bf376b86a37dd0b93e8d22077b282cdc905dddfc2007c"), looks := false }, kinds := [], alts := [], laidByText := true, laidKinds := [.data, .data, .pinned], laidTests := true, laidLooks := .later }
def PoolRefusesUptoCardSaid : Prop := Claim7.holds Tryz.pinned (.plain (OpenSpec.upto poolRefusesSpec)) poolRefusesUptoCard

/-- THE SECOND FORM's CARD OF 'concordancelaw10.PoolPlays'. -/
def poolPlaysUptoCard : Claim7 := { stood := { row := poolPlaysUptoRow, standIns := [], harness := (true, "e4e4f1a481edf15e443bf376b86a37dd0b93e8d22077b282cdc905dddfc2007c"), looks := false }, kinds := [], alts := [], laidByText := true, laidKinds := [.data, .data, .pinned], laidTests := true, laidLooks := .later }
def PoolPlaysUptoCardSaid : Prop := Claim7.holds Tryz.pinned (.plain (OpenSpec.upto poolPlaysSpec)) poolPlaysUptoCard

/-- THE SECOND FORM's CARD OF 'concordancelaw10.PoolKeeps'. -/
def poolKeepsUptoCard : Claim7 := { stood := { row := poolKeepsUptoRow, standIns := [], harness := (true, "e4e4f1a481edf15e443bf376b86a37dd0b93e8d22077b282cdc905dddfc2007c"), looks := false }, kinds := [], alts := [], laidByText := true, laidKinds := [.data, .data, .pinned], laidTests := true, laidLooks := .later }
def PoolKeepsUptoCardSaid : Prop := Claim7.holds Tryz.pinned (.plain (OpenSpec.upto poolKeepsSpec)) poolKeepsUptoCard
end Rows
end Go.Proofs.YtjlcbabnkhdgpaaGreatDoor
