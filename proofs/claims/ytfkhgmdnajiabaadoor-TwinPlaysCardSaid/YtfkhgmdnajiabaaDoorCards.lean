/-
  DERIVED. GIVEN WITH THE SEED: THE CARDS: each row of YtfkhgmdnajiabaaDoorRows.lean that lists a variable, with what it lists TIED to the program's text (the seventh form; the later family's looks); each row that meets fmt, with fmt's text TOLD by the authors' own Lean function (tested against real Go, not proved from fmt's source: count such statements apart). THE CARD IS WHAT COUNTS. Prove the row's statement (the work); the ties are given (YtfkhgmdnajiabaaDoorTie.lean); close each card by the builder's one call (the guide's Derived/Test/ToyasCard.lean, 'card_holds'). Laid BY PROGRAM, IN A SANDBOX (cutbox-door.mjs). By AI agents, Wed Nov 11 2026. No macro, syntax, notation, axiom, sorry.
-/
import Derived.Test.YtfkhgmdnajiabaaDoorRows
import GoSem.ClaimSeven
namespace Go.Proofs.YtfkhgmdnajiabaaDoor
namespace Rows

/-- THE TIED CARD OF 'concordancelaw09.TwinRefuses'. -/
def twinRefusesCard : Claim7 := { stood := { row := twinRefusesRow, standIns := [], harness := (true, "0830f50c66a7e7015aa2c220b8020c483cba3f02aa3e5202957796163c674065"), looks := false }, kinds := [], alts := [], laidByText := true, laidKinds := [.data, .data, .pinned], laidTests := true, laidLooks := .later }
def TwinRefusesCardSaid : Prop := Claim7.holds Tryd.pinned (.plain (OpenSpec.ofChange twinRefusesSpec)) twinRefusesCard

/-- THE TIED CARD OF 'concordancelaw09.TwinRounds'. -/
def twinRoundsCard : Claim7 := { stood := { row := twinRoundsRow, standIns := [], harness := (true, "0830f50c66a7e7015aa2c220b8020c483cba3f02aa3e5202957796163c674065"), looks := false }, kinds := [], alts := [], laidByText := true, laidKinds := [.data, .data, .pinned], laidTests := true, laidLooks := .later }
def TwinRoundsCardSaid : Prop := Claim7.holds Tryd.pinned (.plain (OpenSpec.ofChange twinRoundsSpec)) twinRoundsCard

/-- THE TIED CARD OF 'concordancelaw09.TwinLeaves'. -/
def twinLeavesCard : Claim7 := { stood := { row := twinLeavesRow, standIns := [], harness := (true, "0830f50c66a7e7015aa2c220b8020c483cba3f02aa3e5202957796163c674065"), looks := false }, kinds := [], alts := [], laidByText := true, laidKinds := [.data, .data, .pinned], laidTests := true, laidLooks := .later }
def TwinLeavesCardSaid : Prop := Claim7.holds Tryd.pinned (.plain (OpenSpec.ofChange twinLeavesSpec)) twinLeavesCard

/-- THE TIED CARD OF 'concordancelaw09.TwinPlays'. -/
def twinPlaysCard : Claim7 := { stood := { row := twinPlaysRow, standIns := [], harness := (true, "0830f50c66a7e7015aa2c220b8020c483cba3f02aa3e5202957796163c674065"), looks := false }, kinds := [], alts := [], laidByText := true, laidKinds := [.data, .data, .pinned], laidTests := true, laidLooks := .later }
def TwinPlaysCardSaid : Prop := Claim7.holds Tryd.pinned (.plain (OpenSpec.ofChange twinPlaysSpec)) twinPlaysCard

/-- THE SECOND FORM's CARD OF 'concordancelaw09.TwinRefuses'. -/
def twinRefusesUptoCard : Claim7 := { stood := { row := twinRefusesUptoRow, standIns := [], harness := (true, "0830f50c66a7e7015aa2c220b8020c483cba3f02aa3e5202957796163c674065"), looks := false }, kinds := [], alts := [], laidByText := true, laidKinds := [.data, .data, .pinned], laidTests := true, laidLooks := .later }
def TwinRefusesUptoCardSaid : Prop := Claim7.holds Tryd.pinned (.plain (OpenSpec.upto twinRefusesSpec)) twinRefusesUptoCard

/-- THE SECOND FORM's CARD OF 'concordancelaw09.TwinRounds'. -/
def twinRoundsUptoCard : Claim7 := { stood := { row := twinRoundsUptoRow, standIns := [], harness := (true, "0830f50c66a7e7015aa2c220b8020c483cba3f02aa3e5202957796163c674065"), looks := false }, kinds := [], alts := [], laidByText := true, laidKinds := [.data, .data, .pinned], laidTests := true, laidLooks := .later }
def TwinRoundsUptoCardSaid : Prop := Claim7.holds Tryd.pinned (.plain (OpenSpec.upto twinRoundsSpec)) twinRoundsUptoCard

/-- THE SECOND FORM's CARD OF 'concordancelaw09.TwinLeaves'. -/
def twinLeavesUptoCard : Claim7 := { stood := { row := twinLeavesUptoRow, standIns := [], harness := (true, "0830f50c66a7e7015aa2c220b8020c483cba3f02aa3e5202957796163c674065"), looks := false }, kinds := [], alts := [], laidByText := true, laidKinds := [.data, .data, .pinned], laidTests := true, laidLooks := .later }
def TwinLeavesUptoCardSaid : Prop := Claim7.holds Tryd.pinned (.plain (OpenSpec.upto twinLeavesSpec)) twinLeavesUptoCard

/-- THE SECOND FORM's CARD OF 'concordancelaw09.TwinPlays'. -/
def twinPlaysUptoCard : Claim7 := { stood := { row := twinPlaysUptoRow, standIns := [], harness := (true, "0830f50c66a7e7015aa2c220b8020c483cba3f02aa3e5202957796163c674065"), looks := false }, kinds := [], alts := [], laidByText := true, laidKinds := [.data, .data, .pinned], laidTests := true, laidLooks := .later }
def TwinPlaysUptoCardSaid : Prop := Claim7.holds Tryd.pinned (.plain (OpenSpec.upto twinPlaysSpec)) twinPlaysUptoCard
end Rows
end Go.Proofs.YtfkhgmdnajiabaaDoor
