/-
  DERIVED. GIVEN WITH THE SEED: THE CARDS: each row of YtlhcfmcbfdihoaaDoorRows.lean that lists a variable, with what it lists TIED to the program's text (the seventh form; the later family's looks); each row that meets fmt, with fmt's text TOLD by the authors' own Lean function (tested against real Go, not proved from fmt's source: count such statements apart). THE CARD IS WHAT COUNTS. Prove the row's statement (the work); the ties are given (YtlhcfmcbfdihoaaDoorTie.lean); close each card by the builder's one call (the guide's Derived/Test/ToyasCard.lean, 'card_holds'). Laid BY PROGRAM, IN A SANDBOX (cutbox-door.mjs). By AI agents, Wed Nov 11 2026. No macro, syntax, notation, axiom, sorry.
-/
import Derived.Test.YtlhcfmcbfdihoaaDoorRows
import GoSem.ClaimSeven
namespace Go.Proofs.YtlhcfmcbfdihoaaDoor
namespace Rows

/-- THE TIED CARD OF 'concordancelaw05.PageEncodes'. -/
def pageEncodesCard : Claim7 := { stood := { row := pageEncodesRow, standIns := [], harness := (true, "22ff8c7291d91765054886c2aab341835b3b1bf5919591508dcd9f5fd064580c"), looks := false }, kinds := [], alts := [], laidByText := true, laidKinds := [.data, .data, .pinned], laidTests := true, laidLooks := .later }
def PageEncodesCardSaid : Prop := Claim7.holds Tryd.pinned (.plain (OpenSpec.ofChange pageEncodesSpec)) pageEncodesCard

/-- THE TIED CARD OF 'concordancelaw05.PageDecodes'. -/
def pageDecodesCard : Claim7 := { stood := { row := pageDecodesRow, standIns := [], harness := (true, "22ff8c7291d91765054886c2aab341835b3b1bf5919591508dcd9f5fd064580c"), looks := false }, kinds := [], alts := [], laidByText := true, laidKinds := [.data, .data, .pinned], laidTests := true, laidLooks := .later }
def PageDecodesCardSaid : Prop := Claim7.holds Tryd.pinned (.plain (OpenSpec.ofChange pageDecodesSpec)) pageDecodesCard

/-- THE TIED CARD OF 'concordancelaw05.PageBuilds'. -/
def pageBuildsCard : Claim7 := { stood := { row := pageBuildsRow, standIns := [], harness := (true, "22ff8c7291d91765054886c2aab341835b3b1bf5919591508dcd9f5fd064580c"), looks := false }, kinds := [], alts := [], laidByText := true, laidKinds := [.data, .data, .pinned], laidTests := true, laidLooks := .later }
def PageBuildsCardSaid : Prop := Claim7.holds Tryd.pinned (.plain (OpenSpec.ofChange pageBuildsSpec)) pageBuildsCard

/-- THE TIED CARD OF 'concordancelaw05.PageHalves'. -/
def pageHalvesCard : Claim7 := { stood := { row := pageHalvesRow, standIns := [], harness := (true, "22ff8c7291d91765054886c2aab341835b3b1bf5919591508dcd9f5fd064580c"), looks := false }, kinds := [], alts := [], laidByText := true, laidKinds := [.data, .data, .pinned], laidTests := true, laidLooks := .later }
def PageHalvesCardSaid : Prop := Claim7.holds Tryd.pinned (.plain (OpenSpec.ofChange pageHalvesSpec)) pageHalvesCard

/-- THE TIED CARD OF 'concordancelaw05.PageApart'. -/
def pageApartCard : Claim7 := { stood := { row := pageApartRow, standIns := [], harness := (true, "22ff8c7291d91765054886c2aab341835b3b1bf5919591508dcd9f5fd064580c"), looks := false }, kinds := [], alts := [], laidByText := true, laidKinds := [.data, .data, .pinned], laidTests := true, laidLooks := .later }
def PageApartCardSaid : Prop := Claim7.holds Tryd.pinned (.plain (OpenSpec.ofChange pageApartSpec)) pageApartCard

/-- THE SECOND FORM's CARD OF 'concordancelaw05.PageEncodes'. -/
def pageEncodesUptoCard : Claim7 := { stood := { row := pageEncodesUptoRow, standIns := [], harness := (true, "22ff8c7291d91765054886c2aab341835b3b1bf5919591508dcd9f5fd064580c"), looks := false }, kinds := [], alts := [], laidByText := true, laidKinds := [.data, .data, .pinned], laidTests := true, laidLooks := .later }
def PageEncodesUptoCardSaid : Prop := Claim7.holds Tryd.pinned (.plain (OpenSpec.upto pageEncodesSpec)) pageEncodesUptoCard

/-- THE SECOND FORM's CARD OF 'concordancelaw05.PageDecodes'. -/
def pageDecodesUptoCard : Claim7 := { stood := { row := pageDecodesUptoRow, standIns := [], harness := (true, "22ff8c7291d91765054886c2aab341835b3b1bf5919591508dcd9f5fd064580c"), looks := false }, kinds := [], alts := [], laidByText := true, laidKinds := [.data, .data, .pinned], laidTests := true, laidLooks := .later }
def PageDecodesUptoCardSaid : Prop := Claim7.holds Tryd.pinned (.plain (OpenSpec.upto pageDecodesSpec)) pageDecodesUptoCard

/-- THE SECOND FORM's CARD OF 'concordancelaw05.PageBuilds'. -/
def pageBuildsUptoCard : Claim7 := { stood := { row := pageBuildsUptoRow, standIns := [], harness := (true, "22ff8c7291d91765054886c2aab341835b3b1bf5919591508dcd9f5fd064580c"), looks := false }, kinds := [], alts := [], laidByText := true, laidKinds := [.data, .data, .pinned], laidTests := true, laidLooks := .later }
def PageBuildsUptoCardSaid : Prop := Claim7.holds Tryd.pinned (.plain (OpenSpec.upto pageBuildsSpec)) pageBuildsUptoCard

/-- THE SECOND FORM's CARD OF 'concordancelaw05.PageHalves'. -/
def pageHalvesUptoCard : Claim7 := { stood := { row := pageHalvesUptoRow, standIns := [], harness := (true, "22ff8c7291d91765054886c2aab341835b3b1bf5919591508dcd9f5fd064580c"), looks := false }, kinds := [], alts := [], laidByText := true, laidKinds := [.data, .data, .pinned], laidTests := true, laidLooks := .later }
def PageHalvesUptoCardSaid : Prop := Claim7.holds Tryd.pinned (.plain (OpenSpec.upto pageHalvesSpec)) pageHalvesUptoCard

/-- THE SECOND FORM's CARD OF 'concordancelaw05.PageApart'. -/
def pageApartUptoCard : Claim7 := { stood := { row := pageApartUptoRow, standIns := [], harness := (true, "22ff8c7291d91765054886c2aab341835b3b1bf5919591508dcd9f5fd064580c"), looks := false }, kinds := [], alts := [], laidByText := true, laidKinds := [.data, .data, .pinned], laidTests := true, laidLooks := .later }
def PageApartUptoCardSaid : Prop := Claim7.holds Tryd.pinned (.plain (OpenSpec.upto pageApartSpec)) pageApartUptoCard
end Rows
end Go.Proofs.YtlhcfmcbfdihoaaDoor
