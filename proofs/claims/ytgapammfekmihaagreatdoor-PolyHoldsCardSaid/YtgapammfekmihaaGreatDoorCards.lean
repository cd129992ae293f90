/-
  DERIVED. GIVEN WITH THE SEED: THE CARDS: each row of YtgapammfekmihaaGreatDoorRows.lean that lists a variable, with what it lists TIED to the program's text (the seventh form; the later family's looks); each row that meets fmt, with fmt's text TOLD by the authors' own Lean function (tested against real Go, not proved from fmt's source: count such statements apart). THE CARD IS WHAT COUNTS. Prove the row's statement (the work); the ties are given (YtgapammfekmihaaGreatDoorTie.lean); close each card by the builder's one call (the guide's Derived/Test/ToyasCard.lean, 'card_holds'). Laid BY PROGRAM, IN A SANDBOX (cutbox-door.mjs). By AI agents, Wed Nov 11 2026. No macro, syntax, notation, axiom, sorry.
-/
import Derived.Test.YtgapammfekmihaaGreatDoorRows
import GoSem.ClaimSeven
namespace Go.Proofs.YtgapammfekmihaaGreatDoor
namespace Rows

/-- THE TIED CARD OF 'fathomlinelaw10.PolyRights'. -/
def polyRightsCard : Claim7 := { stood := { row := polyRightsRow, standIns := [], harness := (true, "16bbb1c3cb50256856a36b4a46284ab0b342408bab08bb354e8b01ac7b1ac621"), looks := false }, kinds := [], alts := [], laidByText := true, laidKinds := [.data], laidTests := true, laidLooks := .later }
def PolyRightsCardSaid : Prop := Claim7.holds Tryz.pinned (.plain (OpenSpec.ofChange polyRightsSpec)) polyRightsCard

/-- THE TIED CARD OF 'fathomlinelaw10.PolyMakes'. -/
def polyMakesCard : Claim7 := { stood := { row := polyMakesRow, standIns := [], harness := (true, "16bbb1c3cb50256856a36b4a46284ab0b342408bab08bb354e8b01ac7b1ac621"), looks := false }, kinds := [], alts := [], laidByText := true, laidKinds := [.data], laidTests := true, laidLooks := .later }
def PolyMakesCardSaid : Prop := Claim7.holds Tryz.pinned (.plain (OpenSpec.ofChange polyMakesSpec)) polyMakesCard

/-- THE TIED CARD OF 'fathomlinelaw10.PolyReckons'. -/
def polyReckonsCard : Claim7 := { stood := { row := polyReckonsRow, standIns := [], harness := (true, "16bbb1c3cb50256856a36b4a46284ab0b342408bab08bb354e8b01ac7b1ac621"), looks := false }, kinds := [], alts := [], laidByText := true, laidKinds := [.data], laidTests := true, laidLooks := .later }
def PolyReckonsCardSaid : Prop := Claim7.holds Tryz.pinned (.plain (OpenSpec.ofChange polyReckonsSpec)) polyReckonsCard

/-- THE TIED CARD OF 'fathomlinelaw10.PolyDrawn'. -/
def polyDrawnCard : Claim7 := { stood := { row := polyDrawnRow, standIns := [], harness := (true, "16bbb1c3cb50256856a36b4a46284ab0b342408bab08bb354e8b01ac7b1ac621"), looks := false }, kinds := [], alts := [], laidByText := true, laidKinds := [.data], laidTests := true, laidLooks := .later }
def PolyDrawnCardSaid : Prop := Claim7.holds Tryz.pinned (.plain (OpenSpec.ofChange polyDrawnSpec)) polyDrawnCard

/-- THE TIED CARD OF 'fathomlinelaw10.PolyValues'. -/
def polyValuesCard : Claim7 := { stood := { row := polyValuesRow, standIns := [], harness := (true, "16bbb1c3cb50256856a36b4a46284ab0b342408bab08bb354e8b01ac7b1ac621"), looks := false }, kinds := [], alts := [], laidByText := true, laidKinds := [.data], laidTests := true, laidLooks := .later }
def PolyValuesCardSaid : Prop := Claim7.holds Tryz.pinned (.plain (OpenSpec.ofChange polyValuesSpec)) polyValuesCard

/-- THE TIED CARD OF 'fathomlinelaw10.PolyRings'. -/
def polyRingsCard : Claim7 := { stood := { row := polyRingsRow, standIns := [], harness := (true, "16bbb1c3cb50256856a36b4a46284ab0b342408bab08bb354e8b01ac7b1ac621"), looks := false }, kinds := [], alts := [], laidByText := true, laidKinds := [.data], laidTests := true, laidLooks := .later }
def PolyRingsCardSaid : Prop := Claim7.holds Tryz.pinned (.plain (OpenSpec.ofChange polyRingsSpec)) polyRingsCard

/-- THE TIED CARD OF 'fathomlinelaw10.PolyDerives'. -/
def polyDerivesCard : Claim7 := { stood := { row := polyDerivesRow, standIns := [], harness := (true, "16bbb1c3cb50256856a36b4a46284ab0b342408bab08bb354e8b01ac7b1ac621"), looks := false }, kinds := [], alts := [], laidByText := true, laidKinds := [.data], laidTests := true, laidLooks := .later }
def PolyDerivesCardSaid : Prop := Claim7.holds Tryz.pinned (.plain (OpenSpec.ofChange polyDerivesSpec)) polyDerivesCard

/-- THE TIED CARD OF 'fathomlinelaw10.PolyHolds'. -/
def polyHoldsCard : Claim7 := { stood := { row := polyHoldsRow, standIns := [], harness := (true, "16bbb1c3cb50256856a36b4a46284ab0b342408bab08bb354e8b01ac7b1ac621"), looks := false }, kinds := [], alts := [], laidByText := true, laidKinds := [.data], laidTests := true, laidLooks := .later }
def PolyHoldsCardSaid : Prop := Claim7.holds Tryz.pinned (.plain (OpenSpec.ofChange polyHoldsSpec)) polyHoldsCard

/-- THE SECOND FORM's CARD OF 'fathomlinelaw10.PolyRights'. -/
def polyRightsUptoCard : Claim7 := { stood := { row := polyRightsUptoRow, standIns := [], harness := (true, "16bbb1c3cb50256856a36b4a46284ab0b342408bab08bb354e8b01ac7b1ac621"), looks := false }, kinds := [], alts := [], laidByText := true, laidKinds := [.data], laidTests := true, laidLooks := .later }
def PolyRightsUptoCardSaid : Prop := Claim7.holds Tryz.pinned (.plain (OpenSpec.upto polyRightsSpec)) polyRightsUptoCard

/-- THE SECOND FORM's CARD OF 'fathomlinelaw10.PolyMakes'. -/
def polyMakesUptoCard : Claim7 := { stood := { row := polyMakesUptoRow, standIns := [], harness := (true, "16bbb1c3cb50256856a36b4a46284ab0b342408bab08bb354e8b01ac7b1ac621"), looks := false }, kinds := [], alts := [], laidByText := true, laidKinds := [.data], laidTests := true, laidLooks := .later }
def PolyMakesUptoCardSaid : Prop := Claim7.holds Tryz.pinned (.plain (OpenSpec.upto polyMakesSpec)) polyMakesUptoCard

/-- THE SECOND FORM's CARD OF 'fathomlinelaw10.PolyReckons'. -/
def polyReckonsUptoCard : Claim7 := { stood := { row := polyReckonsUptoRow, standIns := [], harness := (true, "16bbb1c3cb50256856a36b4a46284ab0b342408bab08bb354e8b01ac7b1ac621"), looks := false }, kinds := [], alts := [], laidByText := true, laidKinds := [.data], laidTests := true, laidLooks := .later }
def PolyReckonsUptoCardSaid : Prop := Claim7.holds Tryz.pinned (.plain (OpenSpec.upto polyReckonsSpec)) polyReckonsUptoCard

/-- THE SECOND FORM's CARD OF 'fathomlinelaw10.PolyDrawn'. -/
def polyDrawnUptoCard : Claim7 := { stood := { row := polyDrawnUptoRow, standIns := [], harness := (true, "16bbb1c3cb50256856a36b4a46284ab0b342408bab08bb354e8b01ac7b1ac621"), looks := false }, kinds := [], alts := [], laidByText := true, laidKinds := [.data], laidTests := true, laidLooks := .later }
def PolyDrawnUptoCardSaid : Prop := Claim7.holds Tryz.pinned (.plain (OpenSpec.upto polyDrawnSpec)) polyDrawnUptoCard

/-- THE SECOND FORM's CARD OF 'fathomlinelaw10.PolyValues'. -/
def polyValuesUptoCard : Claim7 := { stood := { row := polyValuesUptoRow, standIns := [], harness := (true, "16bbb1c3cb50256856a36b4a46284ab0b342408bab08bb354e8b01ac7b1ac621"), looks := false }, kinds := [], alts := [], laidByText := true, laidKinds := [.data], laidTests := true, laidLooks := .later }
def PolyValuesUptoCardSaid : Prop := Claim7.holds Tryz.pinned (.plain (OpenSpec.upto polyValuesSpec)) polyValuesUptoCard

/-- THE SECOND FORM's CARD OF 'fathomlinelaw10.PolyRings'. -/
def polyRingsUptoCard : Claim7 := { stood := { row := polyRingsUptoRow, standIns := [], harness := (true, "16bbb1c3cb50256856a36b4a46284ab0b342408bab08bb354e8b01ac7b1ac621"), looks := false }, kinds := [], alts := [], laidByText := true, laidKinds := [.data], laidTests := true, laidLooks := .later }
def PolyRingsUptoCardSaid : Prop := Claim7.holds Tryz.pinned (.plain (OpenSpec.upto polyRingsSpec)) polyRingsUptoCard

/-- THE SECOND FORM's CARD OF 'fathomlinelaw10.PolyDerives'. -/
def polyDerivesUptoCard : Claim7 := { stood := { row := polyDerivesUptoRow, standIns := [], harness := (true, "16bbb1c3cb50256856a36b4a46284ab0b342408bab08bb354e8b01ac7b1ac621"), looks := false }, kinds := [], alts := [], laidByText := true, laidKinds := [.data], laidTests := true, laidLooks := .later }
def PolyDerivesUptoCardSaid : Prop := Claim7.holds Tryz.pinned (.plain (OpenSpec.upto polyDerivesSpec)) polyDerivesUptoCard

/-- THE SECOND FORM's CARD OF 'fathomlinelaw10.PolyHolds'. -/
def polyHoldsUptoCard : Claim7 := { stood := { row := polyHoldsUptoRow, standIns := [], harness := (true, "16bbb1c3cb50256856a36b4a46284ab0b342408bab08bb354e8b01ac7b1ac621"), looks := false }, kinds := [], alts := [], laidByText := true, laidKinds := [.data], laidTests := true, laidLooks := .later }
def PolyHoldsUptoCardSaid : Prop := Claim7.holds Tryz.pinned (.plain (OpenSpec.upto polyHoldsSpec)) polyHoldsUptoCard
end Rows
end Go.Proofs.YtgapammfekmihaaGreatDoor
