/-
  DERIVED. GIVEN WITH THE SEED: THE CARDS: each row of YtkmoeenhboicmaaDoorRows.lean that lists a variable, with what it lists TIED to the program's text (the seventh form; the later family's looks); each row that meets fmt, with fmt's text TOLD by the authors' own Lean function (tested against real Go, not proved from fmt's source: count such statements apart). THE CARD IS WHAT COUNTS. Prove the row's statement (the work); the ties are given (YtkmoeenhboicmaaDoorTie.lean); close each card by the builder's one call (the guide's Derived/Test/ToyasCard.lean, 'card_holds'). Laid BY PROGRAM, IN A SANDBOX (cutbox-door.mjs). By AI agents, Wed Nov 11 2026. No macro, syntax, notation, axiom, sorry.
-/
import Derived.Test.YtkmoeenhboicmaaDoorRows
import GoSem.ClaimSeven
namespace Go.Proofs.YtkmoeenhboicmaaDoor
namespace Rows

/-- THE TIED CARD OF 'fathomlinelaw2.NumRights'. -/
def numRightsCard : Claim7 := { stood := { row := numRightsRow, standIns := [], harness := (true, "3dd5302a80e728afc51e6e5867a235f9c5400d78070187e1180b2f6deb30e7fd"), looks := false }, kinds := [], alts := [], laidByText := true, laidKinds := [.data], laidTests := true, laidLooks := .later }
def NumRightsCardSaid : Prop := Claim7.holds Tryd.pinned (.plain (OpenSpec.ofChange numRightsSpec)) numRightsCard

/-- THE TIED CARD OF 'fathomlinelaw2.NumMakes'. -/
def numMakesCard : Claim7 := { stood := { row := numMakesRow, standIns := [], harness := (true, "3dd5302a80e728afc51e6e5867a235f9c5400d78070187e1180b2f6deb30e7fd"), looks := false }, kinds := [], alts := [], laidByText := true, laidKinds := [.data], laidTests := true, laidLooks := .later }
def NumMakesCardSaid : Prop := Claim7.holds Tryd.pinned (.plain (OpenSpec.ofChange numMakesSpec)) numMakesCard

/-- THE TIED CARD OF 'fathomlinelaw2.NumInts'. -/
def numIntsCard : Claim7 := { stood := { row := numIntsRow, standIns := [], harness := (true, "3dd5302a80e728afc51e6e5867a235f9c5400d78070187e1180b2f6deb30e7fd"), looks := false }, kinds := [], alts := [], laidByText := true, laidKinds := [.data], laidTests := true, laidLooks := .later }
def NumIntsCardSaid : Prop := Claim7.holds Tryd.pinned (.plain (OpenSpec.ofChange numIntsSpec)) numIntsCard

/-- THE TIED CARD OF 'fathomlinelaw2.NumOrders'. -/
def numOrdersCard : Claim7 := { stood := { row := numOrdersRow, standIns := [], harness := (true, "3dd5302a80e728afc51e6e5867a235f9c5400d78070187e1180b2f6deb30e7fd"), looks := false }, kinds := [], alts := [], laidByText := true, laidKinds := [.data], laidTests := true, laidLooks := .later }
def NumOrdersCardSaid : Prop := Claim7.holds Tryd.pinned (.plain (OpenSpec.ofChange numOrdersSpec)) numOrdersCard

/-- THE TIED CARD OF 'fathomlinelaw2.NumReckons'. -/
def numReckonsCard : Claim7 := { stood := { row := numReckonsRow, standIns := [], harness := (true, "3dd5302a80e728afc51e6e5867a235f9c5400d78070187e1180b2f6deb30e7fd"), looks := false }, kinds := [], alts := [], laidByText := true, laidKinds := [.data], laidTests := true, laidLooks := .later }
def NumReckonsCardSaid : Prop := Claim7.holds Tryd.pinned (.plain (OpenSpec.ofChange numReckonsSpec)) numReckonsCard

/-- THE TIED CARD OF 'fathomlinelaw2.NumDrawn'. -/
def numDrawnCard : Claim7 := { stood := { row := numDrawnRow, standIns := [], harness := (true, "3dd5302a80e728afc51e6e5867a235f9c5400d78070187e1180b2f6deb30e7fd"), looks := false }, kinds := [], alts := [], laidByText := true, laidKinds := [.data], laidTests := true, laidLooks := .later }
def NumDrawnCardSaid : Prop := Claim7.holds Tryd.pinned (.plain (OpenSpec.ofChange numDrawnSpec)) numDrawnCard

/-- THE TIED CARD OF 'fathomlinelaw2.NumScales'. -/
def numScalesCard : Claim7 := { stood := { row := numScalesRow, standIns := [], harness := (true, "3dd5302a80e728afc51e6e5867a235f9c5400d78070187e1180b2f6deb30e7fd"), looks := false }, kinds := [], alts := [], laidByText := true, laidKinds := [.data], laidTests := true, laidLooks := .later }
def NumScalesCardSaid : Prop := Claim7.holds Tryd.pinned (.plain (OpenSpec.ofChange numScalesSpec)) numScalesCard

/-- THE TIED CARD OF 'fathomlinelaw2.NumRings'. -/
def numRingsCard : Claim7 := { stood := { row := numRingsRow, standIns := [], harness := (true, "3dd5302a80e728afc51e6e5867a235f9c5400d78070187e1180b2f6deb30e7fd"), looks := false }, kinds := [], alts := [], laidByText := true, laidKinds := [.data], laidTests := true, laidLooks := .later }
def NumRingsCardSaid : Prop := Claim7.holds Tryd.pinned (.plain (OpenSpec.ofChange numRingsSpec)) numRingsCard

/-- THE TIED CARD OF 'fathomlinelaw2.NumBetween'. -/
def numBetweenCard : Claim7 := { stood := { row := numBetweenRow, standIns := [], harness := (true, "3dd5302a80e728afc51e6e5867a235f9c5400d78070187e1180b2f6deb30e7fd"), looks := false }, kinds := [], alts := [], laidByText := true, laidKinds := [.data], laidTests := true, laidLooks := .later }
def NumBetweenCardSaid : Prop := Claim7.holds Tryd.pinned (.plain (OpenSpec.ofChange numBetweenSpec)) numBetweenCard

/-- THE SECOND FORM's CARD OF 'fathomlinelaw2.NumRights'. -/
def numRightsUptoCard : Claim7 := { stood := { row := numRightsUptoRow, standIns := [], harness := (true, "3dd5302a80e728afc51e6e5867a235f9c5400d78070187e1180b2f6deb30e7fd"), looks := false }, kinds := [], alts := [], laidByText := true, laidKinds := [.data], laidTests := true, laidLooks := .later }
def NumRightsUptoCardSaid : Prop := Claim7.holds Tryd.pinned (.plain (OpenSpec.upto numRightsSpec)) numRightsUptoCard

/-- THE SECOND FORM's CARD OF 'fathomlinelaw2.NumMakes'. -/
def numMakesUptoCard : Claim7 := { stood := { row := numMakesUptoRow, standIns := [], harness := (true, "3dd5302a80e728afc51e6e5867a235f9c5400d78070187e1180b2f6deb30e7fd"), looks := false }, kinds := [], alts := [], laidByText := true, laidKinds := [.data], laidTests := true, laidLooks := .later }
def NumMakesUptoCardSaid : Prop := Claim7.holds Tryd.pinned (.plain (OpenSpec.upto numMakesSpec)) numMakesUptoCard

/-- THE SECOND FORM's CARD OF 'fathomlinelaw2.NumInts'. -/
def numIntsUptoCard : Claim7 := { stood := { row := numIntsUptoRow, standIns := [], harness := (true, "3dd5302a80e728afc51e6e5867a235f9c5400d78070187e1180b2f6deb30e7fd"), looks := false }, kinds := [], alts := [], laidByText := true, laidKinds := [.data], laidTests := true, laidLooks := .later }
def NumIntsUptoCardSaid : Prop := Claim7.holds Tryd.pinned (.plain (OpenSpec.upto numIntsSpec)) numIntsUptoCard

/-- THE SECOND FORM's CARD OF 'fathomlinelaw2.NumOrders'. -/
def numOrdersUptoCard : Claim7 := { stood := { row := numOrdersUptoRow, standIns := [], harness := (true, "3dd5302a80e728afc51e6e5867a235f9c5400d78070187e1180b2f6deb30e7fd"), looks := false }, kinds := [], alts := [], laidByText := true, laidKinds := [.data], laidTests := true, laidLooks := .later }
def NumOrdersUptoCardSaid : Prop := Claim7.holds Tryd.pinned (.plain (OpenSpec.upto numOrdersSpec)) numOrdersUptoCard

/-- THE SECOND FORM's CARD OF 'fathomlinelaw2.NumReckons'. -/
def numReckonsUptoCard : Claim7 := { stood := { row := numReckonsUptoRow, standIns := [], harness := (true, "3dd5302a80e728afc51e6e5867a235f9c5400d78070187e1180b2f6deb30e7fd"), looks := false }, kinds := [], alts := [], laidByText := true, laidKinds := [.data], laidTests := true, laidLooks := .later }
def NumReckonsUptoCardSaid : Prop := Claim7.holds Tryd.pinned (.plain (OpenSpec.upto numReckonsSpec)) numReckonsUptoCard

/-- THE SECOND FORM's CARD OF 'fathomlinelaw2.NumDrawn'. -/
def numDrawnUptoCard : Claim7 := { stood := { row := numDrawnUptoRow, standIns := [], harness := (true, "3dd5302a80e728afc51e6e5867a235f9c5400d78070187e1180b2f6deb30e7fd"), looks := false }, kinds := [], alts := [], laidByText := true, laidKinds := [.data], laidTests := true, laidLooks := .later }
def NumDrawnUptoCardSaid : Prop := Claim7.holds Tryd.pinned (.plain (OpenSpec.upto numDrawnSpec)) numDrawnUptoCard

/-- THE SECOND FORM's CARD OF 'fathomlinelaw2.NumScales'. -/
def numScalesUptoCard : Claim7 := { stood := { row := numScalesUptoRow, standIns := [], harness := (true, "3dd5302a80e728afc51e6e5867a235f9c5400d78070187e1180b2f6deb30e7fd"), looks := false }, kinds := [], alts := [], laidByText := true, laidKinds := [.data], laidTests := true, laidLooks := .later }
def NumScalesUptoCardSaid : Prop := Claim7.holds Tryd.pinned (.plain (OpenSpec.upto numScalesSpec)) numScalesUptoCard

/-- THE SECOND FORM's CARD OF 'fathomlinelaw2.NumRings'. -/
def numRingsUptoCard : Claim7 := { stood := { row := numRingsUptoRow, standIns := [], harness := (true, "3dd5302a80e728afc51e6e5867a235f9c5400d78070187e1180b2f6deb30e7fd"), looks := false }, kinds := [], alts := [], laidByText := true, laidKinds := [.data], laidTests := true, laidLooks := .later }
def NumRingsUptoCardSaid : Prop := Claim7.holds Tryd.pinned (.plain (OpenSpec.upto numRingsSpec)) numRingsUptoCard

/-- THE SECOND FORM's CARD OF 'fathomlinelaw2.NumBetween'. -/
def numBetweenUptoCard : Claim7 := { stood := { row := numBetweenUptoRow, standIns := [], harness := (true, "3dd5302a80e728afc51e6e5867a235f9c5400d78070187e1180b2f6deb30e7fd"), looks := false }, kinds := [], alts := [], laidByText := true, laidKinds := [.data], laidTests := true, laidLooks := .later }
def NumBetweenUptoCardSaid : Prop := Claim7.holds Tryd.pinned (.plain (OpenSpec.upto numBetweenSpec)) numBetweenUptoCard
end Rows
end Go.Proofs.YtkmoeenhboicmaaDoor
