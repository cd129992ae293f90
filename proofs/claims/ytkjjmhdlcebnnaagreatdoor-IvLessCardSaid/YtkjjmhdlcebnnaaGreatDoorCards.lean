/-
  DERIVED. GIVEN WITH THE SEED: THE CARDS: each row of YtkjjmhdlcebnnaaGreatDoorRows.lean that lists a variable, with what it lists TIED to the program's text (the seventh form; the later family's looks); each row that meets fmt, with fmt's text TOLD by the authors' own Lean function (tested against real Go, not proved from fmt's source: count such statements apart). THE CARD IS WHAT COUNTS. Prove the row's statement (the work); the ties are given (YtkjjmhdlcebnnaaGreatDoorTie.lean); close each card by the builder's one call (the guide's Derived/Test/ToyasCard.lean, 'card_holds'). Laid BY PROGRAM, IN A SANDBOX (cutbox-door.mjs). By AI agents, Wed Nov 11 2026. No macro, syntax, notation, axiom, sorry.
-/
import Derived.Test.YtkjjmhdlcebnnaaGreatDoorRows
import GoSem.ClaimSeven
namespace Go.Proofs.YtkjjmhdlcebnnaaGreatDoor
namespace Rows

/-- THE TIED CARD OF 'fathomlinelaw5.IvReckons'. -/
def ivReckonsCard : Claim7 := { stood := { row := ivReckonsRow, standIns := [], harness := (true, "380b0dff7a9cdd5fc0450c4c2051513dff82b1b8a1818a656175ece218202999"), looks := false }, kinds := [], alts := [], laidByText := true, laidKinds := [.data], laidTests := true, laidLooks := .later }
def IvReckonsCardSaid : Prop := Claim7.holds Tryz.pinned (.plain (OpenSpec.ofChange ivReckonsSpec)) ivReckonsCard

/-- THE TIED CARD OF 'fathomlinelaw5.IvFour'. -/
def ivFourCard : Claim7 := { stood := { row := ivFourRow, standIns := [], harness := (true, "380b0dff7a9cdd5fc0450c4c2051513dff82b1b8a1818a656175ece218202999"), looks := false }, kinds := [], alts := [], laidByText := true, laidKinds := [.data], laidTests := true, laidLooks := .later }
def IvFourCardSaid : Prop := Claim7.holds Tryz.pinned (.plain (OpenSpec.ofChange ivFourSpec)) ivFourCard

/-- THE TIED CARD OF 'fathomlinelaw5.IvPowers'. -/
def ivPowersCard : Claim7 := { stood := { row := ivPowersRow, standIns := [], harness := (true, "380b0dff7a9cdd5fc0450c4c2051513dff82b1b8a1818a656175ece218202999"), looks := false }, kinds := [], alts := [], laidByText := true, laidKinds := [.data], laidTests := true, laidLooks := .later }
def IvPowersCardSaid : Prop := Claim7.holds Tryz.pinned (.plain (OpenSpec.ofChange ivPowersSpec)) ivPowersCard

/-- THE TIED CARD OF 'fathomlinelaw5.IvLess'. -/
def ivLessCard : Claim7 := { stood := { row := ivLessRow, standIns := [], harness := (true, "380b0dff7a9cdd5fc0450c4c2051513dff82b1b8a1818a656175ece218202999"), looks := false }, kinds := [], alts := [], laidByText := true, laidKinds := [.data], laidTests := true, laidLooks := .later }
def IvLessCardSaid : Prop := Claim7.holds Tryz.pinned (.plain (OpenSpec.ofChange ivLessSpec)) ivLessCard

/-- THE TIED CARD OF 'fathomlinelaw5.IvHolds'. -/
def ivHoldsCard : Claim7 := { stood := { row := ivHoldsRow, standIns := [], harness := (true, "380b0dff7a9cdd5fc0450c4c2051513dff82b1b8a1818a656175ece218202999"), looks := false }, kinds := [], alts := [], laidByText := true, laidKinds := [.data], laidTests := true, laidLooks := .later }
def IvHoldsCardSaid : Prop := Claim7.holds Tryz.pinned (.plain (OpenSpec.ofChange ivHoldsSpec)) ivHoldsCard

/-- THE TIED CARD OF 'fathomlinelaw5.IvMids'. -/
def ivMidsCard : Claim7 := { stood := { row := ivMidsRow, standIns := [], harness := (true, "380b0dff7a9cdd5fc0450c4c2051513dff82b1b8a1818a656175ece218202999"), looks := false }, kinds := [], alts := [], laidByText := true, laidKinds := [.data], laidTests := true, laidLooks := .later }
def IvMidsCardSaid : Prop := Claim7.holds Tryz.pinned (.plain (OpenSpec.ofChange ivMidsSpec)) ivMidsCard

/-- THE TIED CARD OF 'fathomlinelaw5.IvParts'. -/
def ivPartsCard : Claim7 := { stood := { row := ivPartsRow, standIns := [], harness := (true, "380b0dff7a9cdd5fc0450c4c2051513dff82b1b8a1818a656175ece218202999"), looks := false }, kinds := [], alts := [], laidByText := true, laidKinds := [.data], laidTests := true, laidLooks := .later }
def IvPartsCardSaid : Prop := Claim7.holds Tryz.pinned (.plain (OpenSpec.ofChange ivPartsSpec)) ivPartsCard

/-- THE TIED CARD OF 'fathomlinelaw5.IvDrawn'. -/
def ivDrawnCard : Claim7 := { stood := { row := ivDrawnRow, standIns := [], harness := (true, "380b0dff7a9cdd5fc0450c4c2051513dff82b1b8a1818a656175ece218202999"), looks := false }, kinds := [], alts := [], laidByText := true, laidKinds := [.data], laidTests := true, laidLooks := .later }
def IvDrawnCardSaid : Prop := Claim7.holds Tryz.pinned (.plain (OpenSpec.ofChange ivDrawnSpec)) ivDrawnCard

/-- THE TIED CARD OF 'fathomlinelaw5.IvRounds'. -/
def ivRoundsCard : Claim7 := { stood := { row := ivRoundsRow, standIns := [], harness := (true, "380b0dff7a9cdd5fc0450c4c2051513dff82b1b8a1818a656175ece218202999"), looks := false }, kinds := [], alts := [], laidByText := true, laidKinds := [.data], laidTests := true, laidLooks := .later }
def IvRoundsCardSaid : Prop := Claim7.holds Tryz.pinned (.plain (OpenSpec.ofChange ivRoundsSpec)) ivRoundsCard

/-- THE SECOND FORM's CARD OF 'fathomlinelaw5.IvReckons'. -/
def ivReckonsUptoCard : Claim7 := { stood := { row := ivReckonsUptoRow, standIns := [], harness := (true, "380b0dff7a9cdd5fc0450c4c2051513dff82b1b8a1818a656175ece218202999"), looks := false }, kinds := [], alts := [], laidByText := true, laidKinds := [.data], laidTests := true, laidLooks := .later }
def IvReckonsUptoCardSaid : Prop := Claim7.holds Tryz.pinned (.plain (OpenSpec.upto ivReckonsSpec)) ivReckonsUptoCard

/-- THE SECOND FORM's CARD OF 'fathomlinelaw5.IvFour'. -/
def ivFourUptoCard : Claim7 := { stood := { row := ivFourUptoRow, standIns := [], harness := (true, "380b0dff7a9cdd5fc0450c4c2051513dff82b1b8a1818a656175ece218202999"), looks := false }, kinds := [], alts := [], laidByText := true, laidKinds := [.data], laidTests := true, laidLooks := .later }
def IvFourUptoCardSaid : Prop := Claim7.holds Tryz.pinned (.plain (OpenSpec.upto ivFourSpec)) ivFourUptoCard

/-- THE SECOND FORM's CARD OF 'fathomlinelaw5.IvPowers'. -/
def ivPowersUptoCard : Claim7 := { stood := { row := ivPowersUptoRow, standIns := [], harness := (true, "380b0dff7a9cdd5fc0450c4c2051513dff82b1b8a1818a656175ece218202999"), looks := false }, kinds := [], alts := [], laidByText := true, laidKinds := [.data], laidTests := true, laidLooks := .later }
def IvPowersUptoCardSaid : Prop := Claim7.holds Tryz.pinned (.plain (OpenSpec.upto ivPowersSpec)) ivPowersUptoCard

/-- THE SECOND FORM's CARD OF 'fathomlinelaw5.IvLess'. -/
def ivLessUptoCard : Claim7 := { stood := { row := ivLessUptoRow, standIns := [], harness := (true, "380b0dff7a9cdd5fc0450c4c2051513dff82b1b8a1818a656175ece218202999"), looks := false }, kinds := [], alts := [], laidByText := true, laidKinds := [.data], laidTests := true, laidLooks := .later }
def IvLessUptoCardSaid : Prop := Claim7.holds Tryz.pinned (.plain (OpenSpec.upto ivLessSpec)) ivLessUptoCard

/-- THE SECOND FORM's CARD OF 'fathomlinelaw5.IvHolds'. -/
def ivHoldsUptoCard : Claim7 := { stood := { row := ivHoldsUptoRow, standIns := [], harness := (true, "380b0dff7a9cdd5fc0450c4c2051513dff82b1b8a1818a656175ece218202999"), looks := false }, kinds := [], alts := [], laidByText := true, laidKinds := [.data], laidTests := true, laidLooks := .later }
def IvHoldsUptoCardSaid : Prop := Claim7.holds Tryz.pinned (.plain (OpenSpec.upto ivHoldsSpec)) ivHoldsUptoCard

/-- THE SECOND FORM's CARD OF 'fathomlinelaw5.IvMids'. -/
def ivMidsUptoCard : Claim7 := { stood := { row := ivMidsUptoRow, standIns := [], harness := (true, "380b0dff7a9cdd5fc0450c4c2051513dff82b1b8a1818a656175ece218202999"), looks := false }, kinds := [], alts := [], laidByText := true, laidKinds := [.data], laidTests := true, laidLooks := .later }
def IvMidsUptoCardSaid : Prop := Claim7.holds Tryz.pinned (.plain (OpenSpec.upto ivMidsSpec)) ivMidsUptoCard

/-- THE SECOND FORM's CARD OF 'fathomlinelaw5.IvParts'. -/
def ivPartsUptoCard : Claim7 := { stood := { row := ivPartsUptoRow, standIns := [], harness := (true, "380b0dff7a9cdd5fc0450c4c2051513dff82b1b8a1818a656175ece218202999"), looks := false }, kinds := [], alts := [], laidByText := true, laidKinds := [.data], laidTests := true, laidLooks := .later }
def IvPartsUptoCardSaid : Prop := Claim7.holds Tryz.pinned (.plain (OpenSpec.upto ivPartsSpec)) ivPartsUptoCard

/-- THE SECOND FORM's CARD OF 'fathomlinelaw5.IvDrawn'. -/
def ivDrawnUptoCard : Claim7 := { stood := { row := ivDrawnUptoRow, standIns := [], harness := (true, "380b0dff7a9cdd5fc0450c4c2051513dff82b1b8a1818a656175ece218202999"), looks := false }, kinds := [], alts := [], laidByText := true, laidKinds := [.data], laidTests := true, laidLooks := .later }
def IvDrawnUptoCardSaid : Prop := Claim7.holds Tryz.pinned (.plain (OpenSpec.upto ivDrawnSpec)) ivDrawnUptoCard

/-- THE SECOND FORM's CARD OF 'fathomlinelaw5.IvRounds'. -/
def ivRoundsUptoCard : Claim7 := { stood := { row := ivRoundsUptoRow, standIns := [], harness := (true, "380b0dff7a9cdd5fc0450c4c2051513dff82b1b8a1818a656175ece218202999"), looks := false }, kinds := [], alts := [], laidByText := true, laidKinds := [.data], laidTests := true, laidLooks := .later }
def IvRoundsUptoCardSaid : Prop := Claim7.holds Tryz.pinned (.plain (OpenSpec.upto ivRoundsSpec)) ivRoundsUptoCard
end Rows
end Go.Proofs.YtkjjmhdlcebnnaaGreatDoor
