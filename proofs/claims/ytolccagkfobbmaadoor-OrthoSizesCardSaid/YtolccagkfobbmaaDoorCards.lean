/-
  DERIVED. GIVEN WITH THE SEED: THE CARDS: each row of YtolccagkfobbmaaDoorRows.lean that lists a variable, with what it lists TIED to the program's text (the seventh form; the later family's looks); each row that meets fmt, with fmt's text TOLD by the authors' own Lean function (tested against real Go, not proved from fmt's source: count such statements apart). THE CARD IS WHAT COUNTS. Prove the row's statement (the work); the ties are given (YtolccagkfobbmaaDoorTie.lean); close each card by the builder's one call (the guide's Derived/Test/ToyasCard.lean, 'card_holds'). Laid BY PROGRAM, IN A SANDBOX (cutbox-door.mjs). By AI agents, Wed Nov 11 2026. No macro, syntax, notation, axiom, sorry.
-/
import Derived.Test.YtolccagkfobbmaaDoorRows
import GoSem.ClaimSeven
namespace Go.Proofs.YtolccagkfobbmaaDoor
namespace Rows

/-- THE TIED CARD OF 'fathomlinelaw9.OrthoRight'. -/
def orthoRightCard : Claim7 := { stood := { row := orthoRightRow, standIns := [], harness := (true, "fede1542a48620e2ea697bde5eddc2eb59dd82b1663c57c6d05b4c1040cf6339"), looks := false }, kinds := [], alts := [], laidByText := true, laidKinds := [.data], laidTests := true, laidLooks := .later }
def OrthoRightCardSaid : Prop := Claim7.holds Tryd.pinned (.plain (OpenSpec.ofChange orthoRightSpec)) orthoRightCard

/-- THE TIED CARD OF 'fathomlinelaw9.OrthoSizes'. -/
def orthoSizesCard : Claim7 := { stood := { row := orthoSizesRow, standIns := [], harness := (true, "fede1542a48620e2ea697bde5eddc2eb59dd82b1663c57c6d05b4c1040cf6339"), looks := false }, kinds := [], alts := [], laidByText := true, laidKinds := [.data], laidTests := true, laidLooks := .later }
def OrthoSizesCardSaid : Prop := Claim7.holds Tryd.pinned (.plain (OpenSpec.ofChange orthoSizesSpec)) orthoSizesCard

/-- THE SECOND FORM's CARD OF 'fathomlinelaw9.OrthoRight'. -/
def orthoRightUptoCard : Claim7 := { stood := { row := orthoRightUptoRow, standIns := [], harness := (true, "fede1542a48620e2ea697bde5eddc2eb59dd82b1663c57c6d05b4c1040cf6339"), looks := false }, kinds := [], alts := [], laidByText := true, laidKinds := [.data], laidTests := true, laidLooks := .later }
def OrthoRightUptoCardSaid : Prop := Claim7.holds Tryd.pinned (.plain (OpenSpec.upto orthoRightSpec)) orthoRightUptoCard

/-- THE SECOND FORM's CARD OF 'fathomlinelaw9.OrthoSizes'. -/
def orthoSizesUptoCard : Claim7 := { stood := { row := orthoSizesUptoRow, standIns := [], harness := (true, "fede1542a48620e2ea697bde5eddc2eb59dd82b1663c57c6d05b4c1040cf6339"), looks := false }, kinds := [], alts := [], laidByText := true, laidKinds := [.data], laidTests := true, laidLooks := .later }
def OrthoSizesUptoCardSaid : Prop := Claim7.holds Tryd.pinned (.plain (OpenSpec.upto orthoSizesSpec)) orthoSizesUptoCard
end Rows
end Go.Proofs.YtolccagkfobbmaaDoor
