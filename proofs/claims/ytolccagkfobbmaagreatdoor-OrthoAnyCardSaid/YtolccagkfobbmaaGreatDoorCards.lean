/-
  DERIVED. GIVEN WITH THE SEED: THE CARDS: each row of YtolccagkfobbmaaGreatDoorRows.lean that lists a variable, with what it lists TIED to the program's text (the seventh form; the later family's looks); each row that meets fmt, with fmt's text TOLD by the authors' own Lean function (tested against real Go, not proved from fmt's source: count such statements apart). THE CARD IS WHAT COUNTS. Prove the row's statement (the work); the ties are given (YtolccagkfobbmaaGreatDoorTie.lean); close each card by the builder's one call (the guide's Derived/Test/ToyasCard.lean, 'card_holds'). Laid BY PROGRAM, IN A SANDBOX (cutbox-door.mjs). By AI agents, Wed Nov 11 2026. No macro, syntax, notation, axiom, sorry.
-/
import Derived.Test.YtolccagkfobbmaaGreatDoorRows
import GoSem.ClaimSeven
namespace Go.Proofs.YtolccagkfobbmaaGreatDoor
namespace Rows

/-- THE TIED CARD OF 'fathomlinelaw9.OrthoAny'. -/
def orthoAnyCard : Claim7 := { stood := { row := orthoAnyRow, standIns := [], harness := (true, "52bac2e78d3a81c966ef05aa15f105c77bd78b405c7ac188f007e938dc7f52f5"), looks := false }, kinds := [], alts := [], laidByText := true, laidKinds := [.data], laidTests := true, laidLooks := .later }
def OrthoAnyCardSaid : Prop := Claim7.holds Tryz.pinned (.plain (OpenSpec.ofChange orthoAnySpec)) orthoAnyCard

/-- THE TIED CARD OF 'fathomlinelaw9.OrthoDrawn'. -/
def orthoDrawnCard : Claim7 := { stood := { row := orthoDrawnRow, standIns := [], harness := (true, "52bac2e78d3a81c966ef05aa15f105c77bd78b405c7ac188f007e938dc7f52f5"), looks := false }, kinds := [], alts := [], laidByText := true, laidKinds := [.data], laidTests := true, laidLooks := .later }
def OrthoDrawnCardSaid : Prop := Claim7.holds Tryz.pinned (.plain (OpenSpec.ofChange orthoDrawnSpec)) orthoDrawnCard

/-- THE SECOND FORM's CARD OF 'fathomlinelaw9.OrthoAny'. -/
def orthoAnyUptoCard : Claim7 := { stood := { row := orthoAnyUptoRow, standIns := [], harness := (true, "52bac2e78d3a81c966ef05aa15f105c77bd78b405c7ac188f007e938dc7f52f5"), looks := false }, kinds := [], alts := [], laidByText := true, laidKinds := [.data], laidTests := true, laidLooks := .later }
def OrthoAnyUptoCardSaid : Prop := Claim7.holds Tryz.pinned (.plain (OpenSpec.upto orthoAnySpec)) orthoAnyUptoCard

/-- THE SECOND FORM's CARD OF 'fathomlinelaw9.OrthoDrawn'. -/
def orthoDrawnUptoCard : Claim7 := { stood := { row := orthoDrawnUptoRow, standIns := [], harness := (true, "52bac2e78d3a81c966ef05aa15f105c77bd78b405c7ac188f007e938dc7f52f5"), looks := false }, kinds := [], alts := [], laidByText := true, laidKinds := [.data], laidTests := true, laidLooks := .later }
def OrthoDrawnUptoCardSaid : Prop := Claim7.holds Tryz.pinned (.plain (OpenSpec.upto orthoDrawnSpec)) orthoDrawnUptoCard
end Rows
end Go.Proofs.YtolccagkfobbmaaGreatDoor
