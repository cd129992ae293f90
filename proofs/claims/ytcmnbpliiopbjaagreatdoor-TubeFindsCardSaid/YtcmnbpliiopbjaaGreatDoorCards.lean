/-
  DERIVED. GIVEN WITH THE SEED: THE CARDS: each row of YtcmnbpliiopbjaaGreatDoorRows.lean that lists a variable, with what it lists TIED to the program's text (the seventh form; the later family's looks); each row that meets fmt, with fmt's text TOLD by the authors' own Lean function (tested against real Go, not proved from fmt's source: count such statements apart). THE CARD IS WHAT COUNTS. Prove the row's statement (the work); the ties are given (YtcmnbpliiopbjaaGreatDoorTie.lean); close each card by the builder's one call (the guide's Derived/Test/ToyasCard.lean, 'card_holds'). Laid BY PROGRAM, IN A SANDBOX (cutbox-door.mjs). By AI agents, Wed Nov 11 2026. No macro, syntax, notation, axiom, sorry.
-/
import Derived.Test.YtcmnbpliiopbjaaGreatDoorRows
import GoSem.ClaimSeven
namespace Go.Proofs.YtcmnbpliiopbjaaGreatDoor
namespace Rows

/-- THE TIED CARD OF 'fathomlinelaw26.TubeFinds'. -/
def tubeFindsCard : Claim7 := { stood := { row := tubeFindsRow, standIns := [], harness := (true, "3710ccbeb95eeee7ae09337218480c45b9596b344b8ece98f92d469e63db0f29"), looks := false }, kinds := [], alts := [], laidByText := true, laidKinds := [.data], laidTests := true, laidLooks := .later }
def TubeFindsCardSaid : Prop := Claim7.holds Tryz.pinned (.plain (OpenSpec.ofChange tubeFindsSpec)) tubeFindsCard

/-- THE SECOND FORM's CARD OF 'fathomlinelaw26.TubeFinds'. -/
def tubeFindsUptoCard : Claim7 := { stood := { row := tubeFindsUptoRow, standIns := [], harness := (true, "3710ccbeb95eeee7ae09337218480c45b9596b344b8ece98f92d469e63db0f29"), looks := false }, kinds := [], alts := [], laidByText := true, laidKinds := [.data], laidTests := true, laidLooks := .later }
def TubeFindsUptoCardSaid : Prop := Claim7.holds Tryz.pinned (.plain (OpenSpec.upto tubeFindsSpec)) tubeFindsUptoCard
end Rows
end Go.Proofs.YtcmnbpliiopbjaaGreatDoor
