/-
  DERIVED. GIVEN WITH THE SEED: THE CARDS: each row of YtklilekbokialaaDoorRows.lean that lists a variable, with what it lists TIED to the program's text (the seventh form; the later family's looks); each row that meets fmt, with fmt's text TOLD by the authors' own Lean function (tested against real Go, not proved from fmt's source: count such statements apart). THE CARD IS WHAT COUNTS. Prove the row's statement (the work); the ties are given (YtklilekbokialaaDoorTie.lean); close each card by the builder's one call (the guide's Derived/Test/ToyasCard.lean, 'card_holds'). Laid BY PROGRAM, IN A SANDBOX (cutbox-door.mjs). By AI agents, Wed Nov 11 2026. No macro, syntax, notation, axiom, sorry.
-/
import Derived.Test.YtklilekbokialaaDoorRows
import GoSem.ClaimSeven
namespace Go.Proofs.YtklilekbokialaaDoor
namespace Rows

/-- THE TIED CARD OF 'fathomlinelaw14.SeriesLines'. -/
def seriesLinesCard : Claim7 := { stood := { row := seriesLinesRow, standIns := [], harness := (true, "eb0d32be69d23098320e75bf6965c7d06be86f951bb17edd8ed109af2c97701c"), looks := false }, kinds := [], alts := [], laidByText := true, laidKinds := [.data], laidTests := true, laidLooks := .later }
def SeriesLinesCardSaid : Prop := Claim7.holds Tryd.pinned (.plain (OpenSpec.ofChange seriesLinesSpec)) seriesLinesCard

/-- THE SECOND FORM's CARD OF 'fathomlinelaw14.SeriesLines'. -/
def seriesLinesUptoCard : Claim7 := { stood := { row := seriesLinesUptoRow, standIns := [], harness := (true, "eb0d32be69d23098320e75bf6965c7d06be86f951bb17edd8ed109af2c97701c"), looks := false }, kinds := [], alts := [], laidByText := true, laidKinds := [.data], laidTests := true, laidLooks := .later }
def SeriesLinesUptoCardSaid : Prop := Claim7.holds Tryd.pinned (.plain (OpenSpec.upto seriesLinesSpec)) seriesLinesUptoCard
end Rows
end Go.Proofs.YtklilekbokialaaDoor
