/-
  DERIVED. GIVEN WITH THE SEED: THE CARDS: each row of YtklilekbokialaaGreatDoorRows.lean that lists a variable, with what it lists TIED to the program's text (the seventh form; the later family's looks); each row that meets fmt, with fmt's text TOLD by the authors' own Lean function (tested against real Go, not proved from fmt's source: count such statements apart). THE CARD IS WHAT COUNTS. Prove the row's statement (the work); the ties are given (YtklilekbokialaaGreatDoorTie.lean); close each card by the builder's one call (the guide's Derived/Test/ToyasCard.lean, 'card_holds'). Laid BY PROGRAM, IN A SANDBOX (cutbox-door.mjs). By AI agents, Wed Nov 11 2026. No macro, syntax, notation, axiom, sorry.
-/
import Derived.Test.YtklilekbokialaaGreatDoorRows
import GoSem.ClaimSeven
namespace Go.Proofs.YtklilekbokialaaGreatDoor
namespace Rows

/-- THE TIED CARD OF 'fathomlinelaw14.SeriesAny'. -/
def seriesAnyCard : Claim7 := { stood := { row := seriesAnyRow, standIns := [], harness := (true, "1f9b916116be07d97d9706ca2b9bce39d612a15c2b7cb6f2230ce2705f770e05"), looks := false }, kinds := [], alts := [], laidByText := true, laidKinds := [.data], laidTests := true, laidLooks := .later }
def SeriesAnyCardSaid : Prop := Claim7.holds Tryz.pinned (.plain (OpenSpec.ofChange seriesAnySpec)) seriesAnyCard

/-- THE TIED CARD OF 'fathomlinelaw14.SeriesDrawn'. -/
def seriesDrawnCard : Claim7 := { stood := { row := seriesDrawnRow, standIns := [], harness := (true, "1f9b916116be07d97d9706ca2b9bce39d612a15c2b7cb6f2230ce2705f770e05"), looks := false }, kinds := [], alts := [], laidByText := true, laidKinds := [.data], laidTests := true, laidLooks := .later }
def SeriesDrawnCardSaid : Prop := Claim7.holds Tryz.pinned (.plain (OpenSpec.ofChange seriesDrawnSpec)) seriesDrawnCard

/-- THE TIED CARD OF 'fathomlinelaw14.SeriesHolds'. -/
def seriesHoldsCard : Claim7 := { stood := { row := seriesHoldsRow, standIns := [], harness := (true, "1f9b916116be07d97d9706ca2b9bce39d612a15c2b7cb6f2230ce2705f770e05"), looks := false }, kinds := [], alts := [], laidByText := true, laidKinds := [.data], laidTests := true, laidLooks := .later }
def SeriesHoldsCardSaid : Prop := Claim7.holds Tryz.pinned (.plain (OpenSpec.ofChange seriesHoldsSpec)) seriesHoldsCard

/-- THE TIED CARD OF 'fathomlinelaw14.SeriesLess'. -/
def seriesLessCard : Claim7 := { stood := { row := seriesLessRow, standIns := [], harness := (true, "1f9b916116be07d97d9706ca2b9bce39d612a15c2b7cb6f2230ce2705f770e05"), looks := false }, kinds := [], alts := [], laidByText := true, laidKinds := [.data], laidTests := true, laidLooks := .later }
def SeriesLessCardSaid : Prop := Claim7.holds Tryz.pinned (.plain (OpenSpec.ofChange seriesLessSpec)) seriesLessCard

/-- THE SECOND FORM's CARD OF 'fathomlinelaw14.SeriesAny'. -/
def seriesAnyUptoCard : Claim7 := { stood := { row := seriesAnyUptoRow, standIns := [], harness := (true, "1f9b916116be07d97d9706ca2b9bce39d612a15c2b7cb6f2230ce2705f770e05"), looks := false }, kinds := [], alts := [], laidByText := true, laidKinds := [.data], laidTests := true, laidLooks := .later }
def SeriesAnyUptoCardSaid : Prop := Claim7.holds Tryz.pinned (.plain (OpenSpec.upto seriesAnySpec)) seriesAnyUptoCard

/-- THE SECOND FORM's CARD OF 'fathomlinelaw14.SeriesDrawn'. -/
def seriesDrawnUptoCard : Claim7 := { stood := { row := seriesDrawnUptoRow, standIns := [], harness := (true, "1f9b916116be07d97d9706ca2b9bce39d612a15c2b7cb6f2230ce2705f770e05"), looks := false }, kinds := [], alts := [], laidByText := true, laidKinds := [.data], laidTests := true, laidLooks := .later }
def SeriesDrawnUptoCardSaid : Prop := Claim7.holds Tryz.pinned (.plain (OpenSpec.upto seriesDrawnSpec)) seriesDrawnUptoCard

/-- THE SECOND FORM's CARD OF 'fathomlinelaw14.SeriesHolds'. -/
def seriesHoldsUptoCard : Claim7 := { stood := { row := seriesHoldsUptoRow, standIns := [], harness := (true, "1f9b916116be07d97d9706ca2b9bce39d612a15c2b7cb6f2230ce2705f770e05"), looks := false }, kinds := [], alts := [], laidByText := true, laidKinds := [.data], laidTests := true, laidLooks := .later }
def SeriesHoldsUptoCardSaid : Prop := Claim7.holds Tryz.pinned (.plain (OpenSpec.upto seriesHoldsSpec)) seriesHoldsUptoCard

/-- THE SECOND FORM's CARD OF 'fathomlinelaw14.SeriesLess'. -/
def seriesLessUptoCard : Claim7 := { stood := { row := seriesLessUptoRow, standIns := [], harness := (true, "1f9b916116be07d97d9706ca2b9bce39d612a15c2b7cb6f2230ce2705f770e05"), looks := false }, kinds := [], alts := [], laidByText := true, laidKinds := [.data], laidTests := true, laidLooks := .later }
def SeriesLessUptoCardSaid : Prop := Claim7.holds Tryz.pinned (.plain (OpenSpec.upto seriesLessSpec)) seriesLessUptoCard
end Rows
end Go.Proofs.YtklilekbokialaaGreatDoor
