/-
  DERIVED. GIVEN WITH THE SEED: THE CARDS: each row of YtjilhcofkcnplaaDoorRows.lean that lists a variable, with what it lists TIED to the program's text (the seventh form; the later family's looks); each row that meets fmt, with fmt's text TOLD by the authors' own Lean function (tested against real Go, not proved from fmt's source: count such statements apart). THE CARD IS WHAT COUNTS. Prove the row's statement (the work); the ties are given (YtjilhcofkcnplaaDoorTie.lean); close each card by the builder's one call (the guide's Derived/Test/ToyasCard.lean, 'card_holds'). Laid BY PROGRAM, IN A SANDBOX (cutbox-door.mjs). By AI agents, Wed Nov 11 2026. No macro, syntax, notation, axiom, sorry.
-/
import Derived.Test.YtjilhcofkcnplaaDoorRows
import GoSem.ClaimSeven
namespace Go.Proofs.YtjilhcofkcnplaaDoor
namespace Rows

/-- THE TIED CARD OF 'fathomlinelaw3.RoundFits'. -/
def roundFitsCard : Claim7 := { stood := { row := roundFitsRow, standIns := [], harness := (true, "a647d786ad216ba9a8050882af831031f59262f1d4e2c4b397f98801bc15b113"), looks := false }, kinds := [], alts := [], laidByText := true, laidKinds := [.data], laidTests := true, laidLooks := .later }
def RoundFitsCardSaid : Prop := Claim7.holds Tryd.pinned (.plain (OpenSpec.ofChange roundFitsSpec)) roundFitsCard

/-- THE TIED CARD OF 'fathomlinelaw3.RoundReckons'. -/
def roundReckonsCard : Claim7 := { stood := { row := roundReckonsRow, standIns := [], harness := (true, "a647d786ad216ba9a8050882af831031f59262f1d4e2c4b397f98801bc15b113"), looks := false }, kinds := [], alts := [], laidByText := true, laidKinds := [.data], laidTests := true, laidLooks := .later }
def RoundReckonsCardSaid : Prop := Claim7.holds Tryd.pinned (.plain (OpenSpec.ofChange roundReckonsSpec)) roundReckonsCard

/-- THE TIED CARD OF 'fathomlinelaw3.RoundDrawn'. -/
def roundDrawnCard : Claim7 := { stood := { row := roundDrawnRow, standIns := [], harness := (true, "a647d786ad216ba9a8050882af831031f59262f1d4e2c4b397f98801bc15b113"), looks := false }, kinds := [], alts := [], laidByText := true, laidKinds := [.data], laidTests := true, laidLooks := .later }
def RoundDrawnCardSaid : Prop := Claim7.holds Tryd.pinned (.plain (OpenSpec.ofChange roundDrawnSpec)) roundDrawnCard

/-- THE TIED CARD OF 'fathomlinelaw3.RoundDivides'. -/
def roundDividesCard : Claim7 := { stood := { row := roundDividesRow, standIns := [], harness := (true, "a647d786ad216ba9a8050882af831031f59262f1d4e2c4b397f98801bc15b113"), looks := false }, kinds := [], alts := [], laidByText := true, laidKinds := [.data], laidTests := true, laidLooks := .later }
def RoundDividesCardSaid : Prop := Claim7.holds Tryd.pinned (.plain (OpenSpec.ofChange roundDividesSpec)) roundDividesCard

/-- THE TIED CARD OF 'fathomlinelaw3.RoundRises'. -/
def roundRisesCard : Claim7 := { stood := { row := roundRisesRow, standIns := [], harness := (true, "a647d786ad216ba9a8050882af831031f59262f1d4e2c4b397f98801bc15b113"), looks := false }, kinds := [], alts := [], laidByText := true, laidKinds := [.data], laidTests := true, laidLooks := .later }
def RoundRisesCardSaid : Prop := Claim7.holds Tryd.pinned (.plain (OpenSpec.ofChange roundRisesSpec)) roundRisesCard

/-- THE TIED CARD OF 'fathomlinelaw3.RoundBetween'. -/
def roundBetweenCard : Claim7 := { stood := { row := roundBetweenRow, standIns := [], harness := (true, "a647d786ad216ba9a8050882af831031f59262f1d4e2c4b397f98801bc15b113"), looks := false }, kinds := [], alts := [], laidByText := true, laidKinds := [.data], laidTests := true, laidLooks := .later }
def RoundBetweenCardSaid : Prop := Claim7.holds Tryd.pinned (.plain (OpenSpec.ofChange roundBetweenSpec)) roundBetweenCard

/-- THE SECOND FORM's CARD OF 'fathomlinelaw3.RoundFits'. -/
def roundFitsUptoCard : Claim7 := { stood := { row := roundFitsUptoRow, standIns := [], harness := (true, "a647d786ad216ba9a8050882af831031f59262f1d4e2c4b397f98801bc15b113"), looks := false }, kinds := [], alts := [], laidByText := true, laidKinds := [.data], laidTests := true, laidLooks := .later }
def RoundFitsUptoCardSaid : Prop := Claim7.holds Tryd.pinned (.plain (OpenSpec.upto roundFitsSpec)) roundFitsUptoCard

/-- THE SECOND FORM's CARD OF 'fathomlinelaw3.RoundReckons'. -/
def roundReckonsUptoCard : Claim7 := { stood := { row := roundReckonsUptoRow, standIns := [], harness := (true, "a647d786ad216ba9a8050882af831031f59262f1d4e2c4b397f98801bc15b113"), looks := false }, kinds := [], alts := [], laidByText := true, laidKinds := [.data], laidTests := true, laidLooks := .later }
def RoundReckonsUptoCardSaid : Prop := Claim7.holds Tryd.pinned (.plain (OpenSpec.upto roundReckonsSpec)) roundReckonsUptoCard

/-- THE SECOND FORM's CARD OF 'fathomlinelaw3.RoundDrawn'. -/
def roundDrawnUptoCard : Claim7 := { stood := { row := roundDrawnUptoRow, standIns := [], harness := (true, "a647d786ad216ba9a8050882af831031f59262f1d4e2c4b397f98801bc15b113"), looks := false }, kinds := [], alts := [], laidByText := true, laidKinds := [.data], laidTests := true, laidLooks := .later }
def RoundDrawnUptoCardSaid : Prop := Claim7.holds Tryd.pinned (.plain (OpenSpec.upto roundDrawnSpec)) roundDrawnUptoCard

/-- THE SECOND FORM's CARD OF 'fathomlinelaw3.RoundDivides'. -/
def roundDividesUptoCard : Claim7 := { stood := { row := roundDividesUptoRow, standIns := [], harness := (true, "a647d786ad216ba9a8050882af831031f59262f1d4e2c4b397f98801bc15b113"), looks := false }, kinds := [], alts := [], laidByText := true, laidKinds := [.data], laidTests := true, laidLooks := .later }
def RoundDividesUptoCardSaid : Prop := Claim7.holds Tryd.pinned (.plain (OpenSpec.upto roundDividesSpec)) roundDividesUptoCard

/-- THE SECOND FORM's CARD OF 'fathomlinelaw3.RoundRises'. -/
def roundRisesUptoCard : Claim7 := { stood := { row := roundRisesUptoRow, standIns := [], harness := (true, "a647d786ad216ba9a8050882af831031f59262f1d4e2c4b397f98801bc15b113"), looks := false }, kinds := [], alts := [], laidByText := true, laidKinds := [.data], laidTests := true, laidLooks := .later }
def RoundRisesUptoCardSaid : Prop := Claim7.holds Tryd.pinned (.plain (OpenSpec.upto roundRisesSpec)) roundRisesUptoCard

/-- THE SECOND FORM's CARD OF 'fathomlinelaw3.RoundBetween'. -/
def roundBetweenUptoCard : Claim7 := { stood := { row := roundBetweenUptoRow, standIns := [], harness := (true, "a647d786ad216ba9a8050882af831031f59262f1d4e2c4b397f98801bc15b113"), looks := false }, kinds := [], alts := [], laidByText := true, laidKinds := [.data], laidTests := true, laidLooks := .later }
def RoundBetweenUptoCardSaid : Prop := Claim7.holds Tryd.pinned (.plain (OpenSpec.upto roundBetweenSpec)) roundBetweenUptoCard
end Rows
end Go.Proofs.YtjilhcofkcnplaaDoor
