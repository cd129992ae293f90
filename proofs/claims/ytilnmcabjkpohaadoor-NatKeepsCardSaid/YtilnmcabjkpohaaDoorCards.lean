/-
  DERIVED. GIVEN WITH THE SEED: THE CARDS: each row of YtilnmcabjkpohaaDoorRows.lean that lists a variable, with what it lists TIED to the program's text (the seventh form; the later family's looks); each row that meets fmt, with fmt's text TOLD by the authors' own Lean function (tested against real Go, not proved from fmt's source: count such statements apart). THE CARD IS WHAT COUNTS. Prove the row's statement (the work); the ties are given (YtilnmcabjkpohaaDoorTie.lean); close each card by the builder's one call (the guide's Derived/Test/ToyasCard.lean, 'card_holds'). Laid BY PROGRAM, IN A SANDBOX (cutbox-door.mjs). By AI agents, Wed Nov 11 2026. No macro, syntax, notation, axiom, sorry.
-/
import Derived.Test.YtilnmcabjkpohaaDoorRows
import GoSem.ClaimSeven
namespace Go.Proofs.YtilnmcabjkpohaaDoor
namespace Rows

/-- THE TIED CARD OF 'fathomlinelaw1.NatWords'. -/
def natWordsCard : Claim7 := { stood := { row := natWordsRow, standIns := [], harness := (true, "fadd19c2e402f895157f9341926dcf47a6d4509581b04a21579e27afd4798128"), looks := false }, kinds := [], alts := [], laidByText := true, laidKinds := [.data], laidTests := true, laidLooks := .later }
def NatWordsCardSaid : Prop := Claim7.holds Tryd.pinned (.plain (OpenSpec.ofChange natWordsSpec)) natWordsCard

/-- THE TIED CARD OF 'fathomlinelaw1.NatSums'. -/
def natSumsCard : Claim7 := { stood := { row := natSumsRow, standIns := [], harness := (true, "fadd19c2e402f895157f9341926dcf47a6d4509581b04a21579e27afd4798128"), looks := false }, kinds := [], alts := [], laidByText := true, laidKinds := [.data], laidTests := true, laidLooks := .later }
def NatSumsCardSaid : Prop := Claim7.holds Tryd.pinned (.plain (OpenSpec.ofChange natSumsSpec)) natSumsCard

/-- THE TIED CARD OF 'fathomlinelaw1.NatProducts'. -/
def natProductsCard : Claim7 := { stood := { row := natProductsRow, standIns := [], harness := (true, "fadd19c2e402f895157f9341926dcf47a6d4509581b04a21579e27afd4798128"), looks := false }, kinds := [], alts := [], laidByText := true, laidKinds := [.data], laidTests := true, laidLooks := .later }
def NatProductsCardSaid : Prop := Claim7.holds Tryd.pinned (.plain (OpenSpec.ofChange natProductsSpec)) natProductsCard

/-- THE TIED CARD OF 'fathomlinelaw1.NatShifts'. -/
def natShiftsCard : Claim7 := { stood := { row := natShiftsRow, standIns := [], harness := (true, "fadd19c2e402f895157f9341926dcf47a6d4509581b04a21579e27afd4798128"), looks := false }, kinds := [], alts := [], laidByText := true, laidKinds := [.data], laidTests := true, laidLooks := .later }
def NatShiftsCardSaid : Prop := Claim7.holds Tryd.pinned (.plain (OpenSpec.ofChange natShiftsSpec)) natShiftsCard

/-- THE TIED CARD OF 'fathomlinelaw1.NatBack'. -/
def natBackCard : Claim7 := { stood := { row := natBackRow, standIns := [], harness := (true, "fadd19c2e402f895157f9341926dcf47a6d4509581b04a21579e27afd4798128"), looks := false }, kinds := [], alts := [], laidByText := true, laidKinds := [.data], laidTests := true, laidLooks := .later }
def NatBackCardSaid : Prop := Claim7.holds Tryd.pinned (.plain (OpenSpec.ofChange natBackSpec)) natBackCard

/-- THE TIED CARD OF 'fathomlinelaw1.NatRings'. -/
def natRingsCard : Claim7 := { stood := { row := natRingsRow, standIns := [], harness := (true, "fadd19c2e402f895157f9341926dcf47a6d4509581b04a21579e27afd4798128"), looks := false }, kinds := [], alts := [], laidByText := true, laidKinds := [.data], laidTests := true, laidLooks := .later }
def NatRingsCardSaid : Prop := Claim7.holds Tryd.pinned (.plain (OpenSpec.ofChange natRingsSpec)) natRingsCard

/-- THE TIED CARD OF 'fathomlinelaw1.NatKeeps'. -/
def natKeepsCard : Claim7 := { stood := { row := natKeepsRow, standIns := [], harness := (true, "fadd19c2e402f895157f9341926dcf47a6d4509581b04a21579e27afd4798128"), looks := false }, kinds := [], alts := [], laidByText := true, laidKinds := [.data], laidTests := true, laidLooks := .later }
def NatKeepsCardSaid : Prop := Claim7.holds Tryd.pinned (.plain (OpenSpec.ofChange natKeepsSpec)) natKeepsCard

/-- THE SECOND FORM's CARD OF 'fathomlinelaw1.NatWords'. -/
def natWordsUptoCard : Claim7 := { stood := { row := natWordsUptoRow, standIns := [], harness := (true, "fadd19c2e402f895157f9341926dcf47a6d4509581b04a21579e27afd4798128"), looks := false }, kinds := [], alts := [], laidByText := true, laidKinds := [.data], laidTests := true, laidLooks := .later }
def NatWordsUptoCardSaid : Prop := Claim7.holds Tryd.pinned (.plain (OpenSpec.upto natWordsSpec)) natWordsUptoCard

/-- THE SECOND FORM's CARD OF 'fathomlinelaw1.NatSums'. -/
def natSumsUptoCard : Claim7 := { stood := { row := natSumsUptoRow, standIns := [], harness := (true, "fadd19c2e402f895157f9341926dcf47a6d4509581b04a21579e27afd4798128"), looks := false }, kinds := [], alts := [], laidByText := true, laidKinds := [.data], laidTests := true, laidLooks := .later }
def NatSumsUptoCardSaid : Prop := Claim7.holds Tryd.pinned (.plain (OpenSpec.upto natSumsSpec)) natSumsUptoCard

/-- THE SECOND FORM's CARD OF 'fathomlinelaw1.NatProducts'. -/
def natProductsUptoCard : Claim7 := { stood := { row := natProductsUptoRow, standIns := [], harness := (true, "fadd19c2e402f895157f9341926dcf47a6d4509581b04a21579e27afd4798128"), looks := false }, kinds := [], alts := [], laidByText := true, laidKinds := [.data], laidTests := true, laidLooks := .later }
def NatProductsUptoCardSaid : Prop := Claim7.holds Tryd.pinned (.plain (OpenSpec.upto natProductsSpec)) natProductsUptoCard

/-- THE SECOND FORM's CARD OF 'fathomlinelaw1.NatShifts'. -/
def natShiftsUptoCard : Claim7 := { stood := { row := natShiftsUptoRow, standIns := [], harness := (true, "fadd19c2e402f895157f9341926dcf47a6d4509581b04a21579e27afd4798128"), looks := false }, kinds := [], alts := [], laidByText := true, laidKinds := [.data], laidTests := true, laidLooks := .later }
def NatShiftsUptoCardSaid : Prop := Claim7.holds Tryd.pinned (.plain (OpenSpec.upto natShiftsSpec)) natShiftsUptoCard

/-- THE SECOND FORM's CARD OF 'fathomlinelaw1.NatBack'. -/
def natBackUptoCard : Claim7 := { stood := { row := natBackUptoRow, standIns := [], harness := (true, "fadd19c2e402f895157f9341926dcf47a6d4509581b04a21579e27afd4798128"), looks := false }, kinds := [], alts := [], laidByText := true, laidKinds := [.data], laidTests := true, laidLooks := .later }
def NatBackUptoCardSaid : Prop := Claim7.holds Tryd.pinned (.plain (OpenSpec.upto natBackSpec)) natBackUptoCard

/-- THE SECOND FORM's CARD OF 'fathomlinelaw1.NatRings'. -/
def natRingsUptoCard : Claim7 := { stood := { row := natRingsUptoRow, standIns := [], harness := (true, "fadd19c2e402f895157f9341926dcf47a6d4509581b04a21579e27afd4798128"), looks := false }, kinds := [], alts := [], laidByText := true, laidKinds := [.data], laidTests := true, laidLooks := .later }
def NatRingsUptoCardSaid : Prop := Claim7.holds Tryd.pinned (.plain (OpenSpec.upto natRingsSpec)) natRingsUptoCard

/-- THE SECOND FORM's CARD OF 'fathomlinelaw1.NatKeeps'. -/
def natKeepsUptoCard : Claim7 := { stood := { row := natKeepsUptoRow, standIns := [], harness := (true, "fadd19c2e402f895157f9341926dcf47a6d4509581b04a21579e27afd4798128"), looks := false }, kinds := [], alts := [], laidByText := true, laidKinds := [.data], laidTests := true, laidLooks := .later }
def NatKeepsUptoCardSaid : Prop := Claim7.holds Tryd.pinned (.plain (OpenSpec.upto natKeepsSpec)) natKeepsUptoCard
end Rows
end Go.Proofs.YtilnmcabjkpohaaDoor
