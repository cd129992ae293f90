/-
  NARROWER THAN 'FOR EVERY INPUT', by the rows' own cells (each row's printed sentence says how): IvReckons: laid · IvFour: laid · IvPowers: laid · IvLess: laid · IvHolds: laid · IvMids: laid · IvParts: laid · IvDrawn: laid · IvRounds: laid.
  DERIVED. THE GIVEN ROWS OF THIS SEAT. 9 by the template 'for every input the law returns true; each argument reads behind the call as it read before'; 0 by the template 'total and deterministic' (their statements: YtkjjmhdlcebnnaaGreatDoorTotals.lean).
  GIVEN WITH THE SEED: the statements are not yours to turn. If you find one false, say at which input.
  Laid BY PROGRAM, IN A SANDBOX (cutbox-rows.mjs): the forced cells as the released guide's own fill.sh prints them over the translation 9eace3b8c7057d76… (all of the seat's roots in one cut). By AI agents, Wed Nov 11 2026. No macro, syntax, notation, axiom, sorry.
-/
import Derived.Test.YtkjjmhdlcebnnaaGreatDoorChecked
import GoSem.Claim
import GoSem.ClaimJoined
import GoSem.ClaimMapViews
import Derived.JoinedTies
import Derived.KernelRfl
namespace Go.Proofs.YtkjjmhdlcebnnaaGreatDoor
/- THE CELL 'sum', in the pinned program and in every row, IS THE sha256 OF THE DUMP (.gsa) THAT YtkjjmhdlcebnnaaGreatDoorProg.lean LOADS. Nothing in Lean hashes anything: it is a label: what it is worth is what the hold of that sum in a sandbox is worth. -/
noncomputable def Tryz.pinned : Pinned := { name := "ytkjjmhdlcebnnaagreatdoor", sum := "9eace3b8c7057d769943549499234c86db295727f233e7a4b5362c13310e9655", checked := Tryz.checked }
namespace Rows
def none {H : Type} : Left H := { results := [], args := [] }

/- WHAT THE LISTED PACKAGE-LEVEL VARIABLES READ AS WHEN THE CALL BEGINS. Each datum BY PROGRAM (the guide's laid-datum.mjs) off the statement by which the dump's own 'gosem.cut.vars' lays the variable. In a bare row this is a premise. The card (YtkjjmhdlcebnnaaGreatDoorCards.lean) ties it to the program's text. -/
def laid_math_bits_deBruijn64tab {H : Type} : DataW H := .agg [.lit (.int .u8 0), .lit (.int .u8 1), .lit (.int .u8 56), .lit (.int .u8 2), .lit (.int .u8 57), .lit (.int .u8 49), .lit (.int .u8 28), .lit (.int .u8 3), .lit (.int .u8 61), .lit (.int .u8 58), .lit (.int .u8 42), .lit (.int .u8 50), .lit (.int .u8 38), .lit (.int .u8 29), .lit (.int .u8 17), .lit (.int .u8 4), .lit (.int .u8 62), .lit (.int .u8 47), .lit (.int .u8 59), .lit (.int .u8 36), .lit (.int .u8 45), .lit (.int .u8 43), .lit (.int .u8 51), .lit (.int .u8 22), .lit (.int .u8 53), .lit (.int .u8 39), .lit (.int .u8 33), .lit (.int .u8 30), .lit (.int .u8 24), .lit (.int .u8 18), .lit (.int .u8 12), .lit (.int .u8 5), .lit (.int .u8 63), .lit (.int .u8 55), .lit (.int .u8 48), .lit (.int .u8 27), .lit (.int .u8 60), .lit (.int .u8 41), .lit (.int .u8 37), .lit (.int .u8 16), .lit (.int .u8 46), .lit (.int .u8 35), .lit (.int .u8 44), .lit (.int .u8 21), .lit (.int .u8 52), .lit (.int .u8 32), .lit (.int .u8 23), .lit (.int .u8 11), .lit (.int .u8 54), .lit (.int .u8 26), .lit (.int .u8 40), .lit (.int .u8 15), .lit (.int .u8 34), .lit (.int .u8 20), .lit (.int .u8 31), .lit (.int .u8 10), .lit (.int .u8 25), .lit (.int .u8 14), .lit (.int .u8 19), .lit (.int .u8 9), .lit (.int .u8 13), .lit (.int .u8 8), .lit (.int .u8 7), .lit (.int .u8 6)]

/-- 'fathomlinelaw5.IvReckons': WHATEVER THE INPUT: true; the input reads as it did. -/
def ivReckonsSpec : ChangeSpec := { name := "ivReckons", fn := fun _ => fun
  | [d1, d2, d3] => { results := [.lit (.bool true)], args := [d1, d2, d3] }
  | _ => none }
def ivReckonsRow : OpenClaim := { program := "ytkjjmhdlcebnnaagreatdoor", sum := "9eace3b8c7057d769943549499234c86db295727f233e7a4b5362c13310e9655", func := "fathomline/fathomlinelaw5.IvReckons", spec := "ivReckons", inPlace := ["math/bits.Add64", "math/bits.Sub64"], unfollowed := true, recurses := true, named := ["math/bits.deBruijn64tab", "math/bits.divideError", "math/bits.overflowError"], apart := false, laid := [("math/bits.deBruijn64tab", laid_math_bits_deBruijn64tab)] }
def IvReckonsSaid : Prop := ivReckonsRow.holds Tryz.pinned (OpenSpec.ofChange ivReckonsSpec)

/-- ITS FALSE NEIGHBOUR: 'it returns false'. Refute it at one input. -/
def ivReckonsWrong : ChangeSpec := { name := "ivReckons", fn := fun _ => fun
  | [d1, d2, d3] => { results := [.lit (.bool false)], args := [d1, d2, d3] }
  | _ => none }
def IvReckonsWrongFalsely : Prop := ivReckonsRow.holds Tryz.pinned (OpenSpec.ofChange ivReckonsWrong)

/-- 'fathomlinelaw5.IvFour': WHATEVER THE INPUT: true; the input reads as it did. -/
def ivFourSpec : ChangeSpec := { name := "ivFour", fn := fun _ => fun
  | [d] => { results := [.lit (.bool true)], args := [d] }
  | _ => none }
def ivFourRow : OpenClaim := { program := "ytkjjmhdlcebnnaagreatdoor", sum := "9eace3b8c7057d769943549499234c86db295727f233e7a4b5362c13310e9655", func := "fathomline/fathomlinelaw5.IvFour", spec := "ivFour", inPlace := ["math/bits.Add64", "math/bits.Sub64"], unfollowed := true, recurses := true, named := ["math/bits.deBruijn64tab", "math/bits.divideError", "math/bits.overflowError"], apart := false, laid := [("math/bits.deBruijn64tab", laid_math_bits_deBruijn64tab)] }
def IvFourSaid : Prop := ivFourRow.holds Tryz.pinned (OpenSpec.ofChange ivFourSpec)

/-- ITS FALSE NEIGHBOUR: 'it returns false'. Refute it at one input. -/
def ivFourWrong : ChangeSpec := { name := "ivFour", fn := fun _ => fun
  | [d] => { results := [.lit (.bool false)], args := [d] }
  | _ => none }
def IvFourWrongFalsely : Prop := ivFourRow.holds Tryz.pinned (OpenSpec.ofChange ivFourWrong)

/-- 'fathomlinelaw5.IvPowers': WHATEVER THE INPUT: true; the input reads as it did. -/
def ivPowersSpec : ChangeSpec := { name := "ivPowers", fn := fun _ => fun
  | [d1, d2, d3, d4] => { results := [.lit (.bool true)], args := [d1, d2, d3, d4] }
  | _ => none }
def ivPowersRow : OpenClaim := { program := "ytkjjmhdlcebnnaagreatdoor", sum := "9eace3b8c7057d769943549499234c86db295727f233e7a4b5362c13310e9655", func := "fathomline/fathomlinelaw5.IvPowers", spec := "ivPowers", inPlace := ["math/bits.Add64", "math/bits.Sub64"], unfollowed := true, recurses := true, named := ["math/bits.deBruijn64tab", "math/bits.divideError", "math/bits.overflowError"], apart := false, laid := [("math/bits.deBruijn64tab", laid_math_bits_deBruijn64tab)] }
def IvPowersSaid : Prop := ivPowersRow.holds Tryz.pinned (OpenSpec.ofChange ivPowersSpec)

/-- ITS FALSE NEIGHBOUR: 'it returns false'. Refute it at one input. -/
def ivPowersWrong : ChangeSpec := { name := "ivPowers", fn := fun _ => fun
  | [d1, d2, d3, d4] => { results := [.lit (.bool false)], args := [d1, d2, d3, d4] }
  | _ => none }
def IvPowersWrongFalsely : Prop := ivPowersRow.holds Tryz.pinned (OpenSpec.ofChange ivPowersWrong)

/-- 'fathomlinelaw5.IvLess': WHATEVER THE INPUT: true; the input reads as it did. -/
def ivLessSpec : ChangeSpec := { name := "ivLess", fn := fun _ => fun
  | [d1, d2] => { results := [.lit (.bool true)], args := [d1, d2] }
  | _ => none }
def ivLessRow : OpenClaim := { program := "ytkjjmhdlcebnnaagreatdoor", sum := "9eace3b8c7057d769943549499234c86db295727f233e7a4b5362c13310e9655", func := "fathomline/fathomlinelaw5.IvLess", spec := "ivLess", inPlace := ["math/bits.Add64", "math/bits.Sub64"], unfollowed := true, recurses := true, named := ["math/bits.deBruijn64tab", "math/bits.divideError", "math/bits.overflowError"], apart := false, laid := [("math/bits.deBruijn64tab", laid_math_bits_deBruijn64tab)] }
def IvLessSaid : Prop := ivLessRow.holds Tryz.pinned (OpenSpec.ofChange ivLessSpec)

/-- ITS FALSE NEIGHBOUR: 'it returns false'. Refute it at one input. -/
def ivLessWrong : ChangeSpec := { name := "ivLess", fn := fun _ => fun
  | [d1, d2] => { results := [.lit (.bool false)], args := [d1, d2] }
  | _ => none }
def IvLessWrongFalsely : Prop := ivLessRow.holds Tryz.pinned (OpenSpec.ofChange ivLessWrong)

/-- 'fathomlinelaw5.IvHolds': WHATEVER THE INPUT: true; the input reads as it did. -/
def ivHoldsSpec : ChangeSpec := { name := "ivHolds", fn := fun _ => fun
  | [d] => { results := [.lit (.bool true)], args := [d] }
  | _ => none }
def ivHoldsRow : OpenClaim := { program := "ytkjjmhdlcebnnaagreatdoor", sum := "9eace3b8c7057d769943549499234c86db295727f233e7a4b5362c13310e9655", func := "fathomline/fathomlinelaw5.IvHolds", spec := "ivHolds", inPlace := ["math/bits.Add64", "math/bits.Sub64"], unfollowed := true, recurses := true, named := ["math/bits.deBruijn64tab", "math/bits.divideError", "math/bits.overflowError"], apart := false, laid := [("math/bits.deBruijn64tab", laid_math_bits_deBruijn64tab)] }
def IvHoldsSaid : Prop := ivHoldsRow.holds Tryz.pinned (OpenSpec.ofChange ivHoldsSpec)

/-- ITS FALSE NEIGHBOUR: 'it returns false'. Refute it at one input. -/
def ivHoldsWrong : ChangeSpec := { name := "ivHolds", fn := fun _ => fun
  | [d] => { results := [.lit (.bool false)], args := [d] }
  | _ => none }
def IvHoldsWrongFalsely : Prop := ivHoldsRow.holds Tryz.pinned (OpenSpec.ofChange ivHoldsWrong)

/-- 'fathomlinelaw5.IvMids': WHATEVER THE INPUT: true; the input reads as it did. -/
def ivMidsSpec : ChangeSpec := { name := "ivMids", fn := fun _ => fun
  | [d1, d2] => { results := [.lit (.bool true)], args := [d1, d2] }
  | _ => none }
def ivMidsRow : OpenClaim := { program := "ytkjjmhdlcebnnaagreatdoor", sum := "9eace3b8c7057d769943549499234c86db295727f233e7a4b5362c13310e9655", func := "fathomline/fathomlinelaw5.IvMids", spec := "ivMids", inPlace := ["math/bits.Add64", "math/bits.Sub64"], unfollowed := true, recurses := true, named := ["math/bits.deBruijn64tab", "math/bits.divideError", "math/bits.overflowError"], apart := false, laid := [("math/bits.deBruijn64tab", laid_math_bits_deBruijn64tab)] }
def IvMidsSaid : Prop := ivMidsRow.holds Tryz.pinned (OpenSpec.ofChange ivMidsSpec)

/-- ITS FALSE NEIGHBOUR: 'it returns false'. Refute it at one input. -/
def ivMidsWrong : ChangeSpec := { name := "ivMids", fn := fun _ => fun
  | [d1, d2] => { results := [.lit (.bool false)], args := [d1, d2] }
  | _ => none }
def IvMidsWrongFalsely : Prop := ivMidsRow.holds Tryz.pinned (OpenSpec.ofChange ivMidsWrong)

/-- 'fathomlinelaw5.IvParts': WHATEVER THE INPUT: true; the input reads as it did. -/
def ivPartsSpec : ChangeSpec := { name := "ivParts", fn := fun _ => fun
  | [d1, d2, d3] => { results := [.lit (.bool true)], args := [d1, d2, d3] }
  | _ => none }
def ivPartsRow : OpenClaim := { program := "ytkjjmhdlcebnnaagreatdoor", sum := "9eace3b8c7057d769943549499234c86db295727f233e7a4b5362c13310e9655", func := "fathomline/fathomlinelaw5.IvParts", spec := "ivParts", inPlace := ["math/bits.Add64", "math/bits.Sub64"], unfollowed := true, recurses := true, named := ["math/bits.deBruijn64tab", "math/bits.divideError", "math/bits.overflowError"], apart := false, laid := [("math/bits.deBruijn64tab", laid_math_bits_deBruijn64tab)] }
def IvPartsSaid : Prop := ivPartsRow.holds Tryz.pinned (OpenSpec.ofChange ivPartsSpec)

/-- ITS FALSE NEIGHBOUR: 'it returns false'. Refute it at one input. -/
def ivPartsWrong : ChangeSpec := { name := "ivParts", fn := fun _ => fun
  | [d1, d2, d3] => { results := [.lit (.bool false)], args := [d1, d2, d3] }
  | _ => none }
def IvPartsWrongFalsely : Prop := ivPartsRow.holds Tryz.pinned (OpenSpec.ofChange ivPartsWrong)

/-- 'fathomlinelaw5.IvDrawn': WHATEVER THE INPUT: true; the input reads as it did. -/
def ivDrawnSpec : ChangeSpec := { name := "ivDrawn", fn := fun _ => fun
  | [d] => { results := [.lit (.bool true)], args := [d] }
  | _ => none }
def ivDrawnRow : OpenClaim := { program := "ytkjjmhdlcebnnaagreatdoor", sum := "9eace3b8c7057d769943549499234c86db295727f233e7a4b5362c13310e9655", func := "fathomline/fathomlinelaw5.IvDrawn", spec := "ivDrawn", inPlace := ["math/bits.Add64", "math/bits.Sub64"], unfollowed := true, recurses := true, named := ["math/bits.deBruijn64tab", "math/bits.divideError", "math/bits.overflowError"], apart := false, laid := [("math/bits.deBruijn64tab", laid_math_bits_deBruijn64tab)] }
def IvDrawnSaid : Prop := ivDrawnRow.holds Tryz.pinned (OpenSpec.ofChange ivDrawnSpec)

/-- ITS FALSE NEIGHBOUR: 'it returns false'. Refute it at one input. -/
def ivDrawnWrong : ChangeSpec := { name := "ivDrawn", fn := fun _ => fun
  | [d] => { results := [.lit (.bool false)], args := [d] }
  | _ => none }
def IvDrawnWrongFalsely : Prop := ivDrawnRow.holds Tryz.pinned (OpenSpec.ofChange ivDrawnWrong)

/-- 'fathomlinelaw5.IvRounds': WHATEVER THE INPUT: true; the input reads as it did. -/
def ivRoundsSpec : ChangeSpec := { name := "ivRounds", fn := fun _ => fun
  | [d] => { results := [.lit (.bool true)], args := [d] }
  | _ => none }
def ivRoundsRow : OpenClaim := { program := "ytkjjmhdlcebnnaagreatdoor", sum := "9eace3b8c7057d769943549499234c86db295727f233e7a4b5362c13310e9655", func := "fathomline/fathomlinelaw5.IvRounds", spec := "ivRounds", inPlace := ["math/bits.Add64", "math/bits.Sub64"], unfollowed := true, recurses := true, named := ["math/bits.deBruijn64tab", "math/bits.divideError", "math/bits.overflowError"], apart := false, laid := [("math/bits.deBruijn64tab", laid_math_bits_deBruijn64tab)] }
def IvRoundsSaid : Prop := ivRoundsRow.holds Tryz.pinned (OpenSpec.ofChange ivRoundsSpec)

/-- ITS FALSE NEIGHBOUR: 'it returns false'. Refute it at one input. -/
def ivRoundsWrong : ChangeSpec := { name := "ivRounds", fn := fun _ => fun
  | [d] => { results := [.lit (.bool false)], args := [d] }
  | _ => none }
def IvRoundsWrongFalsely : Prop := ivRoundsRow.holds Tryz.pinned (OpenSpec.ofChange ivRoundsWrong)

/- THE SECOND FORM. 'bulk': how many values and letters a reading holds, each counted each time it is reached (what is shared counts as often as it is met; a slice's spare places count too). A statement '..UptoSaid' is the law's where the arguments, and the package variables that the reading takes, are together of bulk at most 1048576: NARROWER than '..Said'. Prove '..Said' where nothing that the law and all that it calls make is longer than what came in: it says more and counts as full. Else prove '..UptoSaid'. A law counts once. -/
mutual
def uptoBulk {H : Type} : DataW H → Nat
  | .lit (.string bytes) => bytes.length + 1
  | .lit _ => 1
  | .nil => 1
  | .ptr d => uptoBulk d + 1
  | .slice elems spare => uptoBulkAll elems + uptoBulkAll spare + 1
  | .agg parts => uptoBulkAll parts + 1
  | .iface _ d => uptoBulk d + 1
  | .map entries => uptoBulkEntries entries + 1
  | .held _ => 1
def uptoBulkAll {H : Type} : List (DataW H) → Nat
  | [] => 0
  | d :: r => uptoBulk d + uptoBulkAll r
def uptoBulkEntries {H : Type} : List (Lit × DataW H) → Nat
  | [] => 0
  | x :: r => uptoBulkEntry x + uptoBulkEntries r
def uptoBulkEntry {H : Type} : Lit × DataW H → Nat
  | (.string bytes, d) => bytes.length + uptoBulk d + 1
  | (_, d) => uptoBulk d + 1
 end
def uptoSmall : (H : Type) → List (DataW H) → Bool := fun _ ds => decide (uptoBulkAll ds ≤ 1048576)
def OpenSpec.upto (s : _root_.Go.ChangeSpec) : _root_.Go.OpenSpec := { _root_.Go.OpenSpec.ofChange s with cond := some uptoSmall }

/-- 'fathomlinelaw5.IvReckons', WHERE WHAT IT READS IS OF BULK AT MOST 1048576: true; the input reads as it did. -/
def ivReckonsUptoRow : OpenClaim := { program := "ytkjjmhdlcebnnaagreatdoor", sum := "9eace3b8c7057d769943549499234c86db295727f233e7a4b5362c13310e9655", func := "fathomline/fathomlinelaw5.IvReckons", spec := "ivReckons", inPlace := ["math/bits.Add64", "math/bits.Sub64"], unfollowed := true, recurses := true, named := ["math/bits.deBruijn64tab", "math/bits.divideError", "math/bits.overflowError"], apart := false, laid := [("math/bits.deBruijn64tab", laid_math_bits_deBruijn64tab)], narrowed := true }
def IvReckonsUptoSaid : Prop := ivReckonsUptoRow.holds Tryz.pinned (OpenSpec.upto ivReckonsSpec)

/-- 'fathomlinelaw5.IvFour', WHERE WHAT IT READS IS OF BULK AT MOST 1048576: true; the input reads as it did. -/
def ivFourUptoRow : OpenClaim := { program := "ytkjjmhdlcebnnaagreatdoor", sum := "9eace3b8c7057d769943549499234c86db295727f233e7a4b5362c13310e9655", func := "fathomline/fathomlinelaw5.IvFour", spec := "ivFour", inPlace := ["math/bits.Add64", "math/bits.Sub64"], unfollowed := true, recurses := true, named := ["math/bits.deBruijn64tab", "math/bits.divideError", "math/bits.overflowError"], apart := false, laid := [("math/bits.deBruijn64tab", laid_math_bits_deBruijn64tab)], narrowed := true }
def IvFourUptoSaid : Prop := ivFourUptoRow.holds Tryz.pinned (OpenSpec.upto ivFourSpec)

/-- 'fathomlinelaw5.IvPowers', WHERE WHAT IT READS IS OF BULK AT MOST 1048576: true; the input reads as it did. -/
def ivPowersUptoRow : OpenClaim := { program := "ytkjjmhdlcebnnaagreatdoor", sum := "9eace3b8c7057d769943549499234c86db295727f233e7a4b5362c13310e9655", func := "fathomline/fathomlinelaw5.IvPowers", spec := "ivPowers", inPlace := ["math/bits.Add64", "math/bits.Sub64"], unfollowed := true, recurses := true, named := ["math/bits.deBruijn64tab", "math/bits.divideError", "math/bits.overflowError"], apart := false, laid := [("math/bits.deBruijn64tab", laid_math_bits_deBruijn64tab)], narrowed := true }
def IvPowersUptoSaid : Prop := ivPowersUptoRow.holds Tryz.pinned (OpenSpec.upto ivPowersSpec)

/-- 'fathomlinelaw5.IvLess', WHERE WHAT IT READS IS OF BULK AT MOST 1048576: true; the input reads as it did. -/
def ivLessUptoRow : OpenClaim := { program := "ytkjjmhdlcebnnaagreatdoor", sum := "9eace3b8c7057d769943549499234c86db295727f233e7a4b5362c13310e9655", func := "fathomline/fathomlinelaw5.IvLess", spec := "ivLess", inPlace := ["math/bits.Add64", "math/bits.Sub64"], unfollowed := true, recurses := true, named := ["math/bits.deBruijn64tab", "math/bits.divideError", "math/bits.overflowError"], apart := false, laid := [("math/bits.deBruijn64tab", laid_math_bits_deBruijn64tab)], narrowed := true }
def IvLessUptoSaid : Prop := ivLessUptoRow.holds Tryz.pinned (OpenSpec.upto ivLessSpec)

/-- 'fathomlinelaw5.IvHolds', WHERE WHAT IT READS IS OF BULK AT MOST 1048576: true; the input reads as it did. -/
def ivHoldsUptoRow : OpenClaim := { program := "ytkjjmhdlcebnnaagreatdoor", sum := "9eace3b8c7057d769943549499234c86db295727f233e7a4b5362c13310e9655", func := "fathomline/fathomlinelaw5.IvHolds", spec := "ivHolds", inPlace := ["math/bits.Add64", "math/bits.Sub64"], unfollowed := true, recurses := true, named := ["math/bits.deBruijn64tab", "math/bits.divideError", "math/bits.overflowError"], apart := false, laid := [("math/bits.deBruijn64tab", laid_math_bits_deBruijn64tab)], narrowed := true }
def IvHoldsUptoSaid : Prop := ivHoldsUptoRow.holds Tryz.pinned (OpenSpec.upto ivHoldsSpec)

/-- 'fathomlinelaw5.IvMids', WHERE WHAT IT READS IS OF BULK AT MOST 1048576: true; the input reads as it did. -/
def ivMidsUptoRow : OpenClaim := { program := "ytkjjmhdlcebnnaagreatdoor", sum := "9eace3b8c7057d769943549499234c86db295727f233e7a4b5362c13310e9655", func := "fathomline/fathomlinelaw5.IvMids", spec := "ivMids", inPlace := ["math/bits.Add64", "math/bits.Sub64"], unfollowed := true, recurses := true, named := ["math/bits.deBruijn64tab", "math/bits.divideError", "math/bits.overflowError"], apart := false, laid := [("math/bits.deBruijn64tab", laid_math_bits_deBruijn64tab)], narrowed := true }
def IvMidsUptoSaid : Prop := ivMidsUptoRow.holds Tryz.pinned (OpenSpec.upto ivMidsSpec)

/-- 'fathomlinelaw5.IvParts', WHERE WHAT IT READS IS OF BULK AT MOST 1048576: true; the input reads as it did. -/
def ivPartsUptoRow : OpenClaim := { program := "ytkjjmhdlcebnnaagreatdoor", sum := "9eace3b8c7057d769943549499234c86db295727f233e7a4b5362c13310e9655", func := "fathomline/fathomlinelaw5.IvParts", spec := "ivParts", inPlace := ["math/bits.Add64", "math/bits.Sub64"], unfollowed := true, recurses := true, named := ["math/bits.deBruijn64tab", "math/bits.divideError", "math/bits.overflowError"], apart := false, laid := [("math/bits.deBruijn64tab", laid_math_bits_deBruijn64tab)], narrowed := true }
def IvPartsUptoSaid : Prop := ivPartsUptoRow.holds Tryz.pinned (OpenSpec.upto ivPartsSpec)

/-- 'fathomlinelaw5.IvDrawn', WHERE WHAT IT READS IS OF BULK AT MOST 1048576: true; the input reads as it did. -/
def ivDrawnUptoRow : OpenClaim := { program := "ytkjjmhdlcebnnaagreatdoor", sum := "9eace3b8c7057d769943549499234c86db295727f233e7a4b5362c13310e9655", func := "fathomline/fathomlinelaw5.IvDrawn", spec := "ivDrawn", inPlace := ["math/bits.Add64", "math/bits.Sub64"], unfollowed := true, recurses := true, named := ["math/bits.deBruijn64tab", "math/bits.divideError", "math/bits.overflowError"], apart := false, laid := [("math/bits.deBruijn64tab", laid_math_bits_deBruijn64tab)], narrowed := true }
def IvDrawnUptoSaid : Prop := ivDrawnUptoRow.holds Tryz.pinned (OpenSpec.upto ivDrawnSpec)

/-- 'fathomlinelaw5.IvRounds', WHERE WHAT IT READS IS OF BULK AT MOST 1048576: true; the input reads as it did. -/
def ivRoundsUptoRow : OpenClaim := { program := "ytkjjmhdlcebnnaagreatdoor", sum := "9eace3b8c7057d769943549499234c86db295727f233e7a4b5362c13310e9655", func := "fathomline/fathomlinelaw5.IvRounds", spec := "ivRounds", inPlace := ["math/bits.Add64", "math/bits.Sub64"], unfollowed := true, recurses := true, named := ["math/bits.deBruijn64tab", "math/bits.divideError", "math/bits.overflowError"], apart := false, laid := [("math/bits.deBruijn64tab", laid_math_bits_deBruijn64tab)], narrowed := true }
def IvRoundsUptoSaid : Prop := ivRoundsUptoRow.holds Tryz.pinned (OpenSpec.upto ivRoundsSpec)

end Rows
end Go.Proofs.YtkjjmhdlcebnnaaGreatDoor
