/-
  NARROWER THAN 'FOR EVERY INPUT', by the rows' own cells (each row's printed sentence says how): PolyRights: laid · PolyMakes: laid · PolyReckons: laid · PolyDrawn: laid · PolyValues: laid · PolyRings: laid · PolyDerives: laid · PolyHolds: laid.
  DERIVED. THE GIVEN ROWS OF THIS SEAT. 8 by the template 'for every input the law returns true; each argument reads behind the call as it read before'; 0 by the template 'total and deterministic' (their statements: YtgapammfekmihaaGreatDoorTotals.lean).
  GIVEN WITH THE SEED: the statements are not yours to turn. If you find one false, say at which input.
  Laid BY PROGRAM, IN A SANDBOX (cutbox-rows.mjs): the forced cells as the released guide's own fill.sh prints them over the translation 23f0cd8cd8d15862… (all of the seat's roots in one cut). By AI agents, Wed Nov 11 2026. No macro, syntax, notation, axiom, sorry.
-/
import Derived.Test.YtgapammfekmihaaGreatDoorChecked
import GoSem.Claim
import GoSem.ClaimJoined
import GoSem.ClaimMapViews
import Derived.JoinedTies
import Derived.KernelRfl
namespace Go.Proofs.YtgapammfekmihaaGreatDoor
/- THE CELL 'sum', in the pinned program and in every row, IS THE sha256 OF THE DUMP (.gsa) THAT YtgapammfekmihaaGreatDoorProg.lean LOADS. Nothing in Lean hashes anything: it is a label: what it is worth is what the hold of that sum in a sandbox is worth. -/
noncomputable def Tryz.pinned : Pinned := { name := "ytgapammfekmihaagreatdoor", sum := "23f0cd8cd8d158624d067b376eb66853215906e2595b77ecb3b6132256006175", checked := Tryz.checked }
namespace Rows
def none {H : Type} : Left H := { results := [], args := [] }

/- WHAT THE LISTED PACKAGE-LEVEL VARIABLES READ AS WHEN THE CALL BEGINS. Each datum BY PROGRAM (the guide's laid-datum.mjs) off the statement by which the dump's own 'gosem.cut.vars' lays the variable. In a bare row this is a premise. The card (YtgapammfekmihaaGreatDoorCards.lean) ties it to the program's text. -/
def laid_math_bits_deBruijn64tab {H : Type} : DataW H := .agg [.lit (.int .u8 0), .lit (.int .u8 1), .lit (.int .u8 56), .lit (.int .u8 2), .lit (.int .u8 57), .lit (.int .u8 49), .lit (.int .u8 28), .lit (.int .u8 3), .lit (.int .u8 61), .lit (.int .u8 58), .lit (.int .u8 42), .lit (.int .u8 50), .lit (.int .u8 38), .lit (.int .u8 29), .lit (.int .u8 17), .lit (.int .u8 4), .lit (.int .u8 62), .lit (.int .u8 47), .lit (.int .u8 59), .lit (.int .u8 36), .lit (.int .u8 45), .lit (.int .u8 43), .lit (.int .u8 51), .lit (.int .u8 22), .lit (.int .u8 53), .lit (.int .u8 39), .lit (.int .u8 33), .lit (.int .u8 30), .lit (.int .u8 24), .lit (.int .u8 18), .lit (.int .u8 12), .lit (.int .u8 5), .lit (.int .u8 63), .lit (.int .u8 55), .lit (.int .u8 48), .lit (.int .u8 27), .lit (.int .u8 60), .lit (.int .u8 41), .lit (.int .u8 37), .lit (.int .u8 16), .lit (.int .u8 46), .lit (.int .u8 35), .lit (.int .u8 44), .lit (.int .u8 21), .lit (.int .u8 52), .lit (.int .u8 32), .lit (.int .u8 23), .lit (.int .u8 11), .lit (.int .u8 54), .lit (.int .u8 26), .lit (.int .u8 40), .lit (.int .u8 15), .lit (.int .u8 34), .lit (.int .u8 20), .lit (.int .u8 31), .lit (.int .u8 10), .lit (.int .u8 25), .lit (.int .u8 14), .lit (.int .u8 19), .lit (.int .u8 9), .lit (.int .u8 13), .lit (.int .u8 8), .lit (.int .u8 7), .lit (.int .u8 6)]

/-- 'fathomlinelaw10.PolyRights': WHATEVER THE INPUT: true; the input reads as it did. -/
def polyRightsSpec : ChangeSpec := { name := "polyRights", fn := fun _ => fun
  | [d1, d2, d3] => { results := [.lit (.bool true)], args := [d1, d2, d3] }
  | _ => none }
def polyRightsRow : OpenClaim := { program := "ytgapammfekmihaagreatdoor", sum := "23f0cd8cd8d158624d067b376eb66853215906e2595b77ecb3b6132256006175", func := "fathomline/fathomlinelaw10.PolyRights", spec := "polyRights", inPlace := ["math/bits.Add64", "math/bits.Sub64"], unfollowed := true, recurses := true, named := ["math/bits.deBruijn64tab"], plainKeys := false, apart := false, laid := [("math/bits.deBruijn64tab", laid_math_bits_deBruijn64tab)] }
def PolyRightsSaid : Prop := polyRightsRow.holds Tryz.pinned (OpenSpec.ofChange polyRightsSpec)

/-- ITS FALSE NEIGHBOUR: 'it returns false'. Refute it at one input. -/
def polyRightsWrong : ChangeSpec := { name := "polyRights", fn := fun _ => fun
  | [d1, d2, d3] => { results := [.lit (.bool false)], args := [d1, d2, d3] }
  | _ => none }
def PolyRightsWrongFalsely : Prop := polyRightsRow.holds Tryz.pinned (OpenSpec.ofChange polyRightsWrong)

/-- 'fathomlinelaw10.PolyMakes': WHATEVER THE INPUT: true; the input reads as it did. -/
def polyMakesSpec : ChangeSpec := { name := "polyMakes", fn := fun _ => fun
  | [d1, d2, d3] => { results := [.lit (.bool true)], args := [d1, d2, d3] }
  | _ => none }
def polyMakesRow : OpenClaim := { program := "ytgapammfekmihaagreatdoor", sum := "23f0cd8cd8d158624d067b376eb66853215906e2595b77ecb3b6132256006175", func := "fathomline/fathomlinelaw10.PolyMakes", spec := "polyMakes", inPlace := ["math/bits.Add64", "math/bits.Sub64"], unfollowed := true, recurses := true, named := ["math/bits.deBruijn64tab"], plainKeys := false, apart := false, laid := [("math/bits.deBruijn64tab", laid_math_bits_deBruijn64tab)] }
def PolyMakesSaid : Prop := polyMakesRow.holds Tryz.pinned (OpenSpec.ofChange polyMakesSpec)

/-- ITS FALSE NEIGHBOUR: 'it returns false'. Refute it at one input. -/
def polyMakesWrong : ChangeSpec := { name := "polyMakes", fn := fun _ => fun
  | [d1, d2, d3] => { results := [.lit (.bool false)], args := [d1, d2, d3] }
  | _ => none }
def PolyMakesWrongFalsely : Prop := polyMakesRow.holds Tryz.pinned (OpenSpec.ofChange polyMakesWrong)

/-- 'fathomlinelaw10.PolyReckons': WHATEVER THE INPUT: true; the input reads as it did. -/
def polyReckonsSpec : ChangeSpec := { name := "polyReckons", fn := fun _ => fun
  | [d1, d2, d3, d4] => { results := [.lit (.bool true)], args := [d1, d2, d3, d4] }
  | _ => none }
def polyReckonsRow : OpenClaim := { program := "ytgapammfekmihaagreatdoor", sum := "23f0cd8cd8d158624d067b376eb66853215906e2595b77ecb3b6132256006175", func := "fathomline/fathomlinelaw10.PolyReckons", spec := "polyReckons", inPlace := ["math/bits.Add64", "math/bits.Sub64"], unfollowed := true, recurses := true, named := ["math/bits.deBruijn64tab"], plainKeys := false, apart := false, laid := [("math/bits.deBruijn64tab", laid_math_bits_deBruijn64tab)] }
def PolyReckonsSaid : Prop := polyReckonsRow.holds Tryz.pinned (OpenSpec.ofChange polyReckonsSpec)

/-- ITS FALSE NEIGHBOUR: 'it returns false'. Refute it at one input. -/
def polyReckonsWrong : ChangeSpec := { name := "polyReckons", fn := fun _ => fun
  | [d1, d2, d3, d4] => { results := [.lit (.bool false)], args := [d1, d2, d3, d4] }
  | _ => none }
def PolyReckonsWrongFalsely : Prop := polyReckonsRow.holds Tryz.pinned (OpenSpec.ofChange polyReckonsWrong)

/-- 'fathomlinelaw10.PolyDrawn': WHATEVER THE INPUT: true; the input reads as it did. -/
def polyDrawnSpec : ChangeSpec := { name := "polyDrawn", fn := fun _ => fun
  | [d] => { results := [.lit (.bool true)], args := [d] }
  | _ => none }
def polyDrawnRow : OpenClaim := { program := "ytgapammfekmihaagreatdoor", sum := "23f0cd8cd8d158624d067b376eb66853215906e2595b77ecb3b6132256006175", func := "fathomline/fathomlinelaw10.PolyDrawn", spec := "polyDrawn", inPlace := ["math/bits.Add64", "math/bits.Sub64"], unfollowed := true, recurses := true, named := ["math/bits.deBruijn64tab"], plainKeys := false, apart := false, laid := [("math/bits.deBruijn64tab", laid_math_bits_deBruijn64tab)] }
def PolyDrawnSaid : Prop := polyDrawnRow.holds Tryz.pinned (OpenSpec.ofChange polyDrawnSpec)

/-- ITS FALSE NEIGHBOUR: 'it returns false'. Refute it at one input. -/
def polyDrawnWrong : ChangeSpec := { name := "polyDrawn", fn := fun _ => fun
  | [d] => { results := [.lit (.bool false)], args := [d] }
  | _ => none }
def PolyDrawnWrongFalsely : Prop := polyDrawnRow.holds Tryz.pinned (OpenSpec.ofChange polyDrawnWrong)

/-- 'fathomlinelaw10.PolyValues': WHATEVER THE INPUT: true; the input reads as it did. -/
def polyValuesSpec : ChangeSpec := { name := "polyValues", fn := fun _ => fun
  | [d1, d2, d3, d4] => { results := [.lit (.bool true)], args := [d1, d2, d3, d4] }
  | _ => none }
def polyValuesRow : OpenClaim := { program := "ytgapammfekmihaagreatdoor", sum := "23f0cd8cd8d158624d067b376eb66853215906e2595b77ecb3b6132256006175", func := "fathomline/fathomlinelaw10.PolyValues", spec := "polyValues", inPlace := ["math/bits.Add64", "math/bits.Sub64"], unfollowed := true, recurses := true, named := ["math/bits.deBruijn64tab"], plainKeys := false, apart := false, laid := [("math/bits.deBruijn64tab", laid_math_bits_deBruijn64tab)] }
def PolyValuesSaid : Prop := polyValuesRow.holds Tryz.pinned (OpenSpec.ofChange polyValuesSpec)

/-- ITS FALSE NEIGHBOUR: 'it returns false'. Refute it at one input. -/
def polyValuesWrong : ChangeSpec := { name := "polyValues", fn := fun _ => fun
  | [d1, d2, d3, d4] => { results := [.lit (.bool false)], args := [d1, d2, d3, d4] }
  | _ => none }
def PolyValuesWrongFalsely : Prop := polyValuesRow.holds Tryz.pinned (OpenSpec.ofChange polyValuesWrong)

/-- 'fathomlinelaw10.PolyRings': WHATEVER THE INPUT: true; the input reads as it did. -/
def polyRingsSpec : ChangeSpec := { name := "polyRings", fn := fun _ => fun
  | [d] => { results := [.lit (.bool true)], args := [d] }
  | _ => none }
def polyRingsRow : OpenClaim := { program := "ytgapammfekmihaagreatdoor", sum := "23f0cd8cd8d158624d067b376eb66853215906e2595b77ecb3b6132256006175", func := "fathomline/fathomlinelaw10.PolyRings", spec := "polyRings", inPlace := ["math/bits.Add64", "math/bits.Sub64"], unfollowed := true, recurses := true, named := ["math/bits.deBruijn64tab"], plainKeys := false, apart := false, laid := [("math/bits.deBruijn64tab", laid_math_bits_deBruijn64tab)] }
def PolyRingsSaid : Prop := polyRingsRow.holds Tryz.pinned (OpenSpec.ofChange polyRingsSpec)

/-- ITS FALSE NEIGHBOUR: 'it returns false'. Refute it at one input. -/
def polyRingsWrong : ChangeSpec := { name := "polyRings", fn := fun _ => fun
  | [d] => { results := [.lit (.bool false)], args := [d] }
  | _ => none }
def PolyRingsWrongFalsely : Prop := polyRingsRow.holds Tryz.pinned (OpenSpec.ofChange polyRingsWrong)

/-- 'fathomlinelaw10.PolyDerives': WHATEVER THE INPUT: true; the input reads as it did. -/
def polyDerivesSpec : ChangeSpec := { name := "polyDerives", fn := fun _ => fun
  | [d] => { results := [.lit (.bool true)], args := [d] }
  | _ => none }
def polyDerivesRow : OpenClaim := { program := "ytgapammfekmihaagreatdoor", sum := "23f0cd8cd8d158624d067b376eb66853215906e2595b77ecb3b6132256006175", func := "fathomline/fathomlinelaw10.PolyDerives", spec := "polyDerives", inPlace := ["math/bits.Add64", "math/bits.Sub64"], unfollowed := true, recurses := true, named := ["math/bits.deBruijn64tab"], plainKeys := false, apart := false, laid := [("math/bits.deBruijn64tab", laid_math_bits_deBruijn64tab)] }
def PolyDerivesSaid : Prop := polyDerivesRow.holds Tryz.pinned (OpenSpec.ofChange polyDerivesSpec)

/-- ITS FALSE NEIGHBOUR: 'it returns false'. Refute it at one input. -/
def polyDerivesWrong : ChangeSpec := { name := "polyDerives", fn := fun _ => fun
  | [d] => { results := [.lit (.bool false)], args := [d] }
  | _ => none }
def PolyDerivesWrongFalsely : Prop := polyDerivesRow.holds Tryz.pinned (OpenSpec.ofChange polyDerivesWrong)

/-- 'fathomlinelaw10.PolyHolds': WHATEVER THE INPUT: true; the input reads as it did. -/
def polyHoldsSpec : ChangeSpec := { name := "polyHolds", fn := fun _ => fun
  | [d] => { results := [.lit (.bool true)], args := [d] }
  | _ => none }
def polyHoldsRow : OpenClaim := { program := "ytgapammfekmihaagreatdoor", sum := "23f0cd8cd8d158624d067b376eb66853215906e2595b77ecb3b6132256006175", func := "fathomline/fathomlinelaw10.PolyHolds", spec := "polyHolds", inPlace := ["math/bits.Add64", "math/bits.Sub64"], unfollowed := true, recurses := true, named := ["math/bits.deBruijn64tab"], plainKeys := false, apart := false, laid := [("math/bits.deBruijn64tab", laid_math_bits_deBruijn64tab)] }
def PolyHoldsSaid : Prop := polyHoldsRow.holds Tryz.pinned (OpenSpec.ofChange polyHoldsSpec)

/-- ITS FALSE NEIGHBOUR: 'it returns false'. Refute it at one input. -/
def polyHoldsWrong : ChangeSpec := { name := "polyHolds", fn := fun _ => fun
  | [d] => { results := [.lit (.bool false)], args := [d] }
  | _ => none }
def PolyHoldsWrongFalsely : Prop := polyHoldsRow.holds Tryz.pinned (OpenSpec.ofChange polyHoldsWrong)

/- THE SECOND FORM. 'bulk': how many values and letters a reading holds, each counted each time it is reached (what is shared counts as often as it is met; a slice's spare places count too). A statement '..UptoSaid' is the law's where the arguments, and the package variables that the reading takes, are together of bulk at most 1048576: NARROWER than '..Said'. Prove '..Said' where nothing that the law and all that it calls make is longer than what came in: it says more and counts as full. Else prove '..UptoSaid'. A law counts once. -/
mutual
def uptoBulk {H : Type} : DataW H → Nat
  | .lit (.string bytes) => bytes.length + 1
  | .lit _ => 1
  | .nil => 1
  | .ptr d => uptoBulk d + 1
  | .slice elems spare => uptoBulkAll elems + uptoBulkAll spare + 1
  | .agg parts => uptoBulkAll parts + 1
  | .iface _ d => uptoBulk d + 1
  | .map entries => uptoBulkEntries entries + 1
  | .held _ => 1
def uptoBulkAll {H : Type} : List (DataW H) → Nat
  | [] => 0
  | d :: r => uptoBulk d + uptoBulkAll r
def uptoBulkEntries {H : Type} : List (Lit × DataW H) → Nat
  | [] => 0
  | x :: r => uptoBulkEntry x + uptoBulkEntries r
def uptoBulkEntry {H : Type} : Lit × DataW H → Nat
  | (.string bytes, d) => bytes.length + uptoBulk d + 1
  | (_, d) => uptoBulk d + 1
 end
def uptoSmall : (H : Type) → List (DataW H) → Bool := fun _ ds => decide (uptoBulkAll ds ≤ 1048576)
def OpenSpec.upto (s : _root_.Go.ChangeSpec) : _root_.Go.OpenSpec := { _root_.Go.OpenSpec.ofChange s with cond := some uptoSmall }

/-- 'fathomlinelaw10.PolyRights', WHERE WHAT IT READS IS OF BULK AT MOST 1048576: true; the input reads as it did. -/
def polyRightsUptoRow : OpenClaim := { program := "ytgapammfekmihaagreatdoor", sum := "23f0cd8cd8d158624d067b376eb66853215906e2595b77ecb3b6132256006175", func := "fathomline/fathomlinelaw10.PolyRights", spec := "polyRights", inPlace := ["math/bits.Add64", "math/bits.Sub64"], unfollowed := true, recurses := true, named := ["math/bits.deBruijn64tab"], plainKeys := false, apart := false, laid := [("math/bits.deBruijn64tab", laid_math_bits_deBruijn64tab)], narrowed := true }
def PolyRightsUptoSaid : Prop := polyRightsUptoRow.holds Tryz.pinned (OpenSpec.upto polyRightsSpec)

/-- 'fathomlinelaw10.PolyMakes', WHERE WHAT IT READS IS OF BULK AT MOST 1048576: true; the input reads as it did. -/
def polyMakesUptoRow : OpenClaim := { program := "ytgapammfekmihaagreatdoor", sum := "23f0cd8cd8d158624d067b376eb66853215906e2595b77ecb3b6132256006175", func := "fathomline/fathomlinelaw10.PolyMakes", spec := "polyMakes", inPlace := ["math/bits.Add64", "math/bits.Sub64"], unfollowed := true, recurses := true, named := ["math/bits.deBruijn64tab"], plainKeys := false, apart := false, laid := [("math/bits.deBruijn64tab", laid_math_bits_deBruijn64tab)], narrowed := true }
def PolyMakesUptoSaid : Prop := polyMakesUptoRow.holds Tryz.pinned (OpenSpec.upto polyMakesSpec)

/-- 'fathomlinelaw10.PolyReckons', WHERE WHAT IT READS IS OF BULK AT MOST 1048576: true; the input reads as it did. -/
def polyReckonsUptoRow : OpenClaim := { program := "ytgapammfekmihaagreatdoor", sum := "23f0cd8cd8d158624d067b376eb66853215906e2595b77ecb3b6132256006175", func := "fathomline/fathomlinelaw10.PolyReckons", spec := "polyReckons", inPlace := ["math/bits.Add64", "math/bits.Sub64"], unfollowed := true, recurses := true, named := ["math/bits.deBruijn64tab"], plainKeys := false, apart := false, laid := [("math/bits.deBruijn64tab", laid_math_bits_deBruijn64tab)], narrowed := true }
def PolyReckonsUptoSaid : Prop := polyReckonsUptoRow.holds Tryz.pinned (OpenSpec.upto polyReckonsSpec)

/-- 'fathomlinelaw10.PolyDrawn', WHERE WHAT IT READS IS OF BULK AT MOST 1048576: true; the input reads as it did. -/
def polyDrawnUptoRow : OpenClaim := { program := "ytgapammfekmihaagreatdoor", sum := "23f0cd8cd8d158624d067b376eb66853215906e2595b77ecb3b6132256006175", func := "fathomline/fathomlinelaw10.PolyDrawn", spec := "polyDrawn", inPlace := ["math/bits.Add64", "math/bits.Sub64"], unfollowed := true, recurses := true, named := ["math/bits.deBruijn64tab"], plainKeys := false, apart := false, laid := [("math/bits.deBruijn64tab", laid_math_bits_deBruijn64tab)], narrowed := true }
def PolyDrawnUptoSaid : Prop := polyDrawnUptoRow.holds Tryz.pinned (OpenSpec.upto polyDrawnSpec)

/-- 'fathomlinelaw10.PolyValues', WHERE WHAT IT READS IS OF BULK AT MOST 1048576: true; the input reads as it did. -/
def polyValuesUptoRow : OpenClaim := { program := "ytgapammfekmihaagreatdoor", sum := "23f0cd8cd8d158624d067b376eb66853215906e2595b77ecb3b6132256006175", func := "fathomline/fathomlinelaw10.PolyValues", spec := "polyValues", inPlace := ["math/bits.Add64", "math/bits.Sub64"], unfollowed := true, recurses := true, named := ["math/bits.deBruijn64tab"], plainKeys := false, apart := false, laid := [("math/bits.deBruijn64tab", laid_math_bits_deBruijn64tab)], narrowed := true }
def PolyValuesUptoSaid : Prop := polyValuesUptoRow.holds Tryz.pinned (OpenSpec.upto polyValuesSpec)

/-- 'fathomlinelaw10.PolyRings', WHERE WHAT IT READS IS OF BULK AT MOST 1048576: true; the input reads as it did. -/
def polyRingsUptoRow : OpenClaim := { program := "ytgapammfekmihaagreatdoor", sum := "23f0cd8cd8d158624d067b376eb66853215906e2595b77ecb3b6132256006175", func := "fathomline/fathomlinelaw10.PolyRings", spec := "polyRings", inPlace := ["math/bits.Add64", "math/bits.Sub64"], unfollowed := true, recurses := true, named := ["math/bits.deBruijn64tab"], plainKeys := false, apart := false, laid := [("math/bits.deBruijn64tab", laid_math_bits_deBruijn64tab)], narrowed := true }
def PolyRingsUptoSaid : Prop := polyRingsUptoRow.holds Tryz.pinned (OpenSpec.upto polyRingsSpec)

/-- 'fathomlinelaw10.PolyDerives', WHERE WHAT IT READS IS OF BULK AT MOST 1048576: true; the input reads as it did. -/
def polyDerivesUptoRow : OpenClaim := { program := "ytgapammfekmihaagreatdoor", sum := "23f0cd8cd8d158624d067b376eb66853215906e2595b77ecb3b6132256006175", func := "fathomline/fathomlinelaw10.PolyDerives", spec := "polyDerives", inPlace := ["math/bits.Add64", "math/bits.Sub64"], unfollowed := true, recurses := true, named := ["math/bits.deBruijn64tab"], plainKeys := false, apart := false, laid := [("math/bits.deBruijn64tab", laid_math_bits_deBruijn64tab)], narrowed := true }
def PolyDerivesUptoSaid : Prop := polyDerivesUptoRow.holds Tryz.pinned (OpenSpec.upto polyDerivesSpec)

/-- 'fathomlinelaw10.PolyHolds', WHERE WHAT IT READS IS OF BULK AT MOST 1048576: true; the input reads as it did. -/
def polyHoldsUptoRow : OpenClaim := { program := "ytgapammfekmihaagreatdoor", sum := "23f0cd8cd8d158624d067b376eb66853215906e2595b77ecb3b6132256006175", func := "fathomline/fathomlinelaw10.PolyHolds", spec := "polyHolds", inPlace := ["math/bits.Add64", "math/bits.Sub64"], unfollowed := true, recurses := true, named := ["math/bits.deBruijn64tab"], plainKeys := false, apart := false, laid := [("math/bits.deBruijn64tab", laid_math_bits_deBruijn64tab)], narrowed := true }
def PolyHoldsUptoSaid : Prop := polyHoldsUptoRow.holds Tryz.pinned (OpenSpec.upto polyHoldsSpec)

end Rows
end Go.Proofs.YtgapammfekmihaaGreatDoor
