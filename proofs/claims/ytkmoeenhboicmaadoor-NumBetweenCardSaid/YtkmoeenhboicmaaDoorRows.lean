/-
  NARROWER THAN 'FOR EVERY INPUT', by the rows' own cells (each row's printed sentence says how): NumRights: laid · NumMakes: laid · NumInts: laid · NumOrders: laid · NumReckons: laid · NumDrawn: laid · NumScales: laid · NumRings: laid · NumBetween: laid.
  DERIVED. THE GIVEN ROWS OF THIS SEAT. 9 by the template 'for every input the law returns true; each argument reads behind the call as it read before'; 0 by the template 'total and deterministic' (their statements: YtkmoeenhboicmaaDoorTotals.lean).
  GIVEN WITH THE SEED: the statements are not yours to turn. If you find one false, say at which input.
  Laid BY PROGRAM, IN A SANDBOX (cutbox-rows.mjs): the forced cells as the released guide's own fill.sh prints them over the translation f25649915163121f… (all of the seat's roots in one cut). By AI agents, Wed Nov 11 2026. No macro, syntax, notation, axiom, sorry.
-/
import Derived.Test.YtkmoeenhboicmaaDoorChecked
import GoSem.Claim
import GoSem.ClaimJoined
import GoSem.ClaimMapViews
import Derived.JoinedTies
import Derived.KernelRfl
namespace Go.Proofs.YtkmoeenhboicmaaDoor
/- THE CELL 'sum', in the pinned program and in every row, IS THE sha256 OF THE DUMP (.gsa) THAT YtkmoeenhboicmaaDoorProg.lean LOADS. Nothing in Lean hashes anything: it is a label: what it is worth is what the hold of that sum in a sandbox is worth. -/
noncomputable def Tryd.pinned : Pinned := { name := "ytkmoeenhboicmaadoor", sum := "f25649915163121fee48cd278c9a42248fa62dc5a2ccd1046c75ba5bb1843897", checked := Tryd.checked }
namespace Rows
def none {H : Type} : Left H := { results := [], args := [] }

/- WHAT THE LISTED PACKAGE-LEVEL VARIABLES READ AS WHEN THE CALL BEGINS. Each datum BY PROGRAM (the guide's laid-datum.mjs) off the statement by which the dump's own 'gosem.cut.vars' lays the variable. In a bare row this is a premise. The card (YtkmoeenhboicmaaDoorCards.lean) ties it to the program's text. -/
def laid_math_bits_deBruijn64tab {H : Type} : DataW H := .agg [.lit (.int .u8 0), .lit (.int .u8 1), .lit (.int .u8 56), .lit (.int .u8 2), .lit (.int .u8 57), .lit (.int .u8 49), .lit (.int .u8 28), .lit (.int .u8 3), .lit (.int .u8 61), .lit (.int .u8 58), .lit (.int .u8 42), .lit (.int .u8 50), .lit (.int .u8 38), .lit (.int .u8 29), .lit (.int .u8 17), .lit (.int .u8 4), .lit (.int .u8 62), .lit (.int .u8 47), .lit (.int .u8 59), .lit (.int .u8 36), .lit (.int .u8 45), .lit (.int .u8 43), .lit (.int .u8 51), .lit (.int .u8 22), .lit (.int .u8 53), .lit (.int .u8 39), .lit (.int .u8 33), .lit (.int .u8 30), .lit (.int .u8 24), .lit (.int .u8 18), .lit (.int .u8 12), .lit (.int .u8 5), .lit (.int .u8 63), .lit (.int .u8 55), .lit (.int .u8 48), .lit (.int .u8 27), .lit (.int .u8 60), .lit (.int .u8 41), .lit (.int .u8 37), .lit (.int .u8 16), .lit (.int .u8 46), .lit (.int .u8 35), .lit (.int .u8 44), .lit (.int .u8 21), .lit (.int .u8 52), .lit (.int .u8 32), .lit (.int .u8 23), .lit (.int .u8 11), .lit (.int .u8 54), .lit (.int .u8 26), .lit (.int .u8 40), .lit (.int .u8 15), .lit (.int .u8 34), .lit (.int .u8 20), .lit (.int .u8 31), .lit (.int .u8 10), .lit (.int .u8 25), .lit (.int .u8 14), .lit (.int .u8 19), .lit (.int .u8 9), .lit (.int .u8 13), .lit (.int .u8 8), .lit (.int .u8 7), .lit (.int .u8 6)]

/-- 'fathomlinelaw2.NumRights': WHATEVER THE INPUT: true; the input reads as it did. -/
def numRightsSpec : ChangeSpec := { name := "numRights", fn := fun _ => fun
  | [d1, d2] => { results := [.lit (.bool true)], args := [d1, d2] }
  | _ => none }
def numRightsRow : OpenClaim := { program := "ytkmoeenhboicmaadoor", sum := "f25649915163121fee48cd278c9a42248fa62dc5a2ccd1046c75ba5bb1843897", func := "fathomline/fathomlinelaw2.NumRights", spec := "numRights", inPlace := ["math/bits.Add64", "math/bits.Sub64"], unfollowed := true, recurses := true, named := ["math/bits.deBruijn64tab"], apart := false, laid := [("math/bits.deBruijn64tab", laid_math_bits_deBruijn64tab)] }
def NumRightsSaid : Prop := numRightsRow.holds Tryd.pinned (OpenSpec.ofChange numRightsSpec)

/-- ITS FALSE NEIGHBOUR: 'it returns false'. Refute it at one input. -/
def numRightsWrong : ChangeSpec := { name := "numRights", fn := fun _ => fun
  | [d1, d2] => { results := [.lit (.bool false)], args := [d1, d2] }
  | _ => none }
def NumRightsWrongFalsely : Prop := numRightsRow.holds Tryd.pinned (OpenSpec.ofChange numRightsWrong)

/-- 'fathomlinelaw2.NumMakes': WHATEVER THE INPUT: true; the input reads as it did. -/
def numMakesSpec : ChangeSpec := { name := "numMakes", fn := fun _ => fun
  | [d1, d2, d3] => { results := [.lit (.bool true)], args := [d1, d2, d3] }
  | _ => none }
def numMakesRow : OpenClaim := { program := "ytkmoeenhboicmaadoor", sum := "f25649915163121fee48cd278c9a42248fa62dc5a2ccd1046c75ba5bb1843897", func := "fathomline/fathomlinelaw2.NumMakes", spec := "numMakes", inPlace := ["math/bits.Add64", "math/bits.Sub64"], unfollowed := true, recurses := true, named := ["math/bits.deBruijn64tab"], apart := false, laid := [("math/bits.deBruijn64tab", laid_math_bits_deBruijn64tab)] }
def NumMakesSaid : Prop := numMakesRow.holds Tryd.pinned (OpenSpec.ofChange numMakesSpec)

/-- ITS FALSE NEIGHBOUR: 'it returns false'. Refute it at one input. -/
def numMakesWrong : ChangeSpec := { name := "numMakes", fn := fun _ => fun
  | [d1, d2, d3] => { results := [.lit (.bool false)], args := [d1, d2, d3] }
  | _ => none }
def NumMakesWrongFalsely : Prop := numMakesRow.holds Tryd.pinned (OpenSpec.ofChange numMakesWrong)

/-- 'fathomlinelaw2.NumInts': WHATEVER THE INPUT: true; the input reads as it did. -/
def numIntsSpec : ChangeSpec := { name := "numInts", fn := fun _ => fun
  | [d1, d2] => { results := [.lit (.bool true)], args := [d1, d2] }
  | _ => none }
def numIntsRow : OpenClaim := { program := "ytkmoeenhboicmaadoor", sum := "f25649915163121fee48cd278c9a42248fa62dc5a2ccd1046c75ba5bb1843897", func := "fathomline/fathomlinelaw2.NumInts", spec := "numInts", inPlace := ["math/bits.Add64", "math/bits.Sub64"], unfollowed := true, recurses := true, named := ["math/bits.deBruijn64tab"], apart := false, laid := [("math/bits.deBruijn64tab", laid_math_bits_deBruijn64tab)] }
def NumIntsSaid : Prop := numIntsRow.holds Tryd.pinned (OpenSpec.ofChange numIntsSpec)

/-- ITS FALSE NEIGHBOUR: 'it returns false'. Refute it at one input. -/
def numIntsWrong : ChangeSpec := { name := "numInts", fn := fun _ => fun
  | [d1, d2] => { results := [.lit (.bool false)], args := [d1, d2] }
  | _ => none }
def NumIntsWrongFalsely : Prop := numIntsRow.holds Tryd.pinned (OpenSpec.ofChange numIntsWrong)

/-- 'fathomlinelaw2.NumOrders': WHATEVER THE INPUT: true; the input reads as it did. -/
def numOrdersSpec : ChangeSpec := { name := "numOrders", fn := fun _ => fun
  | [d1, d2] => { results := [.lit (.bool true)], args := [d1, d2] }
  | _ => none }
def numOrdersRow : OpenClaim := { program := "ytkmoeenhboicmaadoor", sum := "f25649915163121fee48cd278c9a42248fa62dc5a2ccd1046c75ba5bb1843897", func := "fathomline/fathomlinelaw2.NumOrders", spec := "numOrders", inPlace := ["math/bits.Add64", "math/bits.Sub64"], unfollowed := true, recurses := true, named := ["math/bits.deBruijn64tab"], apart := false, laid := [("math/bits.deBruijn64tab", laid_math_bits_deBruijn64tab)] }
def NumOrdersSaid : Prop := numOrdersRow.holds Tryd.pinned (OpenSpec.ofChange numOrdersSpec)

/-- ITS FALSE NEIGHBOUR: 'it returns false'. Refute it at one input. -/
def numOrdersWrong : ChangeSpec := { name := "numOrders", fn := fun _ => fun
  | [d1, d2] => { results := [.lit (.bool false)], args := [d1, d2] }
  | _ => none }
def NumOrdersWrongFalsely : Prop := numOrdersRow.holds Tryd.pinned (OpenSpec.ofChange numOrdersWrong)

/-- 'fathomlinelaw2.NumReckons': WHATEVER THE INPUT: true; the input reads as it did. -/
def numReckonsSpec : ChangeSpec := { name := "numReckons", fn := fun _ => fun
  | [d1, d2] => { results := [.lit (.bool true)], args := [d1, d2] }
  | _ => none }
def numReckonsRow : OpenClaim := { program := "ytkmoeenhboicmaadoor", sum := "f25649915163121fee48cd278c9a42248fa62dc5a2ccd1046c75ba5bb1843897", func := "fathomline/fathomlinelaw2.NumReckons", spec := "numReckons", inPlace := ["math/bits.Add64", "math/bits.Sub64"], unfollowed := true, recurses := true, named := ["math/bits.deBruijn64tab"], apart := false, laid := [("math/bits.deBruijn64tab", laid_math_bits_deBruijn64tab)] }
def NumReckonsSaid : Prop := numReckonsRow.holds Tryd.pinned (OpenSpec.ofChange numReckonsSpec)

/-- ITS FALSE NEIGHBOUR: 'it returns false'. Refute it at one input. -/
def numReckonsWrong : ChangeSpec := { name := "numReckons", fn := fun _ => fun
  | [d1, d2] => { results := [.lit (.bool false)], args := [d1, d2] }
  | _ => none }
def NumReckonsWrongFalsely : Prop := numReckonsRow.holds Tryd.pinned (OpenSpec.ofChange numReckonsWrong)

/-- 'fathomlinelaw2.NumDrawn': WHATEVER THE INPUT: true; the input reads as it did. -/
def numDrawnSpec : ChangeSpec := { name := "numDrawn", fn := fun _ => fun
  | [d1, d2] => { results := [.lit (.bool true)], args := [d1, d2] }
  | _ => none }
def numDrawnRow : OpenClaim := { program := "ytkmoeenhboicmaadoor", sum := "f25649915163121fee48cd278c9a42248fa62dc5a2ccd1046c75ba5bb1843897", func := "fathomline/fathomlinelaw2.NumDrawn", spec := "numDrawn", inPlace := ["math/bits.Add64", "math/bits.Sub64"], unfollowed := true, recurses := true, named := ["math/bits.deBruijn64tab"], apart := false, laid := [("math/bits.deBruijn64tab", laid_math_bits_deBruijn64tab)] }
def NumDrawnSaid : Prop := numDrawnRow.holds Tryd.pinned (OpenSpec.ofChange numDrawnSpec)

/-- ITS FALSE NEIGHBOUR: 'it returns false'. Refute it at one input. -/
def numDrawnWrong : ChangeSpec := { name := "numDrawn", fn := fun _ => fun
  | [d1, d2] => { results := [.lit (.bool false)], args := [d1, d2] }
  | _ => none }
def NumDrawnWrongFalsely : Prop := numDrawnRow.holds Tryd.pinned (OpenSpec.ofChange numDrawnWrong)

/-- 'fathomlinelaw2.NumScales': WHATEVER THE INPUT: true; the input reads as it did. -/
def numScalesSpec : ChangeSpec := { name := "numScales", fn := fun _ => fun
  | [d1, d2] => { results := [.lit (.bool true)], args := [d1, d2] }
  | _ => none }
def numScalesRow : OpenClaim := { program := "ytkmoeenhboicmaadoor", sum := "f25649915163121fee48cd278c9a42248fa62dc5a2ccd1046c75ba5bb1843897", func := "fathomline/fathomlinelaw2.NumScales", spec := "numScales", inPlace := ["math/bits.Add64", "math/bits.Sub64"], unfollowed := true, recurses := true, named := ["math/bits.deBruijn64tab"], apart := false, laid := [("math/bits.deBruijn64tab", laid_math_bits_deBruijn64tab)] }
def NumScalesSaid : Prop := numScalesRow.holds Tryd.pinned (OpenSpec.ofChange numScalesSpec)

/-- ITS FALSE NEIGHBOUR: 'it returns false'. Refute it at one input. -/
def numScalesWrong : ChangeSpec := { name := "numScales", fn := fun _ => fun
  | [d1, d2] => { results := [.lit (.bool false)], args := [d1, d2] }
  | _ => none }
def NumScalesWrongFalsely : Prop := numScalesRow.holds Tryd.pinned (OpenSpec.ofChange numScalesWrong)

/-- 'fathomlinelaw2.NumRings': WHATEVER THE INPUT: true; the input reads as it did. -/
def numRingsSpec : ChangeSpec := { name := "numRings", fn := fun _ => fun
  | [d] => { results := [.lit (.bool true)], args := [d] }
  | _ => none }
def numRingsRow : OpenClaim := { program := "ytkmoeenhboicmaadoor", sum := "f25649915163121fee48cd278c9a42248fa62dc5a2ccd1046c75ba5bb1843897", func := "fathomline/fathomlinelaw2.NumRings", spec := "numRings", inPlace := ["math/bits.Add64", "math/bits.Sub64"], unfollowed := true, recurses := true, named := ["math/bits.deBruijn64tab"], apart := false, laid := [("math/bits.deBruijn64tab", laid_math_bits_deBruijn64tab)] }
def NumRingsSaid : Prop := numRingsRow.holds Tryd.pinned (OpenSpec.ofChange numRingsSpec)

/-- ITS FALSE NEIGHBOUR: 'it returns false'. Refute it at one input. -/
def numRingsWrong : ChangeSpec := { name := "numRings", fn := fun _ => fun
  | [d] => { results := [.lit (.bool false)], args := [d] }
  | _ => none }
def NumRingsWrongFalsely : Prop := numRingsRow.holds Tryd.pinned (OpenSpec.ofChange numRingsWrong)

/-- 'fathomlinelaw2.NumBetween': WHATEVER THE INPUT: true; the input reads as it did. -/
def numBetweenSpec : ChangeSpec := { name := "numBetween", fn := fun _ => fun
  | [d] => { results := [.lit (.bool true)], args := [d] }
  | _ => none }
def numBetweenRow : OpenClaim := { program := "ytkmoeenhboicmaadoor", sum := "f25649915163121fee48cd278c9a42248fa62dc5a2ccd1046c75ba5bb1843897", func := "fathomline/fathomlinelaw2.NumBetween", spec := "numBetween", inPlace := ["math/bits.Add64", "math/bits.Sub64"], unfollowed := true, recurses := true, named := ["math/bits.deBruijn64tab"], apart := false, laid := [("math/bits.deBruijn64tab", laid_math_bits_deBruijn64tab)] }
def NumBetweenSaid : Prop := numBetweenRow.holds Tryd.pinned (OpenSpec.ofChange numBetweenSpec)

/-- ITS FALSE NEIGHBOUR: 'it returns false'. Refute it at one input. -/
def numBetweenWrong : ChangeSpec := { name := "numBetween", fn := fun _ => fun
  | [d] => { results := [.lit (.bool false)], args := [d] }
  | _ => none }
def NumBetweenWrongFalsely : Prop := numBetweenRow.holds Tryd.pinned (OpenSpec.ofChange numBetweenWrong)

/- THE SECOND FORM. 'bulk': how many values and letters a reading holds, each counted each time it is reached (what is shared counts as often as it is met; a slice's spare places count too). A statement '..UptoSaid' is the law's where the arguments, and the package variables that the reading takes, are together of bulk at most 1048576: NARROWER than '..Said'. Prove '..Said' where nothing that the law and all that it calls make is longer than what came in: it says more and counts as full. Else prove '..UptoSaid'. A law counts once. -/
mutual
def uptoBulk {H : Type} : DataW H → Nat
  | .lit (.string bytes) => bytes.length + 1
  | .lit _ => 1
  | .nil => 1
  | .ptr d => uptoBulk d + 1
  | .slice elems spare => uptoBulkAll elems + uptoBulkAll spare + 1
  | .agg parts => uptoBulkAll parts + 1
  | .iface _ d => uptoBulk d + 1
  | .map entries => uptoBulkEntries entries + 1
  | .held _ => 1
def uptoBulkAll {H : Type} : List (DataW H) → Nat
  | [] => 0
  | d :: r => uptoBulk d + uptoBulkAll r
def uptoBulkEntries {H : Type} : List (Lit × DataW H) → Nat
  | [] => 0
  | x :: r => uptoBulkEntry x + uptoBulkEntries r
def uptoBulkEntry {H : Type} : Lit × DataW H → Nat
  | (.string bytes, d) => bytes.length + uptoBulk d + 1
  | (_, d) => uptoBulk d + 1
 end
def uptoSmall : (H : Type) → List (DataW H) → Bool := fun _ ds => decide (uptoBulkAll ds ≤ 1048576)
def OpenSpec.upto (s : _root_.Go.ChangeSpec) : _root_.Go.OpenSpec := { _root_.Go.OpenSpec.ofChange s with cond := some uptoSmall }

/-- 'fathomlinelaw2.NumRights', WHERE WHAT IT READS IS OF BULK AT MOST 1048576: true; the input reads as it did. -/
def numRightsUptoRow : OpenClaim := { program := "ytkmoeenhboicmaadoor", sum := "f25649915163121fee48cd278c9a42248fa62dc5a2ccd1046c75ba5bb1843897", func := "fathomline/fathomlinelaw2.NumRights", spec := "numRights", inPlace := ["math/bits.Add64", "math/bits.Sub64"], unfollowed := true, recurses := true, named := ["math/bits.deBruijn64tab"], apart := false, laid := [("math/bits.deBruijn64tab", laid_math_bits_deBruijn64tab)], narrowed := true }
def NumRightsUptoSaid : Prop := numRightsUptoRow.holds Tryd.pinned (OpenSpec.upto numRightsSpec)

/-- 'fathomlinelaw2.NumMakes', WHERE WHAT IT READS IS OF BULK AT MOST 1048576: true; the input reads as it did. -/
def numMakesUptoRow : OpenClaim := { program := "ytkmoeenhboicmaadoor", sum := "f25649915163121fee48cd278c9a42248fa62dc5a2ccd1046c75ba5bb1843897", func := "fathomline/fathomlinelaw2.NumMakes", spec := "numMakes", inPlace := ["math/bits.Add64", "math/bits.Sub64"], unfollowed := true, recurses := true, named := ["math/bits.deBruijn64tab"], apart := false, laid := [("math/bits.deBruijn64tab", laid_math_bits_deBruijn64tab)], narrowed := true }
def NumMakesUptoSaid : Prop := numMakesUptoRow.holds Tryd.pinned (OpenSpec.upto numMakesSpec)

/-- 'fathomlinelaw2.NumInts', WHERE WHAT IT READS IS OF BULK AT MOST 1048576: true; the input reads as it did. -/
def numIntsUptoRow : OpenClaim := { program := "ytkmoeenhboicmaadoor", sum := "f25649915163121fee48cd278c9a42248fa62dc5a2ccd1046c75ba5bb1843897", func := "fathomline/fathomlinelaw2.NumInts", spec := "numInts", inPlace := ["math/bits.Add64", "math/bits.Sub64"], unfollowed := true, recurses := true, named := ["math/bits.deBruijn64tab"], apart := false, laid := [("math/bits.deBruijn64tab", laid_math_bits_deBruijn64tab)], narrowed := true }
def NumIntsUptoSaid : Prop := numIntsUptoRow.holds Tryd.pinned (OpenSpec.upto numIntsSpec)

/-- 'fathomlinelaw2.NumOrders', WHERE WHAT IT READS IS OF BULK AT MOST 1048576: true; the input reads as it did. -/
def numOrdersUptoRow : OpenClaim := { program := "ytkmoeenhboicmaadoor", sum := "f25649915163121fee48cd278c9a42248fa62dc5a2ccd1046c75ba5bb1843897", func := "fathomline/fathomlinelaw2.NumOrders", spec := "numOrders", inPlace := ["math/bits.Add64", "math/bits.Sub64"], unfollowed := true, recurses := true, named := ["math/bits.deBruijn64tab"], apart := false, laid := [("math/bits.deBruijn64tab", laid_math_bits_deBruijn64tab)], narrowed := true }
def NumOrdersUptoSaid : Prop := numOrdersUptoRow.holds Tryd.pinned (OpenSpec.upto numOrdersSpec)

/-- 'fathomlinelaw2.NumReckons', WHERE WHAT IT READS IS OF BULK AT MOST 1048576: true; the input reads as it did. -/
def numReckonsUptoRow : OpenClaim := { program := "ytkmoeenhboicmaadoor", sum := "f25649915163121fee48cd278c9a42248fa62dc5a2ccd1046c75ba5bb1843897", func := "fathomline/fathomlinelaw2.NumReckons", spec := "numReckons", inPlace := ["math/bits.Add64", "math/bits.Sub64"], unfollowed := true, recurses := true, named := ["math/bits.deBruijn64tab"], apart := false, laid := [("math/bits.deBruijn64tab", laid_math_bits_deBruijn64tab)], narrowed := true }
def NumReckonsUptoSaid : Prop := numReckonsUptoRow.holds Tryd.pinned (OpenSpec.upto numReckonsSpec)

/-- 'fathomlinelaw2.NumDrawn', WHERE WHAT IT READS IS OF BULK AT MOST 1048576: true; the input reads as it did. -/
def numDrawnUptoRow : OpenClaim := { program := "ytkmoeenhboicmaadoor", sum := "f25649915163121fee48cd278c9a42248fa62dc5a2ccd1046c75ba5bb1843897", func := "fathomline/fathomlinelaw2.NumDrawn", spec := "numDrawn", inPlace := ["math/bits.Add64", "math/bits.Sub64"], unfollowed := true, recurses := true, named := ["math/bits.deBruijn64tab"], apart := false, laid := [("math/bits.deBruijn64tab", laid_math_bits_deBruijn64tab)], narrowed := true }
def NumDrawnUptoSaid : Prop := numDrawnUptoRow.holds Tryd.pinned (OpenSpec.upto numDrawnSpec)

/-- 'fathomlinelaw2.NumScales', WHERE WHAT IT READS IS OF BULK AT MOST 1048576: true; the input reads as it did. -/
def numScalesUptoRow : OpenClaim := { program := "ytkmoeenhboicmaadoor", sum := "f25649915163121fee48cd278c9a42248fa62dc5a2ccd1046c75ba5bb1843897", func := "fathomline/fathomlinelaw2.NumScales", spec := "numScales", inPlace := ["math/bits.Add64", "math/bits.Sub64"], unfollowed := true, recurses := true, named := ["math/bits.deBruijn64tab"], apart := false, laid := [("math/bits.deBruijn64tab", laid_math_bits_deBruijn64tab)], narrowed := true }
def NumScalesUptoSaid : Prop := numScalesUptoRow.holds Tryd.pinned (OpenSpec.upto numScalesSpec)

/-- 'fathomlinelaw2.NumRings', WHERE WHAT IT READS IS OF BULK AT MOST 1048576: true; the input reads as it did. -/
def numRingsUptoRow : OpenClaim := { program := "ytkmoeenhboicmaadoor", sum := "f25649915163121fee48cd278c9a42248fa62dc5a2ccd1046c75ba5bb1843897", func := "fathomline/fathomlinelaw2.NumRings", spec := "numRings", inPlace := ["math/bits.Add64", "math/bits.Sub64"], unfollowed := true, recurses := true, named := ["math/bits.deBruijn64tab"], apart := false, laid := [("math/bits.deBruijn64tab", laid_math_bits_deBruijn64tab)], narrowed := true }
def NumRingsUptoSaid : Prop := numRingsUptoRow.holds Tryd.pinned (OpenSpec.upto numRingsSpec)

/-- 'fathomlinelaw2.NumBetween', WHERE WHAT IT READS IS OF BULK AT MOST 1048576: true; the input reads as it did. -/
def numBetweenUptoRow : OpenClaim := { program := "ytkmoeenhboicmaadoor", sum := "f25649915163121fee48cd278c9a42248fa62dc5a2ccd1046c75ba5bb1843897", func := "fathomline/fathomlinelaw2.NumBetween", spec := "numBetween", inPlace := ["math/bits.Add64", "math/bits.Sub64"], unfollowed := true, recurses := true, named := ["math/bits.deBruijn64tab"], apart := false, laid := [("math/bits.deBruijn64tab", laid_math_bits_deBruijn64tab)], narrowed := true }
def NumBetweenUptoSaid : Prop := numBetweenUptoRow.holds Tryd.pinned (OpenSpec.upto numBetweenSpec)

end Rows
end Go.Proofs.YtkmoeenhboicmaaDoor
