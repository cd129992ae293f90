/-
  NARROWER THAN 'FOR EVERY INPUT', by the rows' own cells (each row's printed sentence says how): SeriesAny: laid · SeriesDrawn: laid · SeriesHolds: laid · SeriesLess: laid.
  DERIVED. THE GIVEN ROWS OF THIS SEAT. 4 by the template 'for every input the law returns true; each argument reads behind the call as it read before'; 0 by the template 'total and deterministic' (their statements: YtklilekbokialaaGreatDoorTotals.lean).
  GIVEN WITH THE SEED: the statements are not yours to turn. If you find one false, say at which input.
  Laid BY PROGRAM, IN A SANDBOX (cutbox-rows.mjs): the forced cells as the released guide's own fill.sh prints them over the translation 993eade48210429a… (all of the seat's roots in one cut). By AI agents, Wed Nov 11 2026. No macro, syntax, notation, axiom, sorry.
-/
import Derived.Test.YtklilekbokialaaGreatDoorChecked
import GoSem.Claim
import GoSem.ClaimJoined
import GoSem.ClaimMapViews
import Derived.JoinedTies
import Derived.KernelRfl
namespace Go.Proofs.YtklilekbokialaaGreatDoor
/- THE CELL 'sum', in the pinned program and in every row, IS THE sha256 OF THE DUMP (.gsa) THAT YtklilekbokialaaGreatDoorProg.lean LOADS. Nothing in Lean hashes anything: it is a label: what it is worth is what the hold of that sum in a sandbox is worth. -/
noncomputable def Tryz.pinned : Pinned := { name := "ytklilekbokialaagreatdoor", sum := "993eade48210429a1a8d6bc6e97743c28af0cd02917bc5a20af09f01b2aec1fe", checked := Tryz.checked }
namespace Rows
def none {H : Type} : Left H := { results := [], args := [] }

/- WHAT THE LISTED PACKAGE-LEVEL VARIABLES READ AS WHEN THE CALL BEGINS. Each datum BY PROGRAM (the guide's laid-datum.mjs) off the statement by which the dump's own 'gosem.cut.vars' lays the variable. In a bare row this is a premise. The card (YtklilekbokialaaGreatDoorCards.lean) ties it to the program's text. -/
def laid_math_bits_deBruijn64tab {H : Type} : DataW H := .agg [.lit (.int .u8 0), .lit (.int .u8 1), .lit (.int .u8 56), .lit (.int .u8 2), .lit (.int .u8 57), .lit (.int .u8 49), .lit (.int .u8 28), .lit (.int .u8 3), .lit (.int .u8 61), .lit (.int .u8 58), .lit (.int .u8 42), .lit (.int .u8 50), .lit (.int .u8 38), .lit (.int .u8 29), .lit (.int .u8 17), .lit (.int .u8 4), .lit (.int .u8 62), .lit (.int .u8 47), .lit (.int .u8 59), .lit (.int .u8 36), .lit (.int .u8 45), .lit (.int .u8 43), .lit (.int .u8 51), .lit (.int .u8 22), .lit (.int .u8 53), .lit (.int .u8 39), .lit (.int .u8 33), .lit (.int .u8 30), .lit (.int .u8 24), .lit (.int .u8 18), .lit (.int .u8 12), .lit (.int .u8 5), .lit (.int .u8 63), .lit (.int .u8 55), .lit (.int .u8 48), .lit (.int .u8 27), .lit (.int .u8 60), .lit (.int .u8 41), .lit (.int .u8 37), .lit (.int .u8 16), .lit (.int .u8 46), .lit (.int .u8 35), .lit (.int .u8 44), .lit (.int .u8 21), .lit (.int .u8 52), .lit (.int .u8 32), .lit (.int .u8 23), .lit (.int .u8 11), .lit (.int .u8 54), .lit (.int .u8 26), .lit (.int .u8 40), .lit (.int .u8 15), .lit (.int .u8 34), .lit (.int .u8 20), .lit (.int .u8 31), .lit (.int .u8 10), .lit (.int .u8 25), .lit (.int .u8 14), .lit (.int .u8 19), .lit (.int .u8 9), .lit (.int .u8 13), .lit (.int .u8 8), .lit (.int .u8 7), .lit (.int .u8 6)]

/-- 'fathomlinelaw14.SeriesAny': WHATEVER THE INPUT: true; the input reads as it did. -/
def seriesAnySpec : ChangeSpec := { name := "seriesAny", fn := fun _ => fun
  | [d1, d2, d3, d4, d5, d6] => { results := [.lit (.bool true)], args := [d1, d2, d3, d4, d5, d6] }
  | _ => none }
def seriesAnyRow : OpenClaim := { program := "ytklilekbokialaagreatdoor", sum := "993eade48210429a1a8d6bc6e97743c28af0cd02917bc5a20af09f01b2aec1fe", func := "fathomline/fathomlinelaw14.SeriesAny", spec := "seriesAny", inPlace := ["math/bits.Add64", "math/bits.Sub64"], unfollowed := true, recurses := true, named := ["math/bits.deBruijn64tab"], apart := false, laid := [("math/bits.deBruijn64tab", laid_math_bits_deBruijn64tab)] }
def SeriesAnySaid : Prop := seriesAnyRow.holds Tryz.pinned (OpenSpec.ofChange seriesAnySpec)

/-- ITS FALSE NEIGHBOUR: 'it returns false'. Refute it at one input. -/
def seriesAnyWrong : ChangeSpec := { name := "seriesAny", fn := fun _ => fun
  | [d1, d2, d3, d4, d5, d6] => { results := [.lit (.bool false)], args := [d1, d2, d3, d4, d5, d6] }
  | _ => none }
def SeriesAnyWrongFalsely : Prop := seriesAnyRow.holds Tryz.pinned (OpenSpec.ofChange seriesAnyWrong)

/-- 'fathomlinelaw14.SeriesDrawn': WHATEVER THE INPUT: true; the input reads as it did. -/
def seriesDrawnSpec : ChangeSpec := { name := "seriesDrawn", fn := fun _ => fun
  | [d] => { results := [.lit (.bool true)], args := [d] }
  | _ => none }
def seriesDrawnRow : OpenClaim := { program := "ytklilekbokialaagreatdoor", sum := "993eade48210429a1a8d6bc6e97743c28af0cd02917bc5a20af09f01b2aec1fe", func := "fathomline/fathomlinelaw14.SeriesDrawn", spec := "seriesDrawn", inPlace := ["math/bits.Add64", "math/bits.Sub64"], unfollowed := true, recurses := true, named := ["math/bits.deBruijn64tab"], apart := false, laid := [("math/bits.deBruijn64tab", laid_math_bits_deBruijn64tab)] }
def SeriesDrawnSaid : Prop := seriesDrawnRow.holds Tryz.pinned (OpenSpec.ofChange seriesDrawnSpec)

/-- ITS FALSE NEIGHBOUR: 'it returns false'. Refute it at one input. -/
def seriesDrawnWrong : ChangeSpec := { name := "seriesDrawn", fn := fun _ => fun
  | [d] => { results := [.lit (.bool false)], args := [d] }
  | _ => none }
def SeriesDrawnWrongFalsely : Prop := seriesDrawnRow.holds Tryz.pinned (OpenSpec.ofChange seriesDrawnWrong)

/-- 'fathomlinelaw14.SeriesHolds': WHATEVER THE INPUT: true; the input reads as it did. -/
def seriesHoldsSpec : ChangeSpec := { name := "seriesHolds", fn := fun _ => fun
  | [d] => { results := [.lit (.bool true)], args := [d] }
  | _ => none }
def seriesHoldsRow : OpenClaim := { program := "ytklilekbokialaagreatdoor", sum := "993eade48210429a1a8d6bc6e97743c28af0cd02917bc5a20af09f01b2aec1fe", func := "fathomline/fathomlinelaw14.SeriesHolds", spec := "seriesHolds", inPlace := ["math/bits.Add64", "math/bits.Sub64"], unfollowed := true, recurses := true, named := ["math/bits.deBruijn64tab"], apart := false, laid := [("math/bits.deBruijn64tab", laid_math_bits_deBruijn64tab)] }
def SeriesHoldsSaid : Prop := seriesHoldsRow.holds Tryz.pinned (OpenSpec.ofChange seriesHoldsSpec)

/-- ITS FALSE NEIGHBOUR: 'it returns false'. Refute it at one input. -/
def seriesHoldsWrong : ChangeSpec := { name := "seriesHolds", fn := fun _ => fun
  | [d] => { results := [.lit (.bool false)], args := [d] }
  | _ => none }
def SeriesHoldsWrongFalsely : Prop := seriesHoldsRow.holds Tryz.pinned (OpenSpec.ofChange seriesHoldsWrong)

/-- 'fathomlinelaw14.SeriesLess': WHATEVER THE INPUT: true; the input reads as it did. -/
def seriesLessSpec : ChangeSpec := { name := "seriesLess", fn := fun _ => fun
  | [d] => { results := [.lit (.bool true)], args := [d] }
  | _ => none }
def seriesLessRow : OpenClaim := { program := "ytklilekbokialaagreatdoor", sum := "993eade48210429a1a8d6bc6e97743c28af0cd02917bc5a20af09f01b2aec1fe", func := "fathomline/fathomlinelaw14.SeriesLess", spec := "seriesLess", inPlace := ["math/bits.Add64", "math/bits.Sub64"], unfollowed := true, recurses := true, named := ["math/bits.deBruijn64tab"], apart := false, laid := [("math/bits.deBruijn64tab", laid_math_bits_deBruijn64tab)] }
def SeriesLessSaid : Prop := seriesLessRow.holds Tryz.pinned (OpenSpec.ofChange seriesLessSpec)

/-- ITS FALSE NEIGHBOUR: 'it returns false'. Refute it at one input. -/
def seriesLessWrong : ChangeSpec := { name := "seriesLess", fn := fun _ => fun
  | [d] => { results := [.lit (.bool false)], args := [d] }
  | _ => none }
def SeriesLessWrongFalsely : Prop := seriesLessRow.holds Tryz.pinned (OpenSpec.ofChange seriesLessWrong)

/- THE SECOND FORM. 'bulk': how many values and letters a reading holds, each counted each time it is reached (what is shared counts as often as it is met; a slice's spare places count too). A statement '..UptoSaid' is the law's where the arguments, and the package variables that the reading takes, are together of bulk at most 1048576: NARROWER than '..Said'. Prove '..Said' where nothing that the law and all that it calls make is longer than what came in: it says more and counts as full. Else prove '..UptoSaid'. A law counts once. -/
mutual
def uptoBulk {H : Type} : DataW H → Nat
  | .lit (.string bytes) => bytes.length + 1
  | .lit _ => 1
  | .nil => 1
  | .ptr d => uptoBulk d + 1
  | .slice elems spare => uptoBulkAll elems + uptoBulkAll spare + 1
  | .agg parts => uptoBulkAll parts + 1
  | .iface _ d => uptoBulk d + 1
  | .map entries => uptoBulkEntries entries + 1
  | .held _ => 1
def uptoBulkAll {H : Type} : List (DataW H) → Nat
  | [] => 0
  | d :: r => uptoBulk d + uptoBulkAll r
def uptoBulkEntries {H : Type} : List (Lit × DataW H) → Nat
  | [] => 0
  | x :: r => uptoBulkEntry x + uptoBulkEntries r
def uptoBulkEntry {H : Type} : Lit × DataW H → Nat
  | (.string bytes, d) => bytes.length + uptoBulk d + 1
  | (_, d) => uptoBulk d + 1
 end
def uptoSmall : (H : Type) → List (DataW H) → Bool := fun _ ds => decide (uptoBulkAll ds ≤ 1048576)
def OpenSpec.upto (s : _root_.Go.ChangeSpec) : _root_.Go.OpenSpec := { _root_.Go.OpenSpec.ofChange s with cond := some uptoSmall }

/-- 'fathomlinelaw14.SeriesAny', WHERE WHAT IT READS IS OF BULK AT MOST 1048576: true; the input reads as it did. -/
def seriesAnyUptoRow : OpenClaim := { program := "ytklilekbokialaagreatdoor", sum := "993eade48210429a1a8d6bc6e97743c28af0cd02917bc5a20af09f01b2aec1fe", func := "fathomline/fathomlinelaw14.SeriesAny", spec := "seriesAny", inPlace := ["math/bits.Add64", "math/bits.Sub64"], unfollowed := true, recurses := true, named := ["math/bits.deBruijn64tab"], apart := false, laid := [("math/bits.deBruijn64tab", laid_math_bits_deBruijn64tab)], narrowed := true }
def SeriesAnyUptoSaid : Prop := seriesAnyUptoRow.holds Tryz.pinned (OpenSpec.upto seriesAnySpec)

/-- 'fathomlinelaw14.SeriesDrawn', WHERE WHAT IT READS IS OF BULK AT MOST 1048576: true; the input reads as it did. -/
def seriesDrawnUptoRow : OpenClaim := { program := "ytklilekbokialaagreatdoor", sum := "993eade48210429a1a8d6bc6e97743c28af0cd02917bc5a20af09f01b2aec1fe", func := "fathomline/fathomlinelaw14.SeriesDrawn", spec := "seriesDrawn", inPlace := ["math/bits.Add64", "math/bits.Sub64"], unfollowed := true, recurses := true, named := ["math/bits.deBruijn64tab"], apart := false, laid := [("math/bits.deBruijn64tab", laid_math_bits_deBruijn64tab)], narrowed := true }
def SeriesDrawnUptoSaid : Prop := seriesDrawnUptoRow.holds Tryz.pinned (OpenSpec.upto seriesDrawnSpec)

/-- 'fathomlinelaw14.SeriesHolds', WHERE WHAT IT READS IS OF BULK AT MOST 1048576: true; the input reads as it did. -/
def seriesHoldsUptoRow : OpenClaim := { program := "ytklilekbokialaagreatdoor", sum := "993eade48210429a1a8d6bc6e97743c28af0cd02917bc5a20af09f01b2aec1fe", func := "fathomline/fathomlinelaw14.SeriesHolds", spec := "seriesHolds", inPlace := ["math/bits.Add64", "math/bits.Sub64"], unfollowed := true, recurses := true, named := ["math/bits.deBruijn64tab"], apart := false, laid := [("math/bits.deBruijn64tab", laid_math_bits_deBruijn64tab)], narrowed := true }
def SeriesHoldsUptoSaid : Prop := seriesHoldsUptoRow.holds Tryz.pinned (OpenSpec.upto seriesHoldsSpec)

/-- 'fathomlinelaw14.SeriesLess', WHERE WHAT IT READS IS OF BULK AT MOST 1048576: true; the input reads as it did. -/
def seriesLessUptoRow : OpenClaim := { program := "ytklilekbokialaagreatdoor", sum := "993eade48210429a1a8d6bc6e97743c28af0cd02917bc5a20af09f01b2aec1fe", func := "fathomline/fathomlinelaw14.SeriesLess", spec := "seriesLess", inPlace := ["math/bits.Add64", "math/bits.Sub64"], unfollowed := true, recurses := true, named := ["math/bits.deBruijn64tab"], apart := false, laid := [("math/bits.deBruijn64tab", laid_math_bits_deBruijn64tab)], narrowed := true }
def SeriesLessUptoSaid : Prop := seriesLessUptoRow.holds Tryz.pinned (OpenSpec.upto seriesLessSpec)

end Rows
end Go.Proofs.YtklilekbokialaaGreatDoor
