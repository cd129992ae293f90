/-
  NARROWER THAN 'FOR EVERY INPUT', by the rows' own cells (each row's printed sentence says how): RoundFits: laid · RoundReckons: laid · RoundDrawn: laid · RoundDivides: laid · RoundRises: laid · RoundBetween: laid.
  DERIVED. THE GIVEN ROWS OF THIS SEAT. 6 by the template 'for every input the law returns true; each argument reads behind the call as it read before'; 0 by the template 'total and deterministic' (their statements: YtjilhcofkcnplaaDoorTotals.lean).
  GIVEN WITH THE SEED: the statements are not yours to turn. If you find one false, say at which input.
  Laid BY PROGRAM, IN A SANDBOX (cutbox-rows.mjs): the forced cells as the released guide's own fill.sh prints them over the translation 475db17efc16dc00… (all of the seat's roots in one cut). By AI agents, Wed Nov 11 2026. No macro, syntax, notation, axiom, sorry.
-/
import Derived.Test.YtjilhcofkcnplaaDoorChecked
import GoSem.Claim
import GoSem.ClaimJoined
import GoSem.ClaimMapViews
import Derived.JoinedTies
import Derived.KernelRfl
namespace Go.Proofs.YtjilhcofkcnplaaDoor
/- THE CELL 'sum', in the pinned program and in every row, IS THE sha256 OF THE DUMP (.gsa) THAT YtjilhcofkcnplaaDoorProg.lean LOADS. Nothing in Lean hashes anything: it is a label: what it is worth is what the hold of that sum in a sandbox is worth. -/
noncomputable def Tryd.pinned : Pinned := { name := "ytjilhcofkcnplaadoor", sum := "475db17efc16dc00d26f43deb5bbb2d27b735f76a1b167114d7bb168f7566bfe", checked := Tryd.checked }
namespace Rows
def none {H : Type} : Left H := { results := [], args := [] }

/- WHAT THE LISTED PACKAGE-LEVEL VARIABLES READ AS WHEN THE CALL BEGINS. Each datum BY PROGRAM (the guide's laid-datum.mjs) off the statement by which the dump's own 'gosem.cut.vars' lays the variable. In a bare row this is a premise. The card (YtjilhcofkcnplaaDoorCards.lean) ties it to the program's text. -/
def laid_math_bits_deBruijn64tab {H : Type} : DataW H := .agg [.lit (.int .u8 0), .lit (.int .u8 1), .lit (.int .u8 56), .lit (.int .u8 2), .lit (.int .u8 57), .lit (.int .u8 49), .lit (.int .u8 28), .lit (.int .u8 3), .lit (.int .u8 61), .lit (.int .u8 58), .lit (.int .u8 42), .lit (.int .u8 50), .lit (.int .u8 38), .lit (.int .u8 29), .lit (.int .u8 17), .lit (.int .u8 4), .lit (.int .u8 62), .lit (.int .u8 47), .lit (.int .u8 59), .lit (.int .u8 36), .lit (.int .u8 45), .lit (.int .u8 43), .lit (.int .u8 51), .lit (.int .u8 22), .lit (.int .u8 53), .lit (.int .u8 39), .lit (.int .u8 33), .lit (.int .u8 30), .lit (.int .u8 24), .lit (.int .u8 18), .lit (.int .u8 12), .lit (.int .u8 5), .lit (.int .u8 63), .lit (.int .u8 55), .lit (.int .u8 48), .lit (.int .u8 27), .lit (.int .u8 60), .lit (.int .u8 41), .lit (.int .u8 37), .lit (.int .u8 16), .lit (.int .u8 46), .lit (.int .u8 35), .lit (.int .u8 44), .lit (.int .u8 21), .lit (.int .u8 52), .lit (.int .u8 32), .lit (.int .u8 23), .lit (.int .u8 11), .lit (.int .u8 54), .lit (.int .u8 26), .lit (.int .u8 40), .lit (.int .u8 15), .lit (.int .u8 34), .lit (.int .u8 20), .lit (.int .u8 31), .lit (.int .u8 10), .lit (.int .u8 25), .lit (.int .u8 14), .lit (.int .u8 19), .lit (.int .u8 9), .lit (.int .u8 13), .lit (.int .u8 8), .lit (.int .u8 7), .lit (.int .u8 6)]

/-- 'fathomlinelaw3.RoundFits': WHATEVER THE INPUT: true; the input reads as it did. -/
def roundFitsSpec : ChangeSpec := { name := "roundFits", fn := fun _ => fun
  | [d1, d2, d3] => { results := [.lit (.bool true)], args := [d1, d2, d3] }
  | _ => none }
def roundFitsRow : OpenClaim := { program := "ytjilhcofkcnplaadoor", sum := "475db17efc16dc00d26f43deb5bbb2d27b735f76a1b167114d7bb168f7566bfe", func := "fathomline/fathomlinelaw3.RoundFits", spec := "roundFits", inPlace := ["math/bits.Add64", "math/bits.Sub64"], unfollowed := true, recurses := true, named := ["math/bits.divideError", "math/bits.overflowError", "math/bits.deBruijn64tab"], apart := false, laid := [("math/bits.deBruijn64tab", laid_math_bits_deBruijn64tab)] }
def RoundFitsSaid : Prop := roundFitsRow.holds Tryd.pinned (OpenSpec.ofChange roundFitsSpec)

/-- ITS FALSE NEIGHBOUR: 'it returns false'. Refute it at one input. -/
def roundFitsWrong : ChangeSpec := { name := "roundFits", fn := fun _ => fun
  | [d1, d2, d3] => { results := [.lit (.bool false)], args := [d1, d2, d3] }
  | _ => none }
def RoundFitsWrongFalsely : Prop := roundFitsRow.holds Tryd.pinned (OpenSpec.ofChange roundFitsWrong)

/-- 'fathomlinelaw3.RoundReckons': WHATEVER THE INPUT: true; the input reads as it did. -/
def roundReckonsSpec : ChangeSpec := { name := "roundReckons", fn := fun _ => fun
  | [d1, d2, d3, d4] => { results := [.lit (.bool true)], args := [d1, d2, d3, d4] }
  | _ => none }
def roundReckonsRow : OpenClaim := { program := "ytjilhcofkcnplaadoor", sum := "475db17efc16dc00d26f43deb5bbb2d27b735f76a1b167114d7bb168f7566bfe", func := "fathomline/fathomlinelaw3.RoundReckons", spec := "roundReckons", inPlace := ["math/bits.Add64", "math/bits.Sub64"], unfollowed := true, recurses := true, named := ["math/bits.divideError", "math/bits.overflowError", "math/bits.deBruijn64tab"], apart := false, laid := [("math/bits.deBruijn64tab", laid_math_bits_deBruijn64tab)] }
def RoundReckonsSaid : Prop := roundReckonsRow.holds Tryd.pinned (OpenSpec.ofChange roundReckonsSpec)

/-- ITS FALSE NEIGHBOUR: 'it returns false'. Refute it at one input. -/
def roundReckonsWrong : ChangeSpec := { name := "roundReckons", fn := fun _ => fun
  | [d1, d2, d3, d4] => { results := [.lit (.bool false)], args := [d1, d2, d3, d4] }
  | _ => none }
def RoundReckonsWrongFalsely : Prop := roundReckonsRow.holds Tryd.pinned (OpenSpec.ofChange roundReckonsWrong)

/-- 'fathomlinelaw3.RoundDrawn': WHATEVER THE INPUT: true; the input reads as it did. -/
def roundDrawnSpec : ChangeSpec := { name := "roundDrawn", fn := fun _ => fun
  | [d1, d2] => { results := [.lit (.bool true)], args := [d1, d2] }
  | _ => none }
def roundDrawnRow : OpenClaim := { program := "ytjilhcofkcnplaadoor", sum := "475db17efc16dc00d26f43deb5bbb2d27b735f76a1b167114d7bb168f7566bfe", func := "fathomline/fathomlinelaw3.RoundDrawn", spec := "roundDrawn", inPlace := ["math/bits.Add64", "math/bits.Sub64"], unfollowed := true, recurses := true, named := ["math/bits.divideError", "math/bits.overflowError", "math/bits.deBruijn64tab"], apart := false, laid := [("math/bits.deBruijn64tab", laid_math_bits_deBruijn64tab)] }
def RoundDrawnSaid : Prop := roundDrawnRow.holds Tryd.pinned (OpenSpec.ofChange roundDrawnSpec)

/-- ITS FALSE NEIGHBOUR: 'it returns false'. Refute it at one input. -/
def roundDrawnWrong : ChangeSpec := { name := "roundDrawn", fn := fun _ => fun
  | [d1, d2] => { results := [.lit (.bool false)], args := [d1, d2] }
  | _ => none }
def RoundDrawnWrongFalsely : Prop := roundDrawnRow.holds Tryd.pinned (OpenSpec.ofChange roundDrawnWrong)

/-- 'fathomlinelaw3.RoundDivides': WHATEVER THE INPUT: true; the input reads as it did. -/
def roundDividesSpec : ChangeSpec := { name := "roundDivides", fn := fun _ => fun
  | [d] => { results := [.lit (.bool true)], args := [d] }
  | _ => none }
def roundDividesRow : OpenClaim := { program := "ytjilhcofkcnplaadoor", sum := "475db17efc16dc00d26f43deb5bbb2d27b735f76a1b167114d7bb168f7566bfe", func := "fathomline/fathomlinelaw3.RoundDivides", spec := "roundDivides", inPlace := ["math/bits.Add64", "math/bits.Sub64"], unfollowed := true, recurses := true, named := ["math/bits.divideError", "math/bits.overflowError", "math/bits.deBruijn64tab"], apart := false, laid := [("math/bits.deBruijn64tab", laid_math_bits_deBruijn64tab)] }
def RoundDividesSaid : Prop := roundDividesRow.holds Tryd.pinned (OpenSpec.ofChange roundDividesSpec)

/-- ITS FALSE NEIGHBOUR: 'it returns false'. Refute it at one input. -/
def roundDividesWrong : ChangeSpec := { name := "roundDivides", fn := fun _ => fun
  | [d] => { results := [.lit (.bool false)], args := [d] }
  | _ => none }
def RoundDividesWrongFalsely : Prop := roundDividesRow.holds Tryd.pinned (OpenSpec.ofChange roundDividesWrong)

/-- 'fathomlinelaw3.RoundRises': WHATEVER THE INPUT: true; the input reads as it did. -/
def roundRisesSpec : ChangeSpec := { name := "roundRises", fn := fun _ => fun
  | [d1, d2] => { results := [.lit (.bool true)], args := [d1, d2] }
  | _ => none }
def roundRisesRow : OpenClaim := { program := "ytjilhcofkcnplaadoor", sum := "475db17efc16dc00d26f43deb5bbb2d27b735f76a1b167114d7bb168f7566bfe", func := "fathomline/fathomlinelaw3.RoundRises", spec := "roundRises", inPlace := ["math/bits.Add64", "math/bits.Sub64"], unfollowed := true, recurses := true, named := ["math/bits.divideError", "math/bits.overflowError", "math/bits.deBruijn64tab"], apart := false, laid := [("math/bits.deBruijn64tab", laid_math_bits_deBruijn64tab)] }
def RoundRisesSaid : Prop := roundRisesRow.holds Tryd.pinned (OpenSpec.ofChange roundRisesSpec)

/-- ITS FALSE NEIGHBOUR: 'it returns false'. Refute it at one input. -/
def roundRisesWrong : ChangeSpec := { name := "roundRises", fn := fun _ => fun
  | [d1, d2] => { results := [.lit (.bool false)], args := [d1, d2] }
  | _ => none }
def RoundRisesWrongFalsely : Prop := roundRisesRow.holds Tryd.pinned (OpenSpec.ofChange roundRisesWrong)

/-- 'fathomlinelaw3.RoundBetween': WHATEVER THE INPUT: true; the input reads as it did. -/
def roundBetweenSpec : ChangeSpec := { name := "roundBetween", fn := fun _ => fun
  | [d1, d2] => { results := [.lit (.bool true)], args := [d1, d2] }
  | _ => none }
def roundBetweenRow : OpenClaim := { program := "ytjilhcofkcnplaadoor", sum := "475db17efc16dc00d26f43deb5bbb2d27b735f76a1b167114d7bb168f7566bfe", func := "fathomline/fathomlinelaw3.RoundBetween", spec := "roundBetween", inPlace := ["math/bits.Add64", "math/bits.Sub64"], unfollowed := true, recurses := true, named := ["math/bits.divideError", "math/bits.overflowError", "math/bits.deBruijn64tab"], apart := false, laid := [("math/bits.deBruijn64tab", laid_math_bits_deBruijn64tab)] }
def RoundBetweenSaid : Prop := roundBetweenRow.holds Tryd.pinned (OpenSpec.ofChange roundBetweenSpec)

/-- ITS FALSE NEIGHBOUR: 'it returns false'. Refute it at one input. -/
def roundBetweenWrong : ChangeSpec := { name := "roundBetween", fn := fun _ => fun
  | [d1, d2] => { results := [.lit (.bool false)], args := [d1, d2] }
  | _ => none }
def RoundBetweenWrongFalsely : Prop := roundBetweenRow.holds Tryd.pinned (OpenSpec.ofChange roundBetweenWrong)

/- THE SECOND FORM. 'bulk': how many values and letters a reading holds, each counted each time it is reached (what is shared counts as often as it is met; a slice's spare places count too). A statement '..UptoSaid' is the law's where the arguments, and the package variables that the reading takes, are together of bulk at most 1048576: NARROWER than '..Said'. Prove '..Said' where nothing that the law and all that it calls make is longer than what came in: it says more and counts as full. Else prove '..UptoSaid'. A law counts once. -/
mutual
def uptoBulk {H : Type} : DataW H → Nat
  | .lit (.string bytes) => bytes.length + 1
  | .lit _ => 1
  | .nil => 1
  | .ptr d => uptoBulk d + 1
  | .slice elems spare => uptoBulkAll elems + uptoBulkAll spare + 1
  | .agg parts => uptoBulkAll parts + 1
  | .iface _ d => uptoBulk d + 1
  | .map entries => uptoBulkEntries entries + 1
  | .held _ => 1
def uptoBulkAll {H : Type} : List (DataW H) → Nat
  | [] => 0
  | d :: r => uptoBulk d + uptoBulkAll r
def uptoBulkEntries {H : Type} : List (Lit × DataW H) → Nat
  | [] => 0
  | x :: r => uptoBulkEntry x + uptoBulkEntries r
def uptoBulkEntry {H : Type} : Lit × DataW H → Nat
  | (.string bytes, d) => bytes.length + uptoBulk d + 1
  | (_, d) => uptoBulk d + 1
 end
def uptoSmall : (H : Type) → List (DataW H) → Bool := fun _ ds => decide (uptoBulkAll ds ≤ 1048576)
def OpenSpec.upto (s : _root_.Go.ChangeSpec) : _root_.Go.OpenSpec := { _root_.Go.OpenSpec.ofChange s with cond := some uptoSmall }

/-- 'fathomlinelaw3.RoundFits', WHERE WHAT IT READS IS OF BULK AT MOST 1048576: true; the input reads as it did. -/
def roundFitsUptoRow : OpenClaim := { program := "ytjilhcofkcnplaadoor", sum := "475db17efc16dc00d26f43deb5bbb2d27b735f76a1b167114d7bb168f7566bfe", func := "fathomline/fathomlinelaw3.RoundFits", spec := "roundFits", inPlace := ["math/bits.Add64", "math/bits.Sub64"], unfollowed := true, recurses := true, named := ["math/bits.divideError", "math/bits.overflowError", "math/bits.deBruijn64tab"], apart := false, laid := [("math/bits.deBruijn64tab", laid_math_bits_deBruijn64tab)], narrowed := true }
def RoundFitsUptoSaid : Prop := roundFitsUptoRow.holds Tryd.pinned (OpenSpec.upto roundFitsSpec)

/-- 'fathomlinelaw3.RoundReckons', WHERE WHAT IT READS IS OF BULK AT MOST 1048576: true; the input reads as it did. -/
def roundReckonsUptoRow : OpenClaim := { program := "ytjilhcofkcnplaadoor", sum := "475db17efc16dc00d26f43deb5bbb2d27b735f76a1b167114d7bb168f7566bfe", func := "fathomline/fathomlinelaw3.RoundReckons", spec := "roundReckons", inPlace := ["math/bits.Add64", "math/bits.Sub64"], unfollowed := true, recurses := true, named := ["math/bits.divideError", "math/bits.overflowError", "math/bits.deBruijn64tab"], apart := false, laid := [("math/bits.deBruijn64tab", laid_math_bits_deBruijn64tab)], narrowed := true }
def RoundReckonsUptoSaid : Prop := roundReckonsUptoRow.holds Tryd.pinned (OpenSpec.upto roundReckonsSpec)

/-- 'fathomlinelaw3.RoundDrawn', WHERE WHAT IT READS IS OF BULK AT MOST 1048576: true; the input reads as it did. -/
def roundDrawnUptoRow : OpenClaim := { program := "ytjilhcofkcnplaadoor", sum := "475db17efc16dc00d26f43deb5bbb2d27b735f76a1b167114d7bb168f7566bfe", func := "fathomline/fathomlinelaw3.RoundDrawn", spec := "roundDrawn", inPlace := ["math/bits.Add64", "math/bits.Sub64"], unfollowed := true, recurses := true, named := ["math/bits.divideError", "math/bits.overflowError", "math/bits.deBruijn64tab"], apart := false, laid := [("math/bits.deBruijn64tab", laid_math_bits_deBruijn64tab)], narrowed := true }
def RoundDrawnUptoSaid : Prop := roundDrawnUptoRow.holds Tryd.pinned (OpenSpec.upto roundDrawnSpec)

/-- 'fathomlinelaw3.RoundDivides', WHERE WHAT IT READS IS OF BULK AT MOST 1048576: true; the input reads as it did. -/
def roundDividesUptoRow : OpenClaim := { program := "ytjilhcofkcnplaadoor", sum := "475db17efc16dc00d26f43deb5bbb2d27b735f76a1b167114d7bb168f7566bfe", func := "fathomline/fathomlinelaw3.RoundDivides", spec := "roundDivides", inPlace := ["math/bits.Add64", "math/bits.Sub64"], unfollowed := true, recurses := true, named := ["math/bits.divideError", "math/bits.overflowError", "math/bits.deBruijn64tab"], apart := false, laid := [("math/bits.deBruijn64tab", laid_math_bits_deBruijn64tab)], narrowed := true }
def RoundDividesUptoSaid : Prop := roundDividesUptoRow.holds Tryd.pinned (OpenSpec.upto roundDividesSpec)

/-- 'fathomlinelaw3.RoundRises', WHERE WHAT IT READS IS OF BULK AT MOST 1048576: true; the input reads as it did. -/
def roundRisesUptoRow : OpenClaim := { program := "ytjilhcofkcnplaadoor", sum := "475db17efc16dc00d26f43deb5bbb2d27b735f76a1b167114d7bb168f7566bfe", func := "fathomline/fathomlinelaw3.RoundRises", spec := "roundRises", inPlace := ["math/bits.Add64", "math/bits.Sub64"], unfollowed := true, recurses := true, named := ["math/bits.divideError", "math/bits.overflowError", "math/bits.deBruijn64tab"], apart := false, laid := [("math/bits.deBruijn64tab", laid_math_bits_deBruijn64tab)], narrowed := true }
def RoundRisesUptoSaid : Prop := roundRisesUptoRow.holds Tryd.pinned (OpenSpec.upto roundRisesSpec)

/-- 'fathomlinelaw3.RoundBetween', WHERE WHAT IT READS IS OF BULK AT MOST 1048576: true; the input reads as it did. -/
def roundBetweenUptoRow : OpenClaim := { program := "ytjilhcofkcnplaadoor", sum := "475db17efc16dc00d26f43deb5bbb2d27b735f76a1b167114d7bb168f7566bfe", func := "fathomline/fathomlinelaw3.RoundBetween", spec := "roundBetween", inPlace := ["math/bits.Add64", "math/bits.Sub64"], unfollowed := true, recurses := true, named := ["math/bits.divideError", "math/bits.overflowError", "math/bits.deBruijn64tab"], apart := false, laid := [("math/bits.deBruijn64tab", laid_math_bits_deBruijn64tab)], narrowed := true }
def RoundBetweenUptoSaid : Prop := roundBetweenUptoRow.holds Tryd.pinned (OpenSpec.upto roundBetweenSpec)

end Rows
end Go.Proofs.YtjilhcofkcnplaaDoor
