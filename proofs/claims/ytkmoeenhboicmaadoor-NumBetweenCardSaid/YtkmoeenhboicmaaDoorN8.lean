/- The walks of package nat: Shift, byWord, Div. -/
import Derived.Test.YtkmoeenhboicmaaDoorN7
import Derived.Test.YtkmoeenhboicmaaDoorL2
set_option linter.unusedSimpArgs false
set_option linter.unusedVariables false
set_option maxRecDepth 100000

namespace Go.V
open Go Go.RowKit Go.Proofs

/-- A number by 2^n, n clipped. -/
def shiftN (a : Nat) (n : Int) : Nat := if n < 0 then a / 2 ^ (min (-n).toNat 262144) else a * 2 ^ (min n.toNat 262144)





end Go.V
