/- The document's intervals over values as data: quotients, the four operations. The document's intervals over values as data: sums, differences, products, quotients. -/
import Derived.Test.YtkjjmhdlcebnnaaGreatDoorZIC
set_option linter.unusedSimpArgs false
set_option linter.unusedVariables false
set_option maxRecDepth 100000
namespace Go.V
open Go Go.RowKit Go.Proofs
end Go.V
namespace Go.V
open Go Go.RowKit Go.Proofs
end Go.V
