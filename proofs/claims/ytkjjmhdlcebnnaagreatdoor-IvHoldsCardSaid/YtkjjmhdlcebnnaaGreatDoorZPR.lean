/- The document's numbers: quotient and rest, bit by bit: the plain laws. The document's numbers: quotient and rest, over values as data. The document's rounded numbers: Round, Ratio, Fit, Reckon; over values as data. The document's quotients and what is reckoned: Ratio, Reckon; over values as data. The statements' own small functions of layer 3: known, light, four. -/
import Derived.Test.YtkjjmhdlcebnnaaGreatDoorZPU
import Derived.Test.YtkjjmhdlcebnnaaGreatDoorZPT
import Derived.Test.YtkjjmhdlcebnnaaGreatDoorZPZ
import Derived.Test.YtkjjmhdlcebnnaaGreatDoorZPY
set_option linter.unusedSimpArgs false
set_option linter.unusedVariables false
set_option maxRecDepth 100000
namespace Go.V
open Go Go.RowKit Go.Proofs

end Go.V
namespace Go.V
open Go Go.RowKit Go.Proofs
end Go.V
namespace Go.V
open Go Go.RowKit Go.Proofs

end Go.V
namespace Go.V
open Go Go.RowKit Go.Proofs
end Go.V
namespace Go.V
open Go Go.RowKit Go.Proofs

end Go.V
