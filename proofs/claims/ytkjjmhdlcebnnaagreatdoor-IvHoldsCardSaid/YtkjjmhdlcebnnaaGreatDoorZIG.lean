/- The statements' own small functions of layer 5: parts, four. -/
import Derived.Test.YtkjjmhdlcebnnaaGreatDoorZIF
set_option linter.unusedSimpArgs false
set_option linter.unusedVariables false
set_option maxRecDepth 100000
namespace Go.V
open Go Go.RowKit Go.Proofs
end Go.V
