/- The document's like boxes, like pieces. -/
import Derived.Test.YtcmnbpliiopbjaaGreatDoorU6
set_option linter.unusedSimpArgs false
set_option linter.unusedVariables false
set_option maxRecDepth 100000
namespace Go.V
open Go Go.RowKit Go.Proofs



end Go.V
