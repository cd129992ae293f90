/- The document's numbers: quotient and rest, bit by bit: the plain laws. The document's numbers: quotient and rest, over values as data. The document's rounded numbers: Round, Ratio, Fit, Reckon; over values as data. The document's quotients and what is reckoned: Ratio, Reckon; over values as data. -/
import Derived.Test.YtgapammfekmihaaGreatDoorZbPU
import Derived.Test.YtgapammfekmihaaGreatDoorZbPT
import Derived.Test.YtgapammfekmihaaGreatDoorZbPZ
import Derived.Test.YtgapammfekmihaaGreatDoorZbPY
set_option linter.unusedSimpArgs false
set_option linter.unusedVariables false
set_option maxRecDepth 100000
namespace Go.V
open Go Go.RowKit Go.Proofs
end Go.V
namespace Go.V
open Go Go.RowKit Go.Proofs
end Go.V
namespace Go.V
open Go Go.RowKit Go.Proofs
end Go.V
namespace Go.V
open Go Go.RowKit Go.Proofs
end Go.V
