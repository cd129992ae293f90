/- The document's numbers: order and sum, over values as data. The document's numbers: by powers of two, downwards, over values as data. The document's numbers: by powers of two, upwards, over values as data. The document's numbers: products, over values as data. -/
import Derived.Test.YtgapammfekmihaaGreatDoorZPT
import Derived.Test.YtgapammfekmihaaGreatDoorZPM
set_option linter.unusedSimpArgs false
set_option linter.unusedVariables false
set_option maxRecDepth 100000
namespace Go.V
open Go Go.RowKit Go.Proofs
end Go.V
namespace Go.V
open Go Go.RowKit Go.Proofs
end Go.V
namespace Go.V
open Go Go.RowKit Go.Proofs

end Go.V
namespace Go.V
open Go Go.RowKit Go.Proofs
end Go.V
