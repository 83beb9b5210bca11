/- The second loop of the law CommBits: those of a and b together are those of c. -/
import Derived.Test.YtfnjcpopadpmbaaDoorJCbC
set_option linter.unusedVariables false
set_option linter.unusedSimpArgs false
set_option linter.unnecessarySimpa false
namespace Go.Proofs.YtfnjcpopadpmbaaDoor
open Go.RowKit BigFrame
set_option maxRecDepth 100000
end Go.Proofs.YtfnjcpopadpmbaaDoor
