/- The walk of pharoslaw08.OperIndexed: under what the encoders, the hashers and the readers answer. -/
import Derived.Test.YtihelknkcomjpaaDoorKLawH
import Derived.Test.YtihelknkcomjpaaDoorJAw8
set_option linter.unusedVariables false
set_option linter.unusedSimpArgs false
set_option linter.unnecessarySimpa false
namespace Go.Proofs.YtihelknkcomjpaaDoor
open Go.RowKit BigFrame
set_option maxRecDepth 100000
end Go.Proofs.YtihelknkcomjpaaDoor
