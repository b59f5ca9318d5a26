/- Contracts of functions of the given program, printed by a program of this project. -/
import Derived.Test.YtgmonhehilcegaaPeL18
import Derived.Test.YtgmonhehilcegaaPeOi
import Derived.Test.YtgmonhehilcegaaProg
set_option linter.unusedVariables false
set_option linter.unusedSimpArgs false
namespace Go.Proofs.Ytgmonhehilcegaa
open Go Go.RowKit
set_option maxRecDepth 100000
set_option maxHeartbeats 8000000

end Go.Proofs.Ytgmonhehilcegaa

