/- Plain words of Copy: points of one image that come into another one. -/
import Derived.Test.YtgmonhehilcegaaPeIb
set_option linter.unusedVariables false
set_option linter.unusedSimpArgs false
namespace Go.Proofs.Ytgmonhehilcegaa
open Go Go.RowKit

end Go.Proofs.Ytgmonhehilcegaa

