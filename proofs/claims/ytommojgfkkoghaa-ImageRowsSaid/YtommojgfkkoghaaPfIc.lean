/- Plain words of Copy: points of one image that come into another one. -/
import Derived.Test.YtommojgfkkoghaaPfIb
set_option linter.unusedVariables false
set_option linter.unusedSimpArgs false
namespace Go.Proofs.Ytommojgfkkoghaa
open Go Go.RowKit

end Go.Proofs.Ytommojgfkkoghaa

