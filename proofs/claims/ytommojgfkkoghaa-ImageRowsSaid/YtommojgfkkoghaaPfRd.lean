/- Plain words of Read: the bytes of points. -/
import Derived.Test.YtommojgfkkoghaaPfIc
import Derived.Test.YtommojgfkkoghaaPfSt
set_option linter.unusedVariables false
set_option linter.unusedSimpArgs false
namespace Go.Proofs.Ytommojgfkkoghaa
open Go Go.RowKit

end Go.Proofs.Ytommojgfkkoghaa

