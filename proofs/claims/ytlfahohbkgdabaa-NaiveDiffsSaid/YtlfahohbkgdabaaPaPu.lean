/- Plain words of paint: a layer's color at a point. -/
import Derived.Test.YtlfahohbkgdabaaPaPt
set_option linter.unusedVariables false
set_option linter.unusedSimpArgs false
namespace Go.Proofs.Ytlfahohbkgdabaa
open Go Go.RowKit

end Go.Proofs.Ytlfahohbkgdabaa

