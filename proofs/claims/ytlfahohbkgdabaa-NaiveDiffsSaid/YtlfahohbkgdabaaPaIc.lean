/- Plain words of Copy: points of one image that come into another one. -/
import Derived.Test.YtlfahohbkgdabaaPaIb
set_option linter.unusedVariables false
set_option linter.unusedSimpArgs false
namespace Go.Proofs.Ytlfahohbkgdabaa
open Go Go.RowKit

end Go.Proofs.Ytlfahohbkgdabaa

