/- The points of a list of rectangles, in the order in which a walk over it comes to them; what is drawn at them. -/
import Derived.Test.YtlfahohbkgdabaaPaRm
import Derived.Test.YtlfahohbkgdabaaPaPu
import Derived.Test.YtlfahohbkgdabaaPaRowR
set_option linter.unusedVariables false
set_option linter.unusedSimpArgs false
namespace Go.Proofs.Ytlfahohbkgdabaa
open Go Go.RowKit

end Go.Proofs.Ytlfahohbkgdabaa

