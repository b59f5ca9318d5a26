/- Images of which some points are other ones: as the document tells them, one by one. -/
import Derived.Test.YtlfahohbkgdabaaPaDx
set_option linter.unusedVariables false
set_option linter.unusedSimpArgs false
namespace Go.Proofs.Ytlfahohbkgdabaa
open Go Go.RowKit

/-! ### What is drawn, and cleared, as the document has it -/
end Go.Proofs.Ytlfahohbkgdabaa

