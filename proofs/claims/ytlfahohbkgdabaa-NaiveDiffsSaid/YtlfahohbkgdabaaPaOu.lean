/- Outputs: the plain words. -/
import Derived.Test.YtlfahohbkgdabaaPaRq
set_option linter.unusedVariables false
set_option linter.unusedSimpArgs false
namespace Go.Proofs.Ytlfahohbkgdabaa
open Go Go.RowKit
variable {dfs : List Deferred}
end Go.Proofs.Ytlfahohbkgdabaa

