/- Outputs: the plain words. -/
import Derived.Test.YtgpcgfjfmjehgaaPgRq
set_option linter.unusedVariables false
set_option linter.unusedSimpArgs false
namespace Go.Proofs.Ytgpcgfjfmjehgaa
open Go Go.RowKit
variable {dfs : List Deferred}
end Go.Proofs.Ytgpcgfjfmjehgaa

