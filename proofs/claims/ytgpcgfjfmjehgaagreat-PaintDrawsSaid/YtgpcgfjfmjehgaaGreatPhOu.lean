/- Outputs: the plain words. -/
import Derived.Test.YtgpcgfjfmjehgaaGreatPhRq
set_option linter.unusedVariables false
set_option linter.unusedSimpArgs false
namespace Go.Proofs.YtgpcgfjfmjehgaaGreat
open Go Go.RowKit
variable {dfs : List Deferred}
end Go.Proofs.YtgpcgfjfmjehgaaGreat

