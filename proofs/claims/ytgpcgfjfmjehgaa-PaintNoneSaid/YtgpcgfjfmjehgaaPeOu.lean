/- Outputs: the plain words. -/
import Derived.Test.YtgpcgfjfmjehgaaPeRq
set_option linter.unusedVariables false
set_option linter.unusedSimpArgs false
namespace Go.Proofs.Ytgpcgfjfmjehgaa
open Go Go.RowKit
variable {dfs : List Deferred}
theorem can_one {r : Rect} (h : emptyR r = false) : canR [r] = [r] :=
  ((may_iff [r]).1 (fun i hi => by
    have : i = 0 := by simpa using hi
    subst this
    exact ⟨h, fun h0 => by omega, fun h0 => by omega, fun h0 => by omega⟩)).symm
end Go.Proofs.Ytgpcgfjfmjehgaa

