/- Rows of rectangles: four cells an element; read, written, appended to, cut, cleared. Generic in the program. -/
import Derived.Test.YtekgdfaggagfmaaPdAp
import Derived.Test.YtekgdfaggagfmaaPdRh
import Derived.Lib.SliceRun
set_option linter.unusedVariables false
set_option linter.unusedSimpArgs false
namespace Go.Proofs.Ytekgdfaggagfmaa
open Go Go.RowKit
variable {dfs : List Deferred}

section
variable {P : Program}
/-! ### Cut to a length -/
/-! ### Parts, read -/
/-! ### clear -/
end
end Go.Proofs.Ytekgdfaggagfmaa

