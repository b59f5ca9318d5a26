/- The symbolic executor: strings that are made of bytes. Generic in the program. -/
import Derived.Test.YtommojgfkkoghaaPfAp
import Derived.Laws.BytesString
set_option linter.unusedVariables false
set_option linter.unusedSimpArgs false
namespace Go.Proofs.Ytommojgfkkoghaa
open Go Go.RowKit

theorem Rd.nil {w : World} {k : IntKind} : Rd w none 0 0 0 1 (ivals k []) := ⟨rfl, fun h => by omega, fun j v hj => by simp [ivals] at hj⟩
section
variable {P : Program}
end
end Go.Proofs.Ytommojgfkkoghaa

