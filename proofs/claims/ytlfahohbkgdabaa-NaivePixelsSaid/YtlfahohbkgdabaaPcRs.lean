/- slices.Sort and slices.Compact of whole numbers, as they turn a row of the table. Over the library's contracts, laid at this program. -/
import Derived.Test.YtlfahohbkgdabaaPcSh
import Derived.Test.YtlfahohbkgdabaaPcRr
set_option linter.unusedVariables false
set_option linter.unusedSimpArgs false
namespace Go.Proofs.Ytlfahohbkgdabaa
open Go Go.RowKit Go.Sort

theorem Row.holds {w : World} {g n cap : Nat} {e : TypeId} {xs : List Int} (h : Row w (some ⟨g, 0, none⟩) g n cap e 1 (ivals .i64 xs)) : Holds (Value.int .i64) w g 0 xs.toArray := by
  intro j hj
  have hjl : j < xs.length := by simpa using hj
  have hn : 0 < n := by have := h.facts; omega
  rw [Nat.zero_add, arr_get]
  exact ⟨h.cell j _ (ivals_get hjl), h.free hn j⟩
end Go.Proofs.Ytlfahohbkgdabaa

