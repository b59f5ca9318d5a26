/- Plain words of the document's images (rondelref01, rondelref03, rondelref04) and of what builds and compares images. -/
import Derived.Test.YtgmonhehilcegaaPcIm
import Derived.Test.YtgmonhehilcegaaPcAp
set_option linter.unusedVariables false
set_option linter.unusedSimpArgs false
namespace Go.Proofs.Ytgmonhehilcegaa
open Go Go.RowKit

def aroundI (n m : Int) : Int := (if n < 0 then 0 - (n + 1) else n) % m
theorem aroundI_range (n : Int) {m : Int} (h : 0 < m) : 0 ≤ aroundI n m ∧ aroundI n m < m := ⟨Int.emod_nonneg _ (by omega), Int.emod_lt_of_pos _ h⟩
/-- Colors that may be. -/
def AllMay (px : List Int) : Prop := ∀ c ∈ px, mayB c = true ∧ InC c
theorem AllMay.get {px : List Int} (h : AllMay px) {i : Nat} (hi : i < px.length) : mayB (px.getD i 0) = true ∧ InC (px.getD i 0) := by
  rw [List.getD_eq_getElem?_getD, List.getElem?_eq_getElem hi]
  exact h _ (List.getElem_mem hi)
/-! ### Fill, as the document has it: point by point -/
/-! ### Solid -/
/-! ### Two images -/
end Go.Proofs.Ytgmonhehilcegaa

