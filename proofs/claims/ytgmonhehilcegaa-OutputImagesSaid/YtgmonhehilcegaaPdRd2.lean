/- What the walks of the document's regions use. -/
import Derived.Test.YtgmonhehilcegaaPdRt
import Derived.Test.YtgmonhehilcegaaPdIb
set_option linter.unusedVariables false
set_option linter.unusedSimpArgs false
namespace Go.Proofs.Ytgmonhehilcegaa
open Go Go.RowKit

/-! ### A number put into a list that rises -/
/-! ### A row that may have moved -/
/-! ### The document's ways -/
theorem rget_append {a b : List Rect} {i : Nat} : rget (a ++ b) i = if i < a.length then rget a i else rget b (i - a.length) := by
  unfold rget
  rw [List.getD_eq_getElem?_getD]
  split
  · rename_i h; rw [List.getElem?_append_left h, List.getD_eq_getElem?_getD]
  · rename_i h; rw [List.getElem?_append_right (by omega), List.getD_eq_getElem?_getD]
/-! ### Small rectangles -/
def smallR (r : Rect) : Rect := ⟨aroundI r.x0 24 - 4, aroundI r.y0 24 - 4, aroundI r.x0 24 - 4 + aroundI r.x1 13, aroundI r.y0 24 - 4 + aroundI r.y1 13⟩
end Go.Proofs.Ytgmonhehilcegaa

