/- What the walks of the document's regions use. -/
import Derived.Test.YtgmonhehilcegaaPeRt
import Derived.Test.YtgmonhehilcegaaPeIb
set_option linter.unusedVariables false
set_option linter.unusedSimpArgs false
namespace Go.Proofs.Ytgmonhehilcegaa
open Go Go.RowKit

/-! ### A number put into a list that rises -/
/-! ### A row that may have moved -/
/-! ### The document's ways -/
theorem rget_append {a b : List Rect} {i : Nat} : rget (a ++ b) i = if i < a.length then rget a i else rget b (i - a.length) := by
  unfold rget
  rw [List.getD_eq_getElem?_getD]
  split
  · rename_i h; rw [List.getElem?_append_left h, List.getD_eq_getElem?_getD]
  · rename_i h; rw [List.getElem?_append_right (by omega), List.getD_eq_getElem?_getD]
def gx (l : List Rect) (i : Nat) : List Int := (l.take i).foldl addXs []
def gy (l : List Rect) (i : Nat) : List Int := (l.take i).foldl addYs []
/-! ### Small rectangles -/
def smallR (r : Rect) : Rect := ⟨aroundI r.x0 24 - 4, aroundI r.y0 24 - 4, aroundI r.x0 24 - 4 + aroundI r.x1 13, aroundI r.y0 24 - 4 + aroundI r.y1 13⟩
def smallL (l : List Rect) (most : Nat) : List Rect := (l.take most).map smallR
theorem smallL_put {l : List Rect} {i : Nat} (h : i < l.length) : smallL l i ++ [smallR (rget l i)] = smallL l (i + 1) := by
  unfold smallL; rw [take_succ_rget h]; simp
theorem smallL_length (l : List Rect) (m : Nat) : (smallL l m).length ≤ m := by simp [smallL]; omega
theorem smallL_end {l : List Rect} {i m : Nat} (h : l.length ≤ i ∨ m ≤ i) (hi : i ≤ m) (hl : i ≤ l.length) : smallL l i = smallL l m := by
  unfold smallL
  rcases h with h | h
  · rw [List.take_of_length_le h, List.take_of_length_le (by omega)]
  · rw [show i = m by omega]
end Go.Proofs.Ytgmonhehilcegaa

