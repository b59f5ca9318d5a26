/- Plain words of the document's images (rondelref01, rondelref03, rondelref04) and of what builds and compares images. -/
import Derived.Test.YtgmonhehilcegaaPeIm
import Derived.Test.YtgmonhehilcegaaPeAp
set_option linter.unusedVariables false
set_option linter.unusedSimpArgs false
namespace Go.Proofs.Ytgmonhehilcegaa
open Go Go.RowKit

def aroundI (n m : Int) : Int := (if n < 0 then 0 - (n + 1) else n) % m
theorem aroundI_range (n : Int) {m : Int} (h : 0 < m) : 0 ≤ aroundI n m ∧ aroundI n m < m := ⟨Int.emod_nonneg _ (by omega), Int.emod_lt_of_pos _ h⟩
/-- Colors that may be. -/
def AllMay (px : List Int) : Prop := ∀ c ∈ px, mayB c = true ∧ InC c
theorem AllMay.get {px : List Int} (h : AllMay px) {i : Nat} (hi : i < px.length) : mayB (px.getD i 0) = true ∧ InC (px.getD i 0) := by
  rw [List.getD_eq_getElem?_getD, List.getElem?_eq_getElem hi]
  exact h _ (List.getElem_mem hi)
theorem in_box {W H : Int} {n i : Nat} (hW : 1 ≤ W) (hn : (n : Int) = W * H) (hi : i < n) : hasB 0 0 W H ((i : Int) % W) ((i : Int) / W) = true := by
  have h1 := Int.emod_nonneg (i : Int) (show W ≠ 0 by omega)
  have h2 := Int.emod_lt_of_pos (i : Int) (show 0 < W by omega)
  have h3 := Int.ediv_nonneg (show 0 ≤ (i : Int) by omega) (show 0 ≤ W by omega)
  refine hasB_true.2 ⟨h1, h2, h3, ?_⟩
  exact Int.ediv_lt_of_lt_mul (by omega) (by rw [Int.mul_comm, ← hn]; omega)
theorem emod_range (i : Nat) {W : Int} (hW : 1 ≤ W) : 0 ≤ (i : Int) % W ∧ (i : Int) % W < W ∧ 0 ≤ (i : Int) / W ∧ (i : Int) / W ≤ i :=
  ⟨Int.emod_nonneg _ (by omega), Int.emod_lt_of_pos _ (by omega), Int.ediv_nonneg (by omega) (by omega), Int.ediv_le_self _ (by omega)⟩

/-! ### Fill, as the document has it: point by point -/
/-! ### Solid -/
/-! ### Two images -/
end Go.Proofs.Ytgmonhehilcegaa

