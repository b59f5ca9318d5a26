/- Laws of what is drawn: nothing, all, by parts. -/
import Derived.Test.YtgpcgfjfmjehgaaGreatPiDw
import Derived.Test.YtgpcgfjfmjehgaaGreatPiOu
set_option linter.unusedVariables false
set_option linter.unusedSimpArgs false
namespace Go.Proofs.YtgpcgfjfmjehgaaGreat
open Go Go.RowKit

theorem ImgOk.get {W H : Int} {n : Nat} {px : List Int} (hok : ImgOk W H n px) {k : Nat} (hk : k < n) : InC (px.getD k 0) := by
  rw [List.getD_eq_getElem?_getD, List.getElem?_eq_getElem (by rw [hok.len]; exact hk)]
  exact hok.rng _ (List.getElem_mem _)
theorem rowP_length (y x : Int) (k : Nat) : (rowP y x k).length = k := by simp [rowP]
theorem rectP_length (r : Rect) (j : Nat) : (rectP r j).length = j * Int.toNat (r.x1 - r.x0) := by
  induction j with
  | zero => simp [rectP]
  | succ j ih => rw [rectP_succ, List.length_append, ih, rowP_length, Nat.succ_mul]
/-! ### Where a drawn layer's points lie -/
/-! ### A solid cover -/
/-! ### By parts -/
end Go.Proofs.YtgpcgfjfmjehgaaGreat

