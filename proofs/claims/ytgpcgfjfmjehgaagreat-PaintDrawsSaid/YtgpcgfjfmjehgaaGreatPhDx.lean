/- Laws of what is drawn: nothing, all, by parts. -/
import Derived.Test.YtgpcgfjfmjehgaaGreatPhDw
import Derived.Test.YtgpcgfjfmjehgaaGreatPhOu
set_option linter.unusedVariables false
set_option linter.unusedSimpArgs false
namespace Go.Proofs.YtgpcgfjfmjehgaaGreat
open Go Go.RowKit

theorem ImgOk.get {W H : Int} {n : Nat} {px : List Int} (hok : ImgOk W H n px) {k : Nat} (hk : k < n) : InC (px.getD k 0) := by
  rw [List.getD_eq_getElem?_getD, List.getElem?_eq_getElem (by rw [hok.len]; exact hk)]
  exact hok.rng _ (List.getElem_mem _)
theorem rowP_length (y x : Int) (k : Nat) : (rowP y x k).length = k := by simp [rowP]
theorem rectP_length (r : Rect) (j : Nat) : (rectP r j).length = j * Int.toNat (r.x1 - r.x0) := by
  induction j with
  | zero => simp [rectP]
  | succ j ih => rw [rectP_succ, List.length_append, ih, rowP_length, Nat.succ_mul]
/-! ### Where a drawn layer's points lie -/
theorem hasDR {W H W' H' X Y s a b c d x y : Int} (l : List Rect) (hs : 1 ≤ s ∧ s ≤ 8) (hX : -1000000 ≤ X ∧ X ≤ 1000000) (hY : -1000000 ≤ Y ∧ Y ≤ 1000000) (hw : 1 ≤ W' ∧ W' ≤ 256) (hh : 1 ≤ H' ∧ H' ≤ 256) :
    hasL (regM andB (canR l) (canR [cutR (shwR W' H' X Y s a b c d).x0 (shwR W' H' X Y s a b c d).y0 (shwR W' H' X Y s a b c d).x1 (shwR W' H' X Y s a b c d).y1 0 0 W H])) x y = (hasL l x y && (pcolB W' H' X Y s a b c d x y && hasB 0 0 W H x y)) := by
  rw [hasL_and, hasL_can, hasL_can]
  congr 1
  simp only [hasL, List.any_cons, List.any_nil, Bool.or_false]
  rw [Bool.eq_iff_iff, cutR_has, pcol_box hs hX hY hw hh, Bool.and_eq_true]

/-! ### A solid cover -/
/-! ### By parts -/
end Go.Proofs.YtgpcgfjfmjehgaaGreat

