/- Plain words of paint: a layer's color at a point. -/
import Derived.Test.YtlfahohbkgdabaaPcPt
set_option linter.unusedVariables false
set_option linter.unusedSimpArgs false
namespace Go.Proofs.Ytlfahohbkgdabaa
open Go Go.RowKit

theorem floor_neg {a b : Int} (hb : 0 < b) : 0 - (b - 1 - a) / b = a / b := by
  have h1 := Int.mul_ediv_add_emod a b
  have h2 := Int.emod_nonneg a (show b ≠ 0 by omega)
  have h3 := Int.emod_lt_of_pos a hb
  have e : b - 1 - a = (b - 1 - a % b) + b * (-(a / b)) := by rw [Int.mul_neg]; omega
  rw [e, Int.add_mul_ediv_left _ _ (by omega), Int.ediv_eq_zero_of_lt (by omega) (by omega)]
  omega
theorem tdiv_floor {a b : Int} (hb : 0 < b) : (if a.tdiv b * b > a then a.tdiv b - 1 else a.tdiv b) = a / b := by
  have h1 := Int.mul_ediv_add_emod a b
  have h2 := Int.emod_nonneg a (show b ≠ 0 by omega)
  have h3 := Int.emod_lt_of_pos a hb
  have h4 : a / b * b = b * (a / b) := Int.mul_comm _ _
  rw [Int.tdiv_eq_ediv]
  split
  · rename_i h
    split
    · rename_i hc
      rw [Int.add_zero] at hc
      omega
    · omega
  · rename_i h
    have hs : b.sign = 1 := Int.sign_eq_one_of_pos hb
    rw [hs]
    have h5 : (a / b + 1) * b = a / b * b + b := by rw [Int.add_mul]; omega
    rw [if_pos (by rw [h5]; omega)]
    omega
theorem tdiv_range {a b m : Int} (hb : 0 < b) (h0 : -m ≤ a) (h1 : a ≤ m) (hm : 0 ≤ m) : -m - 1 ≤ a.tdiv b ∧ a.tdiv b ≤ m + 1 := by
  have hs : b.sign = 1 := Int.sign_eq_one_of_pos hb
  have e1 : a / b ≤ m := by
    rcases Int.le_total 0 a with h | h
    · have := Int.ediv_le_self b h; omega
    · have := (Int.ediv_lt_iff_lt_mul (a := a) (b := 1) hb).2 (by omega); omega
  have e2 : -m ≤ a / b := by
    refine (Int.le_ediv_iff_mul_le hb).2 ?_
    have := Int.mul_le_mul_of_nonneg_left (show 1 ≤ b by omega) hm
    rw [Int.neg_mul]
    omega
  rw [Int.tdiv_eq_ediv, hs]
  split <;> omega
theorem ediv_range {a b m : Int} (hb : 0 < b) (h0 : -m ≤ a) (h1 : a ≤ m) (hm : 0 ≤ m) : -m ≤ a / b ∧ a / b ≤ m := by
  refine ⟨?_, ?_⟩
  · refine (Int.le_ediv_iff_mul_le hb).2 ?_
    have := Int.mul_le_mul_of_nonneg_left (show 1 ≤ b by omega) hm
    rw [Int.neg_mul]
    omega
  · rcases Int.le_total 0 a with h | h
    · have := Int.ediv_le_self b h; omega
    · have := (Int.ediv_lt_iff_lt_mul (a := a) (b := 1) hb).2 (by omega); omega
/-- Which points a layer shows. -/
theorem rbox_has {W H X Y s a b c d x y : Int} (hs : 1 ≤ s) : hasB (rboxR W H X Y s a b c d).x0 (rboxR W H X Y s a b c d).y0 (rboxR W H X Y s a b c d).x1 (rboxR W H X Y s a b c d).y1 x y = (hasB 0 0 W H ((x - X) / s) ((y - Y) / s) && hasB a b c d ((x - X) / s) ((y - Y) / s)) := by
  rw [Bool.eq_iff_iff, Bool.and_eq_true]
  have hcut := cutR_has a b c d 0 0 W H ((x - X) / s) ((y - Y) / s)
  have hsp : 0 < s := by omega
  have k : ∀ (p q z Z : Int), Z + p * s ≤ z ∧ z < Z + q * s ↔ p ≤ (z - Z) / s ∧ (z - Z) / s < q := fun p q z Z => by
    rw [Int.le_ediv_iff_mul_le hsp, Int.ediv_lt_iff_lt_mul hsp]
    omega
  rw [and_comm (a := hasB 0 0 W H _ _ = true), ← hcut]
  unfold rboxR
  dsimp only
  generalize cutR a b c d 0 0 W H = r
  cases hne : emptyB r.x0 r.y0 r.x1 r.y1 with
  | true =>
    have := emptyB_true.1 hne
    simp only [if_true, hasB_true]
    omega
  | false =>
    have k1 := k r.x0 r.x1 x X
    have k2 := k r.y0 r.y1 y Y
    simp only [Bool.false_eq_true, if_false, hasB_true]
    omega
def pcolB (W H X Y s a b c d : Int) (x y : Int) : Bool := hasB 0 0 W H ((x - X) / s) ((y - Y) / s) && hasB a b c d ((x - X) / s) ((y - Y) / s)
/-- A layer's color at a point; 0 where there is none. -/
def pcolC (W H X Y s al a b c d : Int) (px : List Int) (x y : Int) : Int := if pcolB W H X Y s a b c d x y then fadeC (atC W H px ((x - X) / s) ((y - Y) / s)) al else 0
theorem tdiv_mul_range {a b : Int} (hb : 0 < b) : a - b ≤ a.tdiv b * b ∧ a.tdiv b * b ≤ a + b := by
  have h1 := Int.mul_ediv_add_emod a b
  have h2 := Int.emod_nonneg a (show b ≠ 0 by omega)
  have h3 := Int.emod_lt_of_pos a hb
  have h4 : a / b * b = b * (a / b) := Int.mul_comm _ _
  have hs : b.sign = 1 := Int.sign_eq_one_of_pos hb
  have h5 : (a / b + 1) * b = a / b * b + b := by rw [Int.add_mul]; omega
  rw [Int.tdiv_eq_ediv, hs]
  split
  · rw [Int.add_zero]; omega
  · rw [h5]; omega
theorem pcol_box {W H X Y s a b c d x y : Int} (hs : 1 ≤ s ∧ s ≤ 8) (hX : -1000000 ≤ X ∧ X ≤ 1000000) (hY : -1000000 ≤ Y ∧ Y ≤ 1000000) (hw : 1 ≤ W ∧ W ≤ 256) (hh : 1 ≤ H ∧ H ≤ 256) :
    hasB (shwR W H X Y s a b c d).x0 (shwR W H X Y s a b c d).y0 (shwR W H X Y s a b c d).x1 (shwR W H X Y s a b c d).y1 x y = pcolB W H X Y s a b c d x y := by
  rw [box_same hs hX hY hw hh]
  exact rbox_has (by omega)
theorem pcolB_in {W H X Y s a b c d x y : Int} (h : pcolB W H X Y s a b c d x y = true) : hasB 0 0 W H ((x - X) / s) ((y - Y) / s) = true := (Bool.and_eq_true_iff.1 h).1
end Go.Proofs.Ytlfahohbkgdabaa

