/- Rows that are painted in place, point by point. -/
import Derived.Test.YtgmonhehilcegaaPdDd
import Derived.Test.YtgmonhehilcegaaPdOu
import Derived.Test.YtgmonhehilcegaaPdIc
set_option linter.unusedVariables false
set_option linter.unusedSimpArgs false
namespace Go.Proofs.Ytgmonhehilcegaa
open Go Go.RowKit

/-- A row of which the first k points are painted. -/
def fillM (W : Int) (px : List Int) (a b c d col : Int) (k : Nat) : List Int := px.mapIdx fun i v => if i < k ∧ hasB a b c d ((i : Int) % W) ((i : Int) / W) = true then col else v
theorem fillM_zero (W : Int) (px : List Int) (a b c d col : Int) : px = fillM W px a b c d col 0 := by
  refine List.ext_getElem? fun i => ?_
  simp [fillM, List.getElem?_mapIdx]
theorem fillM_full {W : Int} {px : List Int} {k : Nat} (a b c d col : Int) (h : px.length ≤ k) : fillM W px a b c d col k = fillP W px a b c d col := by
  refine List.ext_getElem? fun i => ?_
  simp only [fillM, fillP, List.getElem?_mapIdx]
  by_cases hi : i < px.length
  · have : i < k := by omega
    simp [this]
  · rw [List.getElem?_eq_none (by omega)]; rfl
theorem fillM_yes {W : Int} {px : List Int} {k : Nat} {a b c d col : Int} (h : hasB a b c d ((k : Int) % W) ((k : Int) / W) = true) : (fillM W px a b c d col k).set k col = fillM W px a b c d col (k + 1) := by
  refine List.ext_getElem? fun i => ?_
  rw [List.getElem?_set]
  simp only [fillM, List.getElem?_mapIdx, List.length_mapIdx]
  by_cases hi : k = i
  · subst hi
    by_cases hl : k < px.length
    · simp [hl, h]
    · simp [hl]
  · rw [if_neg hi]
    have : (i < k + 1 ∧ hasB a b c d ((i : Int) % W) ((i : Int) / W) = true) ↔ (i < k ∧ hasB a b c d ((i : Int) % W) ((i : Int) / W) = true) := ⟨fun h => ⟨by omega, h.2⟩, fun h => ⟨by omega, h.2⟩⟩
    simp only [this]
theorem fillM_no {W : Int} {px : List Int} {k : Nat} {a b c d col : Int} (h : hasB a b c d ((k : Int) % W) ((k : Int) / W) = false) : fillM W px a b c d col k = fillM W px a b c d col (k + 1) := by
  refine List.ext_getElem? fun i => ?_
  simp only [fillM, List.getElem?_mapIdx]
  have : (i < k + 1 ∧ hasB a b c d ((i : Int) % W) ((i : Int) / W) = true) ↔ (i < k ∧ hasB a b c d ((i : Int) % W) ((i : Int) / W) = true) := by
    constructor
    · rintro ⟨h1, h2⟩
      refine ⟨?_, h2⟩
      rcases Nat.lt_or_ge i k with h3 | h3
      · exact h3
      · have e : i = k := by omega
        subst e; rw [h] at h2; cases h2
    · rintro ⟨h1, h2⟩; exact ⟨by omega, h2⟩
  simp only [this]
theorem fillA_P {W H : Int} {n : Nat} {px : List Int} (hok : ImgOk W H n px) (a b c d : Int) {col : Int} (hm : mayB col = true) : fillA W H px a b c d col = fillP W px a b c d col := by
  unfold fillA
  rw [if_pos hm]
  refine List.ext_getElem? fun i => ?_
  rw [fillP_get, fillP_get]
  have hlen := hok.len
  by_cases hi : i < px.length
  · have h1 : hasB 0 0 W H ((i : Int) % W) ((i : Int) / W) = true := in_box hok.w1 hok.num (by omega)
    have e : hasB (cutR a b c d 0 0 W H).x0 (cutR a b c d 0 0 W H).y0 (cutR a b c d 0 0 W H).x1 (cutR a b c d 0 0 W H).y1 ((i : Int) % W) ((i : Int) / W) = hasB a b c d ((i : Int) % W) ((i : Int) / W) := by
      rw [Bool.eq_iff_iff, cutR_has]
      exact ⟨fun h => h.1, fun h => ⟨h, h1⟩⟩
    rw [e]
  · rw [List.getElem?_eq_none (by omega)]; rfl
theorem atC_zero {W H : Int} {n : Nat} {px : List Int} (hok : ImgOk W H n px) : atC W H px 0 0 = px.getD 0 0 := by
  have h1 := hok.w1
  have h2 := hok.h1
  unfold atC
  rw [if_pos (hasB_true.2 ⟨by omega, by omega, by omega, by omega⟩)]
  simp
end Go.Proofs.Ytgmonhehilcegaa

