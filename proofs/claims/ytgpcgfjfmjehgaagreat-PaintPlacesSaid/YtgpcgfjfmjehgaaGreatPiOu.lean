/- Outputs: the plain words. -/
import Derived.Test.YtgpcgfjfmjehgaaGreatPiRq
set_option linter.unusedVariables false
set_option linter.unusedSimpArgs false
namespace Go.Proofs.YtgpcgfjfmjehgaaGreat
open Go Go.RowKit
variable {dfs : List Deferred}
def cutL (b : Rect) (l : List Rect) : List Rect := l.map fun r => ⟨max r.x0 b.x0, max r.y0 b.y0, min r.x1 b.x1, min r.y1 b.y1⟩
theorem hasL_cut (b : Rect) (l : List Rect) (x y : Int) : hasL (cutL b l) x y = (hasL l x y && hasL [b] x y) := by
  rw [Bool.eq_iff_iff, Bool.and_eq_true, hasL_true, hasL_true, hasL_true]
  constructor
  · rintro ⟨q, hq, h⟩
    obtain ⟨r, hr, rfl⟩ := List.mem_map.1 hq
    exact ⟨⟨r, hr, by simp only at h; omega⟩, ⟨b, by simp, by simp only at h; omega⟩⟩
  · rintro ⟨⟨r, hr, h⟩, ⟨q, hq, g⟩⟩
    have : q = b := by simpa using hq
    subst this
    exact ⟨_, List.mem_map.2 ⟨r, hr, rfl⟩, by simp only; omega⟩
theorem cut_can (l : List Rect) (b : Rect) : regM andB (canR l) (canR [b]) = canR (cutL b l) :=
  ((regM_isReg (kf := andB) rfl _ _).congr (fun x y => by simp only [keepF, andB, hasL_can, hasL_cut])).unique (canR_isReg _)
theorem own_len {l : List Rect} (b : Rect) (h : l.length ≤ 14) : (regM andB (canR l) (canR [b])).length ≤ 784 := by
  rw [cut_can]; exact canR_small (by simpa [cutL] using h)
end Go.Proofs.YtgpcgfjfmjehgaaGreat

