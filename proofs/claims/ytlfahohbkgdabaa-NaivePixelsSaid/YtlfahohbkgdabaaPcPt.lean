/- Plain words of paint: parts of colors, colors over colors, rectangles that are moved and scaled, layers. -/
import Derived.Test.YtlfahohbkgdabaaPcIc
set_option linter.unusedVariables false
set_option linter.unusedSimpArgs false
namespace Go.Proofs.Ytlfahohbkgdabaa
open Go Go.RowKit

def partI (p q : Int) : Int := (clip p * clip q + 127) / 255
theorem clip_mul (p q : Int) : 0 ≤ clip p * clip q ∧ clip p * clip q ≤ 65025 := by
  have := clip_range p; have := clip_range q
  exact ⟨Int.mul_nonneg (by omega) (by omega), by have := Int.mul_le_mul (show clip p ≤ 255 by omega) (show clip q ≤ 255 by omega) (by omega) (by omega); omega⟩
theorem partI_range (p q : Int) : 0 ≤ partI p q ∧ partI p q ≤ 255 := by
  have := clip_mul p q
  unfold partI; omega
theorem clip_mn (x : Int) : clip (mn x 255) = clip x := by unfold clip mn; omega
def overC (c d : Int) : Int := mkC (pa c + partI (pa d) (255 - pa c)) (pr c + partI (pr d) (255 - pa c)) (pg c + partI (pg d) (255 - pa c)) (pb c + partI (pb d) (255 - pa c))
def fadeC (c al : Int) : Int := mkC (partI (pa c) al) (partI (pr c) al) (partI (pg c) al) (partI (pb c) al)
theorem mkC_mn (a r g b : Int) : mkC (mn a 255) (mn r 255) (mn g 255) (mn b 255) = mkC a r g b := by unfold mkC; rw [clip_mn, clip_mn, clip_mn, clip_mn]
theorem parts_range {c : Int} (h : InC c) : (0 ≤ pa c ∧ pa c ≤ 255) ∧ (0 ≤ pr c ∧ pr c ≤ 255) ∧ (0 ≤ pg c ∧ pg c ≤ 255) ∧ (0 ≤ pb c ∧ pb c ≤ 255) := by
  obtain ⟨h1, h2⟩ := h; unfold pa pr pg pb; omega
theorem overC_in (c d : Int) : InC (overC c d) := mkC_range _ _ _ _
def pixC (c : Int) (xs : List Int) : Int := xs.foldl (fun acc d => overC d acc) c
theorem pixC_take {c : Int} {xs : List Int} {i : Nat} (h : i < xs.length) : overC (xs.getD i 0) (pixC c (xs.take i)) = pixC c (xs.take (i + 1)) := by
  unfold pixC
  rw [List.take_add_one, List.getElem?_eq_getElem h, List.foldl_append]
  simp [List.getD_eq_getElem?_getD, List.getElem?_eq_getElem h]
theorem pixC_snoc (c : Int) (xs : List Int) (d : Int) : pixC c (xs ++ [d]) = overC d (pixC c xs) := by simp [pixC]
theorem pixC_in {c : Int} (h : InC c) : ∀ (xs : List Int), InC (pixC c xs) := by
  intro xs
  rcases List.eq_nil_or_concat xs with h0 | ⟨ys, d, h0⟩
  · subst h0; exact h
  · subst h0; rw [List.concat_eq_append, pixC_snoc]; exact overC_in _ _
/-! ### Rectangles that may be, are scaled and moved -/
def mayR (a b c d : Int) : Bool := decide ((-1048576 ≤ a ∧ a ≤ 1048576) ∧ (-1048576 ≤ b ∧ b ≤ 1048576) ∧ (-1048576 ≤ c ∧ c ≤ 1048576) ∧ (-1048576 ≤ d ∧ d ≤ 1048576) ∧ a ≤ c ∧ b ≤ d)
theorem mayR_true {a b c d : Int} : mayR a b c d = true ↔ (-1048576 ≤ a ∧ a ≤ 1048576) ∧ (-1048576 ≤ b ∧ b ≤ 1048576) ∧ (-1048576 ≤ c ∧ c ≤ 1048576) ∧ (-1048576 ≤ d ∧ d ≤ 1048576) ∧ a ≤ c ∧ b ≤ d := by unfold mayR; rw [decide_eq_true_eq]
def chkR (a b c d : Int) : Rect := if mayR a b c d then ⟨a, b, c, d⟩ else ⟨0, 0, 0, 0⟩
def chkE (a b c d : Int) : Int := if mayR a b c d then 0 else 4
def sclR (a b c d s : Int) : Rect := if s < 1 ∨ s > 8 ∨ mayR a b c d = false then ⟨0, 0, 0, 0⟩ else chkR (a * s) (b * s) (c * s) (d * s)
def sclE (a b c d s : Int) : Int := if s < 1 ∨ s > 8 then 1 else if mayR a b c d = false then 4 else chkE (a * s) (b * s) (c * s) (d * s)
def farM (n : Int) : Int := mn (mx n (-4194304)) 4194304
theorem farM_range (n : Int) : -4194304 ≤ farM n ∧ farM n ≤ 4194304 := by unfold farM mn mx; omega
theorem farM_id {n : Int} (h : -4194304 ≤ n ∧ n ≤ 4194304) : farM n = n := by unfold farM mn mx; omega
def movR (a b c d x y : Int) : Rect := chkR (a + farM x) (b + farM y) (c + farM x) (d + farM y)
def movE (a b c d x y : Int) : Int := chkE (a + farM x) (b + farM y) (c + farM x) (d + farM y)
/-- Where points of an image of these sides are shown. -/
def shwR (W H X Y s a b c d : Int) : Rect :=
  let r := cutR a b c d 0 0 W H
  if emptyB r.x0 r.y0 r.x1 r.y1 then ⟨0, 0, 0, 0⟩ else if sclE r.x0 r.y0 r.x1 r.y1 s ≠ 0 then ⟨0, 0, 0, 0⟩ else
    movR (sclR r.x0 r.y0 r.x1 r.y1 s).x0 (sclR r.x0 r.y0 r.x1 r.y1 s).y0 (sclR r.x0 r.y0 r.x1 r.y1 s).x1 (sclR r.x0 r.y0 r.x1 r.y1 s).y1 X Y
def shwB (W H X Y s a b c d : Int) : Bool :=
  let r := cutR a b c d 0 0 W H
  if emptyB r.x0 r.y0 r.x1 r.y1 then true else if sclE r.x0 r.y0 r.x1 r.y1 s ≠ 0 then false else
    movE (sclR r.x0 r.y0 r.x1 r.y1 s).x0 (sclR r.x0 r.y0 r.x1 r.y1 s).y0 (sclR r.x0 r.y0 r.x1 r.y1 s).x1 (sclR r.x0 r.y0 r.x1 r.y1 s).y1 X Y == 0
theorem sclR_range (a b c d s : Int) : (-1048576 ≤ (sclR a b c d s).x0 ∧ (sclR a b c d s).x0 ≤ 1048576) ∧ (-1048576 ≤ (sclR a b c d s).y0 ∧ (sclR a b c d s).y0 ≤ 1048576) ∧ (-1048576 ≤ (sclR a b c d s).x1 ∧ (sclR a b c d s).x1 ≤ 1048576) ∧ (-1048576 ≤ (sclR a b c d s).y1 ∧ (sclR a b c d s).y1 ≤ 1048576) := by
  unfold sclR chkR
  split
  · decide
  · split
    · rename_i h
      have := mayR_true.1 h
      simp only
      omega
    · decide
/-! ### Layers that may be -/
theorem mul_scale {x s : Int} {m : Int} (h0 : 0 ≤ x) (h1 : x ≤ m) (hs : 1 ≤ s ∧ s ≤ 8) : 0 ≤ x * s ∧ x * s ≤ m * 8 ∧ x ≤ x * s :=
  ⟨Int.mul_nonneg h0 (by omega), Int.mul_le_mul h1 (by omega) (by omega) (by omega), by have := Int.mul_le_mul_of_nonneg_left (show 1 ≤ s by omega) h0; omega⟩
/-- A layer whose image's part is shown where it may be. -/
theorem shw_of {W H X Y s a b c d : Int} (hs : 1 ≤ s ∧ s ≤ 8) (hX : -1048576 ≤ X ∧ X ≤ 1048576) (hY : -1048576 ≤ Y ∧ Y ≤ 1048576) (hw : 1 ≤ W ∧ W ≤ 256) (hh : 1 ≤ H ∧ H ≤ 256) {r : Rect} (hr : r = cutR a b c d 0 0 W H) (hne : emptyB r.x0 r.y0 r.x1 r.y1 = false) :
    shwR W H X Y s a b c d = chkR (X + r.x0 * s) (Y + r.y0 * s) (X + r.x1 * s) (Y + r.y1 * s) ∧ shwB W H X Y s a b c d = mayR (X + r.x0 * s) (Y + r.y0 * s) (X + r.x1 * s) (Y + r.y1 * s) := by
  obtain ⟨h1, h2, h3, h4, h5, h6⟩ := cut_in a b c d (W := W) (H := H) hw.1 hh.1
  unfold shwR shwB
  dsimp only
  rw [← hr] at h1 h2 h3 h4 h5 h6 ⊢
  have hem := emptyB_false.1 hne
  have m0 := mul_scale (m := 256) h1 (by omega) hs
  have m1 := mul_scale (m := 256) (show 0 ≤ r.x1 by omega) (by omega) hs
  have m2 := mul_scale (m := 256) h4 (by omega) hs
  have m3 := mul_scale (m := 256) (show 0 ≤ r.y1 by omega) (by omega) hs
  have l1 := Int.mul_le_mul_of_nonneg_right (show r.x0 ≤ r.x1 by omega) (show 0 ≤ s by omega)
  have l2 := Int.mul_le_mul_of_nonneg_right (show r.y0 ≤ r.y1 by omega) (show 0 ≤ s by omega)
  have hm1 : mayR r.x0 r.y0 r.x1 r.y1 = true := mayR_true.2 (by omega)
  have hm2 : mayR (r.x0 * s) (r.y0 * s) (r.x1 * s) (r.y1 * s) = true := mayR_true.2 (by omega)
  have hE : sclE r.x0 r.y0 r.x1 r.y1 s = 0 := by unfold sclE chkE; rw [if_neg (by omega), hm1, if_neg (by simp), hm2]; rfl
  have hR : sclR r.x0 r.y0 r.x1 r.y1 s = ⟨r.x0 * s, r.y0 * s, r.x1 * s, r.y1 * s⟩ := by unfold sclR chkR; rw [if_neg (by rw [hm1]; simp; omega), hm2]; rfl
  simp only [hne, hE, hR, movR, movE, farM_id (show -4194304 ≤ X ∧ X ≤ 4194304 by omega), farM_id (show -4194304 ≤ Y ∧ Y ≤ 4194304 by omega)]
  rw [Int.add_comm (r.x0 * s) X, Int.add_comm (r.y0 * s) Y, Int.add_comm (r.x1 * s) X, Int.add_comm (r.y1 * s) Y]
  refine ⟨by simp, ?_⟩
  simp only [chkE, Bool.false_eq_true, if_false, ne_eq, not_true_eq_false]
  cases mayR (X + r.x0 * s) (Y + r.y0 * s) (X + r.x1 * s) (Y + r.y1 * s) <;> rfl
/-- Where the document shows a layer. -/
def rboxR (W H X Y s a b c d : Int) : Rect :=
  let r := cutR a b c d 0 0 W H
  if emptyB r.x0 r.y0 r.x1 r.y1 then ⟨0, 0, 0, 0⟩ else ⟨X + r.x0 * s, Y + r.y0 * s, X + r.x1 * s, Y + r.y1 * s⟩
theorem box_same {W H X Y s a b c d : Int} (hs : 1 ≤ s ∧ s ≤ 8) (hX : -1000000 ≤ X ∧ X ≤ 1000000) (hY : -1000000 ≤ Y ∧ Y ≤ 1000000) (hw : 1 ≤ W ∧ W ≤ 256) (hh : 1 ≤ H ∧ H ≤ 256) : shwR W H X Y s a b c d = rboxR W H X Y s a b c d := by
  cases hne : emptyB (cutR a b c d 0 0 W H).x0 (cutR a b c d 0 0 W H).y0 (cutR a b c d 0 0 W H).x1 (cutR a b c d 0 0 W H).y1 with
  | true => simp only [shwR, rboxR, hne, if_true]
  | false =>
    rw [(shw_of hs ⟨by omega, by omega⟩ ⟨by omega, by omega⟩ hw hh rfl hne).1]
    obtain ⟨h1, h2, h3, h4, h5, h6⟩ := cut_in a b c d (W := W) (H := H) hw.1 hh.1
    simp only [rboxR, hne, Bool.false_eq_true, if_false]
    generalize cutR a b c d 0 0 W H = r at *
    have m0 := mul_scale (m := 256) h1 (by omega) hs
    have m1 := mul_scale (m := 256) (show 0 ≤ r.x1 by omega) (by omega) hs
    have m2 := mul_scale (m := 256) h4 (by omega) hs
    have m3 := mul_scale (m := 256) (show 0 ≤ r.y1 by omega) (by omega) hs
    have l1 := Int.mul_le_mul_of_nonneg_right (show r.x0 ≤ r.x1 by omega) (show 0 ≤ s by omega)
    have l2 := Int.mul_le_mul_of_nonneg_right (show r.y0 ≤ r.y1 by omega) (show 0 ≤ s by omega)
    unfold chkR
    rw [if_pos (mayR_true.2 (by omega))]
end Go.Proofs.Ytlfahohbkgdabaa

