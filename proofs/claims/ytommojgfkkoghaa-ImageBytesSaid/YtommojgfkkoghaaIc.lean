/- Plain words of Copy: points of one image that come into another one. -/
import Derived.Test.YtommojgfkkoghaaIb
set_option linter.unusedVariables false
set_option linter.unusedSimpArgs false
namespace Go.Proofs.Ytommojgfkkoghaa
open Go Go.RowKit

def farI (n : Int) : Int := mn (mx n (-1048576)) 1048576
theorem farI_range (n : Int) : -1048576 ≤ farI n ∧ farI n ≤ 1048576 := by unfold farI mn mx; omega
theorem farI_id {n : Int} (h : -1048576 ≤ n ∧ n ≤ 1048576) : farI n = n := by unfold farI mn mx; omega
/-- The part of a rectangle that lies in the image it comes from, and comes to lie in the image it goes to. -/
def copyR (a b c d W' H' dx dy W H : Int) : Rect :=
  cutR (cutR a b c d 0 0 W' H').x0 (cutR a b c d 0 0 W' H').y0 (cutR a b c d 0 0 W' H').x1 (cutR a b c d 0 0 W' H').y1 (0 - dx) (0 - dy) (W - dx) (H - dy)
theorem cutR_has (a b c d a' b' c' d' x y : Int) : hasB (cutR a b c d a' b' c' d').x0 (cutR a b c d a' b' c' d').y0 (cutR a b c d a' b' c' d').x1 (cutR a b c d a' b' c' d').y1 x y = true ↔ hasB a b c d x y = true ∧ hasB a' b' c' d' x y = true := by
  unfold cutR
  cases h : emptyB (max a a') (max b b') (min c c') (min d d') with
  | true =>
    have := emptyB_true.1 h
    simp only [if_true, hasB_true]
    omega
  | false =>
    simp only [Bool.false_eq_true, if_false, hasB_true]
    omega
theorem cutR_cases (a b c d a' b' c' d' : Int) : ((cutR a b c d a' b' c' d').x0 = 0 ∧ (cutR a b c d a' b' c' d').y0 = 0 ∧ (cutR a b c d a' b' c' d').x1 = 0 ∧ (cutR a b c d a' b' c' d').y1 = 0) ∨
    ((cutR a b c d a' b' c' d').x0 < (cutR a b c d a' b' c' d').x1 ∧ (cutR a b c d a' b' c' d').y0 < (cutR a b c d a' b' c' d').y1) := by
  unfold cutR
  cases h : emptyB (max a a') (max b b') (min c c') (min d d') with
  | true => left; simp
  | false => right; have := emptyB_false.1 h; simpa using this
theorem copyR_has (a b c d W' H' dx dy W H x y : Int) : hasB (copyR a b c d W' H' dx dy W H).x0 (copyR a b c d W' H' dx dy W H).y0 (copyR a b c d W' H' dx dy W H).x1 (copyR a b c d W' H' dx dy W H).y1 x y = true ↔
    hasB a b c d x y = true ∧ hasB 0 0 W' H' x y = true ∧ hasB (0 - dx) (0 - dy) (W - dx) (H - dy) x y = true := by
  unfold copyR
  rw [cutR_has, cutR_has, and_assoc]
/-- All that the loop of Copy needs of its rectangle. -/
theorem copyR_in (a b c d W' H' dx dy W H : Int) {r : Rect} (hr : r = copyR a b c d W' H' dx dy W H) (hW : 1 ≤ W) (hH : 1 ≤ H) (hW' : 1 ≤ W' ∧ W' ≤ 256) (hH' : 1 ≤ H' ∧ H' ≤ 256) :
    (r.x0 = 0 ∧ r.y0 = 0 ∧ r.x1 = 0 ∧ r.y1 = 0) ∨ (0 ≤ r.x0 ∧ r.x0 < r.x1 ∧ r.x1 ≤ W' ∧ 0 ≤ r.y0 ∧ r.y0 < r.y1 ∧ r.y1 ≤ H' ∧ 0 ≤ r.x0 + dx ∧ r.x1 + dx ≤ W ∧ 0 ≤ r.y0 + dy ∧ r.y1 + dy ≤ H) := by
  subst hr
  rcases cutR_cases (cutR a b c d 0 0 W' H').x0 (cutR a b c d 0 0 W' H').y0 (cutR a b c d 0 0 W' H').x1 (cutR a b c d 0 0 W' H').y1 (0 - dx) (0 - dy) (W - dx) (H - dy) with h | ⟨h1, h2⟩
  · exact .inl h
  · right
    have h1' : (copyR a b c d W' H' dx dy W H).x0 < (copyR a b c d W' H' dx dy W H).x1 := h1
    have h2' : (copyR a b c d W' H' dx dy W H).y0 < (copyR a b c d W' H' dx dy W H).y1 := h2
    have p := (copyR_has a b c d W' H' dx dy W H (copyR a b c d W' H' dx dy W H).x0 (copyR a b c d W' H' dx dy W H).y0).1 (hasB_true.2 ⟨Int.le_refl _, h1', Int.le_refl _, h2'⟩)
    have q := (copyR_has a b c d W' H' dx dy W H ((copyR a b c d W' H' dx dy W H).x1 - 1) ((copyR a b c d W' H' dx dy W H).y1 - 1)).1 (hasB_true.2 ⟨by omega, by omega, by omega, by omega⟩)
    obtain ⟨_, p2, p3⟩ := p
    obtain ⟨_, q2, q3⟩ := q
    have p2 := hasB_true.1 p2; have p3 := hasB_true.1 p3; have q2 := hasB_true.1 q2; have q3 := hasB_true.1 q3
    omega
/-- The colors behind a Copy of the rows below y. -/
def copyP (W : Int) (px : List Int) (W' : Int) (px' : List Int) (x0 y0 x1 y dx dy : Int) : List Int :=
  px.mapIdx fun i v => if hasB x0 y0 x1 y ((i : Int) % W - dx) ((i : Int) / W - dy) then px'.getD (Int.toNat (((i : Int) / W - dy) * W' + ((i : Int) % W - dx))) 0 else v
theorem copyP_length (W : Int) (px : List Int) (W' : Int) (px' : List Int) (x0 y0 x1 y dx dy : Int) : (copyP W px W' px' x0 y0 x1 y dx dy).length = px.length := by simp [copyP]
theorem copyP_get (W : Int) (px : List Int) (W' : Int) (px' : List Int) (x0 y0 x1 y dx dy : Int) (j : Nat) : (copyP W px W' px' x0 y0 x1 y dx dy)[j]? = (px[j]?).map fun v => if hasB x0 y0 x1 y ((j : Int) % W - dx) ((j : Int) / W - dy) then px'.getD (Int.toNat (((j : Int) / W - dy) * W' + ((j : Int) % W - dx))) 0 else v := by simp [copyP]
theorem copyP_none (W : Int) (px : List Int) (W' : Int) (px' : List Int) (x0 y0 x1 y dx dy : Int) (h : y ≤ y0) : copyP W px W' px' x0 y0 x1 y dx dy = px := by
  apply List.ext_getElem?
  intro j
  rw [copyP_get]
  cases px[j]? with
  | none => rfl
  | some v => simp only [Option.map_some]; rw [if_neg (fun hh => by have := hasB_true.1 hh; omega)]
theorem copyP_rng {W : Int} {px : List Int} {W' : Int} {px' : List Int} (h : ∀ c ∈ px, InC c) (h' : ∀ c ∈ px', InC c) (x0 y0 x1 y dx dy : Int) : ∀ c ∈ copyP W px W' px' x0 y0 x1 y dx dy, InC c := by
  intro c hc
  obtain ⟨j, hj⟩ := List.getElem?_of_mem hc
  rw [copyP_get] at hj
  cases hp : px[j]? with
  | none => rw [hp] at hj; cases hj
  | some v =>
    rw [hp] at hj
    simp only [Option.map_some, Option.some.injEq] at hj
    have hv := h v (List.mem_of_getElem? hp)
    split at hj
    · subst hj
      rw [List.getD_eq_getElem?_getD]
      cases hx : px'[(Int.toNat (((j : Int) / W - dy) * W' + ((j : Int) % W - dx)))]? with
      | none => exact ⟨by simp, by simp⟩
      | some u => exact h' u (List.mem_of_getElem? hx)
    · subst hj; exact hv
theorem ImgOk.copyP {W H : Int} {n : Nat} {px : List Int} {W' H' : Int} {n' : Nat} {px' : List Int} (h : ImgOk W H n px) (h' : ImgOk W' H' n' px') (x0 y0 x1 y dx dy : Int) : ImgOk W H n (copyP W px W' px' x0 y0 x1 y dx dy) :=
  ⟨h.w1, h.w2, h.h1, h.h2, h.num, by rw [copyP_length]; exact h.len, copyP_rng h.rng h'.rng _ _ _ _ _ _⟩
/-- One row more. -/
theorem copyP_row {W H W' H' : Int} {n n' : Nat} {px px' : List Int} (h : ImgOk W H n px) (h' : ImgOk W' H' n' px') {x0 y0 x1 y dx dy : Int} (hx0 : 0 ≤ x0) (hx : x0 < x1) (hx1 : x1 ≤ W') (hy : y0 ≤ y) (hy0 : 0 ≤ y) (hyH : y < H') (hd0 : 0 ≤ x0 + dx) (hd1 : x1 + dx ≤ W) (he0 : 0 ≤ y + dy) (he1 : y + dy < H)
    {o o' k m : Nat} (ho : o = Int.toNat ((y + dy) * W + (x0 + dx))) (ho' : o' = Int.toNat (y * W' + x0)) (hk : (k : Int) = x1 - x0) (hm : m = k) :
    (Go.Proofs.Ytommojgfkkoghaa.copyP W px W' px' x0 y0 x1 y dx dy).take o ++ ((px'.drop o').take m).take k ++ (Go.Proofs.Ytommojgfkkoghaa.copyP W px W' px' x0 y0 x1 y dx dy).drop (o + k) = Go.Proofs.Ytommojgfkkoghaa.copyP W px W' px' x0 y0 x1 (y + 1) dx dy := by
  subst hm
  have hw1 := h.w1
  have hw1' := h'.w1
  have e0 : 0 ≤ (y + dy) * W := Int.mul_nonneg he0 (by omega)
  have e1 : 0 ≤ y * W' := Int.mul_nonneg hy0 (by omega)
  have pl := h.place (x := x1 + dx - 1) (y := y + dy) (by omega) (by omega) (by omega) (by omega)
  have pl' := h'.place (x := x1 - 1) (y := y) (by omega) (by omega) (by omega) (by omega)
  have hl := h.len
  have hl' := h'.len
  apply List.ext_getElem?
  intro j
  have hjq := place_inv j hw1
  have hjr := emod_range j hw1
  have lo : ((Go.Proofs.Ytommojgfkkoghaa.copyP W px W' px' x0 y0 x1 y dx dy).take o).length = o := by rw [List.length_take, copyP_length]; omega
  have lk : (((px'.drop o').take m).take m).length = m := by simp only [List.length_take, List.length_drop]; omega
  have hrow : ∀ (q : Int), q < y + dy → q * W ≤ (y + dy) * W - W := fun q hq => by
    have := Int.mul_le_mul_of_nonneg_right (show q ≤ y + dy - 1 by omega) (show 0 ≤ W by omega)
    rw [Int.sub_mul] at this; omega
  have hrow' : ∀ (q : Int), y + dy < q → (y + dy) * W + W ≤ q * W := fun q hq => by
    have := Int.mul_le_mul_of_nonneg_right (show y + dy + 1 ≤ q by omega) (show 0 ≤ W by omega)
    rw [Int.add_mul] at this; omega
  rw [copyP_get]
  by_cases h1 : j < o
  · rw [List.getElem?_append_left (by rw [List.length_append, lo]; omega), List.getElem?_append_left (by omega), List.getElem?_take, if_pos h1, copyP_get]
    cases hp : px[j]? with
    | none => rfl
    | some v =>
      simp only [Option.map_some, Option.some.injEq]
      have : hasB x0 y0 x1 (y + 1) ((j : Int) % W - dx) ((j : Int) / W - dy) = hasB x0 y0 x1 y ((j : Int) % W - dx) ((j : Int) / W - dy) := by
        rw [Bool.eq_iff_iff, hasB_true, hasB_true]
        rcases Int.lt_trichotomy ((j : Int) / W) (y + dy) with hq | hq | hq
        · omega
        · rw [hq] at hjq; omega
        · omega
      rw [this]
  · by_cases h2 : j < o + m
    · rw [List.getElem?_append_left (by rw [List.length_append, lo, lk]; omega), List.getElem?_append_right (by omega), lo, List.getElem?_take, if_pos (by omega), List.getElem?_take, if_pos (by omega), List.getElem?_drop]
      have hq : (j : Int) / W = y + dy := by
        rcases Int.lt_trichotomy ((j : Int) / W) (y + dy) with hq | hq | hq
        · have := hrow _ hq; omega
        · exact hq
        · have := hrow' _ hq; omega
      rw [hq] at hjq
      have hjl : j < px.length := by omega
      rw [List.getElem?_eq_getElem hjl, Option.map_some, if_pos (hasB_true.2 (by rw [hq]; omega)), hq]
      rw [show (Int.toNat ((y + dy - dy) * W' + ((j : Int) % W - dx))) = o' + (j - o) by rw [show y + dy - dy = y by omega]; omega]
      have hjl' : o' + (j - o) < px'.length := by omega
      rw [List.getD_eq_getElem?_getD, List.getElem?_eq_getElem hjl']
      rfl
    · rw [List.getElem?_append_right (by rw [List.length_append, lo, lk]; omega), List.length_append, lo, lk, List.getElem?_drop, show o + m + (j - (o + m)) = j by omega, copyP_get]
      cases hp : px[j]? with
      | none => rfl
      | some v =>
        simp only [Option.map_some, Option.some.injEq]
        have : hasB x0 y0 x1 (y + 1) ((j : Int) % W - dx) ((j : Int) / W - dy) = hasB x0 y0 x1 y ((j : Int) % W - dx) ((j : Int) / W - dy) := by
          rw [Bool.eq_iff_iff, hasB_true, hasB_true]
          rcases Int.lt_trichotomy ((j : Int) / W) (y + dy) with hq | hq | hq
          · omega
          · rw [hq] at hjq; omega
          · omega
        rw [this]
theorem copy_at {W H W' H' : Int} {n n' : Nat} {px px' : List Int} (h : ImgOk W H n px) (h' : ImgOk W' H' n' px') (a b c d dx dy : Int) {k : Nat} (hk : k < n) :
    (copyP W px W' px' (copyR a b c d W' H' dx dy W H).x0 (copyR a b c d W' H' dx dy W H).y0 (copyR a b c d W' H' dx dy W H).x1 (copyR a b c d W' H' dx dy W H).y1 dx dy).getD k 0 =
      if hasB 0 0 W' H' ((k : Int) % W - dx) ((k : Int) / W - dy) && hasB a b c d ((k : Int) % W - dx) ((k : Int) / W - dy) then atC W' H' px' ((k : Int) % W - dx) ((k : Int) / W - dy) else px.getD k 0 := by
  have hl := h.len
  have hb := hasB_true.1 (in_box h.w1 h.num hk)
  have hkl : k < px.length := by omega
  rw [List.getD_eq_getElem?_getD, copyP_get, List.getElem?_eq_getElem hkl]
  simp only [Option.map_some, Option.getD_some]
  have hown : hasB (0 - dx) (0 - dy) (W - dx) (H - dy) ((k : Int) % W - dx) ((k : Int) / W - dy) = true := hasB_true.2 (by omega)
  have hiff := copyR_has a b c d W' H' dx dy W H ((k : Int) % W - dx) ((k : Int) / W - dy)
  cases h1 : hasB 0 0 W' H' ((k : Int) % W - dx) ((k : Int) / W - dy) with
  | false =>
    rw [if_neg (fun hh => by have := (hiff.1 hh).2.1; rw [h1] at this; cases this)]
    simp [List.getD_eq_getElem?_getD, List.getElem?_eq_getElem hkl]
  | true =>
    cases h2 : hasB a b c d ((k : Int) % W - dx) ((k : Int) / W - dy) with
    | false =>
      rw [if_neg (fun hh => by have := (hiff.1 hh).1; rw [h2] at this; cases this)]
      simp [List.getD_eq_getElem?_getD, List.getElem?_eq_getElem hkl]
    | true =>
      rw [if_pos (hiff.2 ⟨h2, h1, hown⟩)]
      simp only [Bool.and_self, if_true]
      unfold atC
      rw [h1, if_pos rfl]
end Go.Proofs.Ytommojgfkkoghaa
