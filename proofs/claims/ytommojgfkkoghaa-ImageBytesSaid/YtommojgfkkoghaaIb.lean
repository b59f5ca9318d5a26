/- Plain words of the document's images (rondelref01, rondelref03, rondelref04) and of what builds and compares images. -/
import Derived.Test.YtommojgfkkoghaaIm
import Derived.Test.YtommojgfkkoghaaAp
set_option linter.unusedVariables false
set_option linter.unusedSimpArgs false
namespace Go.Proofs.Ytommojgfkkoghaa
open Go Go.RowKit

def aroundI (n m : Int) : Int := (if n < 0 then 0 - (n + 1) else n) % m
theorem aroundI_range (n : Int) {m : Int} (h : 0 < m) : 0 ≤ aroundI n m ∧ aroundI n m < m := ⟨Int.emod_nonneg _ (by omega), Int.emod_lt_of_pos _ h⟩
def goodC (c : Int) : Int := mkC (pa c) (mn (pr c) (pa c)) (mn (pg c) (pa c)) (mn (pb c) (pa c))
theorem parts_mk (a r g b : Int) : pa (mkC a r g b) = clip a ∧ pr (mkC a r g b) = clip r ∧ pg (mkC a r g b) = clip g ∧ pb (mkC a r g b) = clip b := by
  have := clip_range a; have := clip_range r; have := clip_range g; have := clip_range b
  unfold pa pr pg pb mkC
  omega
theorem pa_range {c : Int} (h : InC c) : 0 ≤ pa c ∧ pa c ≤ 255 := by obtain ⟨h1, h2⟩ := h; unfold pa; omega
theorem goodC_may (c : Int) (h : InC c) : mayB (goodC c) = true ∧ InC (goodC c) := by
  refine ⟨?_, mkC_range _ _ _ _⟩
  obtain ⟨h1, h2, h3, h4⟩ := parts_mk (pa c) (mn (pr c) (pa c)) (mn (pg c) (pa c)) (mn (pb c) (pa c))
  have := pa_range h
  unfold mayB
  rw [goodC, h1, h2, h3, h4]
  simp only [Bool.and_eq_true, decide_eq_true_eq]
  unfold clip mn
  omega
def goodP (n : Nat) (xs : List Int) (i : Nat) : List Int := (List.range n).map fun j => if j < i then goodC (xs.getD j 0) else 0
theorem goodP_length (n : Nat) (xs : List Int) (i : Nat) : (goodP n xs i).length = n := by simp [goodP]
theorem goodP_zero (n : Nat) (xs : List Int) : goodP n xs 0 = List.replicate n 0 := by
  apply List.ext_getElem?
  intro j
  simp only [goodP, List.getElem?_map, List.getElem?_range', List.getElem?_replicate]
  by_cases h : j < n <;> simp [h]
theorem goodP_set {n : Nat} {xs : List Int} {i : Nat} (h : i < n) : (goodP n xs i).set i (goodC (xs.getD i 0)) = goodP n xs (i + 1) := by
  apply List.ext_getElem?
  intro j
  rw [List.getElem?_set]
  simp only [goodP, List.getElem?_map, List.length_map, List.length_range]
  by_cases hj : i = j
  · subst hj
    simp [h]
  · simp only [if_neg hj]
    by_cases hn : j < n
    · simp only [List.getElem?_range hn, Option.map_some]
      by_cases h2 : j < i
      · rw [if_pos h2, if_pos (by omega)]
      · rw [if_neg h2, if_neg (by omega)]
    · simp [hn]
theorem goodC_zero : goodC 0 = 0 := by decide
theorem goodP_end {n : Nat} {xs : List Int} {i : Nat} (h : n ≤ i ∨ xs.length ≤ i) : goodP n xs i = goodP n xs n := by
  unfold goodP
  refine List.map_congr_left fun j hj => ?_
  have hjn : j < n := List.mem_range.1 hj
  rw [if_pos hjn]
  split
  · rfl
  · have : xs.length ≤ j := by omega
    rw [List.getD_eq_getElem?_getD, List.getElem?_eq_none this]
    exact goodC_zero.symm
/-- What comes in where the document makes an image of any numbers and colors. -/
structure GoodIn (a b : Int) (A : Option Addr) (g o n cap : Nat) (xs : List Int) : Prop where
  a : -9223372036854775808 ≤ a ∧ a ≤ 9223372036854775807
  b : -9223372036854775808 ≤ b ∧ b ≤ 9223372036854775807
  len : xs.length = n
  le : n ≤ cap
  mx : cap ≤ maxLen
  rng : ∀ x ∈ xs, InC x
  at_ : 0 < n → A = some ⟨g, o, none⟩
/-- Colors that may be. -/
def AllMay (px : List Int) : Prop := ∀ c ∈ px, mayB c = true ∧ InC c
theorem goodP_may {n : Nat} {xs : List Int} (i : Nat) (h : ∀ x ∈ xs, InC x) : AllMay (goodP n xs i) := by
  intro c hc
  obtain ⟨j, _, rfl⟩ := List.mem_map.1 hc
  split
  · refine goodC_may _ ?_
    rw [List.getD_eq_getElem?_getD]
    cases hx : xs[j]? with
    | none => exact ⟨by simp, by simp⟩
    | some x => exact h x (List.mem_of_getElem? hx)
  · exact ⟨by decide, by decide, by decide⟩
theorem AllMay.get {px : List Int} (h : AllMay px) {i : Nat} (hi : i < px.length) : mayB (px.getD i 0) = true ∧ InC (px.getD i 0) := by
  rw [List.getD_eq_getElem?_getD, List.getElem?_eq_getElem hi]
  exact h _ (List.getElem_mem hi)
theorem AllMay.rep (n : Nat) : AllMay (List.replicate n 0) := fun c hc => by rw [(List.mem_replicate.1 hc).2]; exact ⟨by decide, by decide, by decide⟩
theorem imgOk_of {W H : Int} {n : Nat} {px : List Int} (hw : 1 ≤ W ∧ W ≤ 256 ∧ 1 ≤ H ∧ H ≤ 256) (hn : (n : Int) = W * H) (hl : px.length = n) (hm : AllMay px) : ImgOk W H n px :=
  ⟨hw.1, hw.2.1, hw.2.2.1, hw.2.2.2, hn, hl, fun c hc => (hm c hc).2⟩

def setL (W H : Int) (px : List Int) (x y c : Int) : List Int := if hasB 0 0 W H x y && mayB c then px.set (y * W + x).toNat c else px
def setE (W H x y c : Int) : Int := if !hasB 0 0 W H x y then 4 else if !mayB c then 1 else 0
theorem ImgOk.setL {W H : Int} {n : Nat} {px : List Int} (h : ImgOk W H n px) (x y : Int) {c : Int} (hc : InC c) : ImgOk W H n (setL W H px x y c) := by
  unfold Go.Proofs.Ytommojgfkkoghaa.setL
  split
  · exact h.set _ hc
  · exact h
theorem place_inv (i : Nat) {W : Int} (hW : 1 ≤ W) : (i : Int) / W * W + (i : Int) % W = i := by
  rw [Int.mul_comm]; exact Int.mul_ediv_add_emod _ _
theorem in_box {W H : Int} {n i : Nat} (hW : 1 ≤ W) (hn : (n : Int) = W * H) (hi : i < n) : hasB 0 0 W H ((i : Int) % W) ((i : Int) / W) = true := by
  have h1 := Int.emod_nonneg (i : Int) (show W ≠ 0 by omega)
  have h2 := Int.emod_lt_of_pos (i : Int) (show 0 < W by omega)
  have h3 := Int.ediv_nonneg (show 0 ≤ (i : Int) by omega) (show 0 ≤ W by omega)
  refine hasB_true.2 ⟨h1, h2, h3, ?_⟩
  exact Int.ediv_lt_of_lt_mul (by omega) (by rw [Int.mul_comm, ← hn]; omega)
theorem setL_at {W H : Int} {n i : Nat} {px : List Int} {c : Int} (hW : 1 ≤ W) (hn : (n : Int) = W * H) (hi : i < n) (hc : mayB c = true) : setL W H px ((i : Int) % W) ((i : Int) / W) c = px.set i c := by
  unfold setL
  rw [in_box hW hn hi, hc, Bool.and_self, if_pos rfl, place_inv i hW]
  rfl
theorem atC_at {W H : Int} {n i : Nat} (px : List Int) (hW : 1 ≤ W) (hn : (n : Int) = W * H) (hi : i < n) : atC W H px ((i : Int) % W) ((i : Int) / W) = px.getD i 0 := by
  unfold atC
  rw [in_box hW hn hi, if_pos rfl, place_inv i hW]
  rfl
def bldP (px : List Int) (i : Nat) : List Int := px.mapIdx fun j c => if j < i then c else 0
theorem bldP_length (px : List Int) (i : Nat) : (bldP px i).length = px.length := by simp [bldP]
theorem bldP_zero (px : List Int) : bldP px 0 = List.replicate px.length 0 := by
  apply List.ext_getElem?
  intro j
  simp only [bldP, List.getElem?_mapIdx, List.getElem?_replicate]
  by_cases h : j < px.length
  · simp [h]
  · simp [h]
theorem bldP_all {px : List Int} {i : Nat} (h : px.length ≤ i) : bldP px i = px := by
  apply List.ext_getElem?
  intro j
  simp only [bldP, List.getElem?_mapIdx]
  by_cases hj : j < px.length
  · simp [hj, show j < i by omega]
  · simp [hj]
theorem bldP_set {px : List Int} {i : Nat} (h : i < px.length) : (bldP px i).set i (px.getD i 0) = bldP px (i + 1) := by
  apply List.ext_getElem?
  intro j
  rw [List.getElem?_set]
  simp only [bldP, List.getElem?_mapIdx, List.length_mapIdx]
  by_cases hj : i = j
  · subst hj
    simp [h]
  · simp only [if_neg hj]
    cases px[j]? with
    | none => rfl
    | some v =>
      simp only [Option.map_some]
      by_cases h2 : j < i
      · rw [if_pos h2, if_pos (by omega)]
      · rw [if_neg h2, if_neg (by omega)]
theorem bldP_may {px : List Int} (h : AllMay px) (i : Nat) : AllMay (bldP px i) := by
  intro c hc
  obtain ⟨j, hj⟩ := List.getElem?_of_mem hc
  simp only [bldP, List.getElem?_mapIdx] at hj
  cases hp : px[j]? with
  | none => rw [hp] at hj; cases hj
  | some v =>
    rw [hp] at hj
    simp only [Option.map_some, Option.some.injEq] at hj
    subst hj
    split
    · exact h v (List.mem_of_getElem? hp)
    · exact ⟨by decide, by decide, by decide⟩
theorem emod_range (i : Nat) {W : Int} (hW : 1 ≤ W) : 0 ≤ (i : Int) % W ∧ (i : Int) % W < W ∧ 0 ≤ (i : Int) / W ∧ (i : Int) / W ≤ i :=
  ⟨Int.emod_nonneg _ (by omega), Int.emod_lt_of_pos _ (by omega), Int.ediv_nonneg (by omega) (by omega), Int.ediv_le_self _ (by omega)⟩

/-! ### Fill, as the document has it: point by point -/
theorem fillP_take {W : Int} {px : List Int} {x0 y0 x1 y1 c : Int} {i : Nat} (h : i < px.length) :
    (fillP W px x0 y0 x1 y1 c).take i ++ [if hasB x0 y0 x1 y1 ((i : Int) % W) ((i : Int) / W) then c else px.getD i 0] = (fillP W px x0 y0 x1 y1 c).take (i + 1) := by
  rw [List.take_add_one, fillP_get, List.getElem?_eq_getElem h]
  simp [List.getD_eq_getElem?_getD, List.getElem?_eq_getElem h]
theorem fillP_full {W : Int} {px : List Int} {x0 y0 x1 y1 c : Int} {i : Nat} (h : px.length ≤ i) : (fillP W px x0 y0 x1 y1 c).take i = fillP W px x0 y0 x1 y1 c := List.take_of_length_le (by rw [fillP_length]; exact h)
/-- How many of the first i points lie in a rectangle. -/
def cntP (W a b c d : Int) : Nat → Int
  | 0 => 0
  | i + 1 => cntP W a b c d i + if hasB a b c d ((i : Int) % W) ((i : Int) / W) then 1 else 0
theorem cntP_range (W a b c d : Int) : ∀ i : Nat, 0 ≤ cntP W a b c d i ∧ cntP W a b c d i ≤ i := by
  intro i
  induction i with
  | zero => simp [cntP]
  | succ i ih =>
    simp only [cntP]
    split <;> omega

/-! ### Solid -/
def nsB (c : Int) : Bool := !(pa c == 255)
def idxN (ys : List Int) : Int := if ys.any nsB then (ys.findIdx nsB : Nat) else -1
theorem idxN_none {ys : List Int} (h : ∀ j, j < ys.length → nsB (ys.getD j 0) = false) : idxN ys = -1 := by
  unfold idxN
  rw [if_neg]
  simp only [List.any_eq_true, not_exists, not_and]
  intro x hx
  obtain ⟨j, hj⟩ := List.getElem?_of_mem hx
  have hl := (List.getElem?_eq_some_iff.1 hj).1
  have := h j hl
  rw [List.getD_eq_getElem?_getD, hj] at this
  simpa using this
theorem idxN_some {ys : List Int} {i : Nat} (hi : i < ys.length) (h : ∀ j, j < i → nsB (ys.getD j 0) = false) (hs : nsB (ys.getD i 0) = true) : idxN ys = i := by
  have gi : ∀ j, j < ys.length → ys.getD j 0 = ys[j]! := fun j hj => by simp [List.getD_eq_getElem?_getD, hj]
  unfold idxN
  rw [if_pos]
  · congr 1
    rw [List.findIdx_eq hi]
    refine ⟨?_, fun j hj => ?_⟩
    · have := hs; rw [List.getD_eq_getElem?_getD, List.getElem?_eq_getElem hi] at this; simpa using this
    · have := h j hj; rw [List.getD_eq_getElem?_getD, List.getElem?_eq_getElem (by omega)] at this; simpa using this
  · rw [List.any_eq_true]
    refine ⟨ys[i], List.getElem_mem hi, ?_⟩
    have := hs; rw [List.getD_eq_getElem?_getD, List.getElem?_eq_getElem hi] at this; simpa using this
theorem idxN_ge (ys : List Int) : decide (idxN ys ≥ 0) = ys.any nsB := by
  unfold idxN
  cases h : ys.any nsB
  · simp
  · simp
/-- All points of a rectangle are solid. -/
def solidP (W : Int) (px : List Int) (a b c d : Int) : Bool := decide (∀ i, i < px.length → hasB a b c d ((i : Int) % W) ((i : Int) / W) = true → nsB (px.getD i 0) = false)
def rowNS (W : Int) (px : List Int) (y x0 x1 : Int) : Bool := ((px.drop (Int.toNat (y * W + x0))).take (Int.toNat (y * W + x1) - Int.toNat (y * W + x0))).any nsB
theorem rowNS_false {W H : Int} {n : Nat} {px : List Int} (h : ImgOk W H n px) {y x0 x1 : Int} (hy : 0 ≤ y ∧ y < H) (hx : 0 ≤ x0 ∧ x0 ≤ x1 ∧ x1 ≤ W) :
    rowNS W px y x0 x1 = false ↔ ∀ x, x0 ≤ x → x < x1 → nsB (px.getD (y * W + x).toNat 0) = false := by
  have hp0 := h.w1
  have e0 : 0 ≤ y * W := Int.mul_nonneg hy.1 (by omega)
  have hl := h.len
  have hin : ∀ x, x0 ≤ x → x < x1 → (y * W + x).toNat < px.length := fun x h0 h1 => by
    have := h.place (x := x) (y := y) (by omega) (by omega) hy.1 hy.2
    omega
  unfold rowNS
  rw [List.any_eq_false]
  constructor
  · intro hh x h0 h1
    have hj : ((px.drop (Int.toNat (y * W + x0))).take (Int.toNat (y * W + x1) - Int.toNat (y * W + x0)))[(x - x0).toNat]? = px[(y * W + x).toNat]? := by
      rw [List.getElem?_take, if_pos (by omega), List.getElem?_drop]
      congr 1
      omega
    rw [List.getElem?_eq_getElem (hin x h0 h1)] at hj
    have := hh _ (List.mem_of_getElem? hj)
    rw [List.getD_eq_getElem?_getD, List.getElem?_eq_getElem (hin x h0 h1)]
    simpa using this
  · intro hh v hv
    obtain ⟨j, hj⟩ := List.getElem?_of_mem hv
    rw [List.getElem?_take] at hj
    split at hj
    · rename_i hlt
      rw [List.getElem?_drop] at hj
      have := hh (x0 + j) (by omega) (by omega)
      rw [show (y * W + (x0 + (j : Int))).toNat = Int.toNat (y * W + x0) + j by omega, List.getD_eq_getElem?_getD, hj] at this
      simpa using this
    · cases hj
theorem cut_has (a b c d W H x y : Int) : hasB (cutR a b c d 0 0 W H).x0 (cutR a b c d 0 0 W H).y0 (cutR a b c d 0 0 W H).x1 (cutR a b c d 0 0 W H).y1 x y = true ↔ hasB a b c d x y = true ∧ hasB 0 0 W H x y = true := by
  unfold cutR
  cases h : emptyB (max a 0) (max b 0) (min c W) (min d H) with
  | true =>
    have := emptyB_true.1 h
    simp only [if_true, hasB_true]
    omega
  | false =>
    simp only [Bool.false_eq_true, if_false, hasB_true]
    omega
theorem solidP_rows {W H : Int} {n : Nat} {px : List Int} (h : ImgOk W H n px) {a b c d : Int} (hr : ∀ y, (cutR a b c d 0 0 W H).y0 ≤ y → y < (cutR a b c d 0 0 W H).y1 → rowNS W px y (cutR a b c d 0 0 W H).x0 (cutR a b c d 0 0 W H).x1 = false) : solidP W px a b c d = true := by
  unfold solidP
  rw [decide_eq_true_eq]
  intro i hi hb
  have hbox := in_box h.w1 h.num (i := i) (by rw [← h.len]; exact hi)
  have hc := hasB_true.1 ((cut_has a b c d W H _ _).2 ⟨hb, hbox⟩)
  obtain ⟨h1, h2, h3, h4, h5, h6⟩ := cut_in a b c d (W := W) (H := H) h.w1 h.h1
  have := (rowNS_false h (y := (i : Int) / W) ⟨by omega, by omega⟩ ⟨h1, h2, h3⟩).1 (hr _ hc.2.2.1 hc.2.2.2) _ hc.1 hc.2.1
  rw [place_inv i h.w1] at this
  simpa using this
theorem solidP_not {W H : Int} {n : Nat} {px : List Int} (h : ImgOk W H n px) {a b c d y : Int} (h0 : (cutR a b c d 0 0 W H).y0 ≤ y) (h1 : y < (cutR a b c d 0 0 W H).y1) (hr : rowNS W px y (cutR a b c d 0 0 W H).x0 (cutR a b c d 0 0 W H).x1 = true) : solidP W px a b c d = false := by
  cases hs : solidP W px a b c d with
  | false => rfl
  | true =>
    unfold solidP at hs
    rw [decide_eq_true_eq] at hs
    obtain ⟨g1, g2, g3, g4, g5, g6⟩ := cut_in a b c d (W := W) (H := H) h.w1 h.h1
    have : rowNS W px y (cutR a b c d 0 0 W H).x0 (cutR a b c d 0 0 W H).x1 = false := by
      refine (rowNS_false h (y := y) ⟨by omega, by omega⟩ ⟨g1, g2, g3⟩).2 fun x hx0 hx1 => ?_
      have hp := h.place (x := x) (y := y) (by omega) (by omega) (by omega) (by omega)
      have hw := h.w1
      have e : (((y * W + x).toNat : Nat) : Int) = y * W + x := by omega
      have em : (y * W + x) % W = x := by rw [Int.add_comm, Int.add_mul_emod_self_right]; exact Int.emod_eq_of_lt (by omega) (by omega)
      have ed : (y * W + x) / W = y := by rw [Int.add_comm, Int.add_mul_ediv_right _ _ (by omega), Int.ediv_eq_zero_of_lt (by omega) (by omega)]; omega
      refine hs _ (by rw [h.len]; omega) ?_
      rw [e, em, ed]
      exact ((cut_has a b c d W H x y).1 (hasB_true.2 ⟨hx0, hx1, h0, h1⟩)).1
    rw [hr] at this; cases this
theorem cut_box {W H : Int} (hW : 1 ≤ W) (hH : 1 ≤ H) : cutR 0 0 W H 0 0 W H = ⟨0, 0, W, H⟩ := by
  unfold cutR
  rw [show max (0 : Int) 0 = 0 by omega, show min W W = W by omega, show min H H = H by omega, show emptyB 0 0 W H = false from emptyB_false.2 ⟨by omega, by omega⟩]
  simp
theorem fillN_box {W H c : Int} (hW : 1 ≤ W) (hH : 1 ≤ H) (hc : mayB c = true) : fillN W H 0 0 W H c = W * H := by
  unfold fillN
  rw [if_pos hc, cut_box hW hH]
  simp only [areaI]
  rw [show emptyB 0 0 W H = false from emptyB_false.2 ⟨by omega, by omega⟩]
  simp
theorem fillA_box {W H c : Int} {px : List Int} (hW : 1 ≤ W) (hH : 1 ≤ H) (hc : mayB c = true) : fillA W H px 0 0 W H c = fillP W px 0 0 W H c := by
  unfold fillA
  rw [if_pos hc, cut_box hW hH]
theorem nsB_iff {c : Int} (h : InC c) : nsB c = !(decide (c ≥ 4278190080)) := by
  obtain ⟨h1, h2⟩ := h
  unfold nsB pa
  rw [Bool.eq_iff_iff]
  simp
  omega
theorem solid_fill {W H c : Int} {n : Nat} {px : List Int} (hok : ImgOk W H n px) (hc : InC c) : solidP W (fillP W px 0 0 W H c) 0 0 W H = decide (c ≥ 4278190080) := by
  have hle := hok.le
  have hlen := hok.len
  have hget : ∀ i, i < px.length → (fillP W px 0 0 W H c).getD i 0 = c := fun i hi => by
    rw [List.getD_eq_getElem?_getD, fillP_get, List.getElem?_eq_getElem hi, Option.map_some, if_pos (in_box hok.w1 hok.num (by omega))]; rfl
  unfold solidP
  rw [Bool.eq_iff_iff, decide_eq_true_eq, decide_eq_true_eq, fillP_length]
  constructor
  · intro h
    have := h 0 (by omega) (in_box hok.w1 hok.num (by omega))
    rw [hget 0 (by omega), nsB_iff hc] at this
    simpa using this
  · intro h i hi _
    rw [hget i hi, nsB_iff hc]
    simpa using h
/-! ### Two images -/
def sameB (W H : Int) (xs : List Int) (W' H' : Int) (ys : List Int) : Bool := decide (W = W' ∧ H = H' ∧ xs = ys)
theorem sameB_self (W H : Int) (xs : List Int) : sameB W H xs W H xs = true := by simp [sameB]
theorem list_ne_getD {xs ys : List Int} {j : Nat} (h : xs.getD j 0 ≠ ys.getD j 0) : xs ≠ ys := fun e => h (by rw [e])
end Go.Proofs.Ytommojgfkkoghaa
