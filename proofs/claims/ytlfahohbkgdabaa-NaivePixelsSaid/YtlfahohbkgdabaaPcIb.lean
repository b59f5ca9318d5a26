/- Plain words of the document's images (rondelref01, rondelref03, rondelref04) and of what builds and compares images. -/
import Derived.Test.YtlfahohbkgdabaaPcIm
import Derived.Test.YtlfahohbkgdabaaPcAp
set_option linter.unusedVariables false
set_option linter.unusedSimpArgs false
namespace Go.Proofs.Ytlfahohbkgdabaa
open Go Go.RowKit

def aroundI (n m : Int) : Int := (if n < 0 then 0 - (n + 1) else n) % m
theorem aroundI_range (n : Int) {m : Int} (h : 0 < m) : 0 ≤ aroundI n m ∧ aroundI n m < m := ⟨Int.emod_nonneg _ (by omega), Int.emod_lt_of_pos _ h⟩
def goodC (c : Int) : Int := mkC (pa c) (mn (pr c) (pa c)) (mn (pg c) (pa c)) (mn (pb c) (pa c))
theorem parts_mk (a r g b : Int) : pa (mkC a r g b) = clip a ∧ pr (mkC a r g b) = clip r ∧ pg (mkC a r g b) = clip g ∧ pb (mkC a r g b) = clip b := by
  have := clip_range a; have := clip_range r; have := clip_range g; have := clip_range b
  unfold pa pr pg pb mkC
  omega
theorem pa_range {c : Int} (h : InC c) : 0 ≤ pa c ∧ pa c ≤ 255 := by obtain ⟨h1, h2⟩ := h; unfold pa; omega
theorem goodC_may (c : Int) (h : InC c) : mayB (goodC c) = true ∧ InC (goodC c) := by
  refine ⟨?_, mkC_range _ _ _ _⟩
  obtain ⟨h1, h2, h3, h4⟩ := parts_mk (pa c) (mn (pr c) (pa c)) (mn (pg c) (pa c)) (mn (pb c) (pa c))
  have := pa_range h
  unfold mayB
  rw [goodC, h1, h2, h3, h4]
  simp only [Bool.and_eq_true, decide_eq_true_eq]
  unfold clip mn
  omega
def goodP (n : Nat) (xs : List Int) (i : Nat) : List Int := (List.range n).map fun j => if j < i then goodC (xs.getD j 0) else 0
theorem goodP_length (n : Nat) (xs : List Int) (i : Nat) : (goodP n xs i).length = n := by simp [goodP]
theorem goodP_zero (n : Nat) (xs : List Int) : goodP n xs 0 = List.replicate n 0 := by
  apply List.ext_getElem?
  intro j
  simp only [goodP, List.getElem?_map, List.getElem?_range', List.getElem?_replicate]
  by_cases h : j < n <;> simp [h]
theorem goodP_set {n : Nat} {xs : List Int} {i : Nat} (h : i < n) : (goodP n xs i).set i (goodC (xs.getD i 0)) = goodP n xs (i + 1) := by
  apply List.ext_getElem?
  intro j
  rw [List.getElem?_set]
  simp only [goodP, List.getElem?_map, List.length_map, List.length_range]
  by_cases hj : i = j
  · subst hj
    simp [h]
  · simp only [if_neg hj]
    by_cases hn : j < n
    · simp only [List.getElem?_range hn, Option.map_some]
      by_cases h2 : j < i
      · rw [if_pos h2, if_pos (by omega)]
      · rw [if_neg h2, if_neg (by omega)]
    · simp [hn]
theorem goodC_zero : goodC 0 = 0 := by decide
theorem goodP_end {n : Nat} {xs : List Int} {i : Nat} (h : n ≤ i ∨ xs.length ≤ i) : goodP n xs i = goodP n xs n := by
  unfold goodP
  refine List.map_congr_left fun j hj => ?_
  have hjn : j < n := List.mem_range.1 hj
  rw [if_pos hjn]
  split
  · rfl
  · have : xs.length ≤ j := by omega
    rw [List.getD_eq_getElem?_getD, List.getElem?_eq_none this]
    exact goodC_zero.symm
/-- What comes in where the document makes an image of any numbers and colors. -/
structure GoodIn (a b : Int) (A : Option Addr) (g o n cap : Nat) (xs : List Int) : Prop where
  a : -9223372036854775808 ≤ a ∧ a ≤ 9223372036854775807
  b : -9223372036854775808 ≤ b ∧ b ≤ 9223372036854775807
  len : xs.length = n
  le : n ≤ cap
  mx : cap ≤ maxLen
  rng : ∀ x ∈ xs, InC x
  at_ : 0 < n → A = some ⟨g, o, none⟩
/-- Colors that may be. -/
def AllMay (px : List Int) : Prop := ∀ c ∈ px, mayB c = true ∧ InC c
theorem goodP_may {n : Nat} {xs : List Int} (i : Nat) (h : ∀ x ∈ xs, InC x) : AllMay (goodP n xs i) := by
  intro c hc
  obtain ⟨j, _, rfl⟩ := List.mem_map.1 hc
  split
  · refine goodC_may _ ?_
    rw [List.getD_eq_getElem?_getD]
    cases hx : xs[j]? with
    | none => exact ⟨by simp, by simp⟩
    | some x => exact h x (List.mem_of_getElem? hx)
  · exact ⟨by decide, by decide, by decide⟩
theorem AllMay.get {px : List Int} (h : AllMay px) {i : Nat} (hi : i < px.length) : mayB (px.getD i 0) = true ∧ InC (px.getD i 0) := by
  rw [List.getD_eq_getElem?_getD, List.getElem?_eq_getElem hi]
  exact h _ (List.getElem_mem hi)
theorem imgOk_of {W H : Int} {n : Nat} {px : List Int} (hw : 1 ≤ W ∧ W ≤ 256 ∧ 1 ≤ H ∧ H ≤ 256) (hn : (n : Int) = W * H) (hl : px.length = n) (hm : AllMay px) : ImgOk W H n px :=
  ⟨hw.1, hw.2.1, hw.2.2.1, hw.2.2.2, hn, hl, fun c hc => (hm c hc).2⟩

def setL (W H : Int) (px : List Int) (x y c : Int) : List Int := if hasB 0 0 W H x y && mayB c then px.set (y * W + x).toNat c else px
def setE (W H x y c : Int) : Int := if !hasB 0 0 W H x y then 4 else if !mayB c then 1 else 0
theorem ImgOk.setL {W H : Int} {n : Nat} {px : List Int} (h : ImgOk W H n px) (x y : Int) {c : Int} (hc : InC c) : ImgOk W H n (setL W H px x y c) := by
  unfold Go.Proofs.Ytlfahohbkgdabaa.setL
  split
  · exact h.set _ hc
  · exact h
theorem place_inv (i : Nat) {W : Int} (hW : 1 ≤ W) : (i : Int) / W * W + (i : Int) % W = i := by
  rw [Int.mul_comm]; exact Int.mul_ediv_add_emod _ _
theorem in_box {W H : Int} {n i : Nat} (hW : 1 ≤ W) (hn : (n : Int) = W * H) (hi : i < n) : hasB 0 0 W H ((i : Int) % W) ((i : Int) / W) = true := by
  have h1 := Int.emod_nonneg (i : Int) (show W ≠ 0 by omega)
  have h2 := Int.emod_lt_of_pos (i : Int) (show 0 < W by omega)
  have h3 := Int.ediv_nonneg (show 0 ≤ (i : Int) by omega) (show 0 ≤ W by omega)
  refine hasB_true.2 ⟨h1, h2, h3, ?_⟩
  exact Int.ediv_lt_of_lt_mul (by omega) (by rw [Int.mul_comm, ← hn]; omega)
theorem setL_at {W H : Int} {n i : Nat} {px : List Int} {c : Int} (hW : 1 ≤ W) (hn : (n : Int) = W * H) (hi : i < n) (hc : mayB c = true) : setL W H px ((i : Int) % W) ((i : Int) / W) c = px.set i c := by
  unfold setL
  rw [in_box hW hn hi, hc, Bool.and_self, if_pos rfl, place_inv i hW]
  rfl
def bldP (px : List Int) (i : Nat) : List Int := px.mapIdx fun j c => if j < i then c else 0
theorem bldP_length (px : List Int) (i : Nat) : (bldP px i).length = px.length := by simp [bldP]
theorem bldP_zero (px : List Int) : bldP px 0 = List.replicate px.length 0 := by
  apply List.ext_getElem?
  intro j
  simp only [bldP, List.getElem?_mapIdx, List.getElem?_replicate]
  by_cases h : j < px.length
  · simp [h]
  · simp [h]
theorem bldP_all {px : List Int} {i : Nat} (h : px.length ≤ i) : bldP px i = px := by
  apply List.ext_getElem?
  intro j
  simp only [bldP, List.getElem?_mapIdx]
  by_cases hj : j < px.length
  · simp [hj, show j < i by omega]
  · simp [hj]
theorem bldP_set {px : List Int} {i : Nat} (h : i < px.length) : (bldP px i).set i (px.getD i 0) = bldP px (i + 1) := by
  apply List.ext_getElem?
  intro j
  rw [List.getElem?_set]
  simp only [bldP, List.getElem?_mapIdx, List.length_mapIdx]
  by_cases hj : i = j
  · subst hj
    simp [h]
  · simp only [if_neg hj]
    cases px[j]? with
    | none => rfl
    | some v =>
      simp only [Option.map_some]
      by_cases h2 : j < i
      · rw [if_pos h2, if_pos (by omega)]
      · rw [if_neg h2, if_neg (by omega)]
theorem bldP_may {px : List Int} (h : AllMay px) (i : Nat) : AllMay (bldP px i) := by
  intro c hc
  obtain ⟨j, hj⟩ := List.getElem?_of_mem hc
  simp only [bldP, List.getElem?_mapIdx] at hj
  cases hp : px[j]? with
  | none => rw [hp] at hj; cases hj
  | some v =>
    rw [hp] at hj
    simp only [Option.map_some, Option.some.injEq] at hj
    subst hj
    split
    · exact h v (List.mem_of_getElem? hp)
    · exact ⟨by decide, by decide, by decide⟩
theorem emod_range (i : Nat) {W : Int} (hW : 1 ≤ W) : 0 ≤ (i : Int) % W ∧ (i : Int) % W < W ∧ 0 ≤ (i : Int) / W ∧ (i : Int) / W ≤ i :=
  ⟨Int.emod_nonneg _ (by omega), Int.emod_lt_of_pos _ (by omega), Int.ediv_nonneg (by omega) (by omega), Int.ediv_le_self _ (by omega)⟩

/-! ### Fill, as the document has it: point by point -/
/-! ### Solid -/
/-! ### Two images -/
end Go.Proofs.Ytlfahohbkgdabaa

