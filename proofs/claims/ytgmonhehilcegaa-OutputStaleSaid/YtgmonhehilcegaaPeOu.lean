/- Outputs: the plain words. -/
import Derived.Test.YtgmonhehilcegaaPeRq
set_option linter.unusedVariables false
set_option linter.unusedSimpArgs false
namespace Go.Proofs.Ytgmonhehilcegaa
open Go Go.RowKit
variable {dfs : List Deferred}
theorem drawn_three {P : Program} {Q : Exit → Act → World → Prop} {n : Nat} {w0 : World} {L : List (Nat × Value)} {T : List Ent} {ops : Array Oper} {m fuel : Nat} {l : List Nat} {S : World → Prop} (i j k fuel' : Nat) (hf : fuel = fuel' + 1) (hr : Region.ready .any ops (marked m l) = [i, j, k])
    (h : Cont dfs (wpOp P ops Q i (fun a w => S w ∧ AH P ops Q S m fuel' (i :: l) a w)) n w0 L T)
    (h' : Cont dfs (wpOp P ops Q j (fun a w => S w ∧ AH P ops Q S m fuel' (j :: l) a w)) n w0 L T)
    (h3 : Cont dfs (wpOp P ops Q k (fun a w => S w ∧ AH P ops Q S m fuel' (k :: l) a w)) n w0 L T) : Cont dfs (AH P ops Q S m fuel l) n w0 L T := by
  subst hf
  intro a w ha hfr hT
  refine wpAnyH_all hr (by simp) (fun q hq => ?_)
  simp only [List.mem_cons, List.not_mem_nil, or_false] at hq
  rcases hq with rfl | rfl | rfl
  · exact h a w ha hfr hT
  · exact h' a w ha hfr hT
  · exact h3 a w ha hfr hT
theorem regM_len (kf : Bool → Bool → Bool) (a b : List Rect) {n : Nat} (h : a.length + b.length ≤ n) : (regM kf a b).length ≤ (2 * n) * (2 * n) := by
  have h1 := ysP_length a b
  have h2 := mgSt_length (al := fun a b _ => alikeL a b) (own := fun i => bandP kf a b ((ysP a b).getD i 0) ((ysP a b).getD (i + 1) 0)) (ys := ysP a b) (m := 2 * (a.length + b.length)) (fun i => bandP_length kf a b _ _) ((ysP a b).length - 1)
  have h3 : ((ysP a b).length - 1) * (2 * (a.length + b.length)) ≤ (2 * n) * (2 * n) := Nat.mul_le_mul (by omega) (by omega)
  unfold regM mgL
  rw [List.length_append]
  omega
def cutL (b : Rect) (l : List Rect) : List Rect := l.map fun r => ⟨max r.x0 b.x0, max r.y0 b.y0, min r.x1 b.x1, min r.y1 b.y1⟩
theorem hasL_cut (b : Rect) (l : List Rect) (x y : Int) : hasL (cutL b l) x y = (hasL l x y && hasL [b] x y) := by
  rw [Bool.eq_iff_iff, Bool.and_eq_true, hasL_true, hasL_true, hasL_true]
  constructor
  · rintro ⟨q, hq, h⟩
    obtain ⟨r, hr, rfl⟩ := List.mem_map.1 hq
    exact ⟨⟨r, hr, by simp only at h; omega⟩, ⟨b, by simp, by simp only at h; omega⟩⟩
  · rintro ⟨⟨r, hr, h⟩, ⟨q, hq, g⟩⟩
    have : q = b := by simpa using hq
    subst this
    exact ⟨_, List.mem_map.2 ⟨r, hr, rfl⟩, by simp only; omega⟩
theorem cut_can (l : List Rect) (b : Rect) : regM andB (canR l) (canR [b]) = canR (cutL b l) :=
  ((regM_isReg (kf := andB) rfl _ _).congr (fun x y => by simp only [keepF, andB, hasL_can, hasL_cut])).unique (canR_isReg _)
theorem own_len {l : List Rect} (b : Rect) (h : l.length ≤ 14) : (regM andB (canR l) (canR [b])).length ≤ 784 := by
  rw [cut_can]; exact canR_small (by simpa [cutL] using h)
theorem can_one {r : Rect} (h : emptyR r = false) : canR [r] = [r] :=
  ((may_iff [r]).1 (fun i hi => by
    have : i = 0 := by simpa using hi
    subst this
    exact ⟨h, fun h0 => by omega, fun h0 => by omega, fun h0 => by omega⟩)).symm
theorem regM_ne {kf : Bool → Bool → Bool} (h0 : kf false false = false) (a b : List Rect) : ∀ r ∈ regM kf a b, emptyR r = false := by
  have e : regM kf a b = canR (regM kf a b) := ((canR_isReg (regM kf a b)).unique (regM_isReg h0 a b).self).symm
  intro r hr
  obtain ⟨i, hi, rfl⟩ := List.mem_iff_getElem.1 hr
  rw [rget_eq hi]
  exact ((may_iff _).2 e i hi).ne
theorem keep_len64 (f : List Rect → Rect) (l : List Rect) : (keepL f l 64).length ≤ 64 := by
  unfold keepL
  split
  · omega
  · split
    · simp
    · simp
end Go.Proofs.Ytgmonhehilcegaa

