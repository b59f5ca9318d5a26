/- Laws of what is drawn: nothing, all, by parts. -/
import Derived.Test.YtgpcgfjfmjehgaaPgDw
import Derived.Test.YtgpcgfjfmjehgaaPgOu
set_option linter.unusedVariables false
set_option linter.unusedSimpArgs false
namespace Go.Proofs.Ytgpcgfjfmjehgaa
open Go Go.RowKit

theorem ImgOk.get {W H : Int} {n : Nat} {px : List Int} (hok : ImgOk W H n px) {k : Nat} (hk : k < n) : InC (px.getD k 0) := by
  rw [List.getD_eq_getElem?_getD, List.getElem?_eq_getElem (by rw [hok.len]; exact hk)]
  exact hok.rng _ (List.getElem_mem _)
/-! ### Where a drawn layer's points lie -/
theorem hasDR {W H W' H' X Y s a b c d x y : Int} (l : List Rect) (hs : 1 ≤ s ∧ s ≤ 8) (hX : -1000000 ≤ X ∧ X ≤ 1000000) (hY : -1000000 ≤ Y ∧ Y ≤ 1000000) (hw : 1 ≤ W' ∧ W' ≤ 256) (hh : 1 ≤ H' ∧ H' ≤ 256) :
    hasL (regM andB (canR l) (canR [cutR (shwR W' H' X Y s a b c d).x0 (shwR W' H' X Y s a b c d).y0 (shwR W' H' X Y s a b c d).x1 (shwR W' H' X Y s a b c d).y1 0 0 W H])) x y = (hasL l x y && (pcolB W' H' X Y s a b c d x y && hasB 0 0 W H x y)) := by
  rw [hasL_and, hasL_can, hasL_can]
  congr 1
  simp only [hasL, List.any_cons, List.any_nil, Bool.or_false]
  rw [Bool.eq_iff_iff, cutR_has, pcol_box hs hX hY hw hh, Bool.and_eq_true]

/-! ### A solid cover -/
/-! ### By parts -/
theorem filter_parts {p q r : Nat → Bool} : ∀ {l : List Nat}, (∀ k ∈ l, p k = (q k || r k) ∧ (q k && r k) = false) → (l.filter p).length = (l.filter q).length + (l.filter r).length := by
  intro l
  induction l with
  | nil => intro _; rfl
  | cons k l ih =>
    intro h
    have h1 := ih (fun j hj => h j (List.mem_cons_of_mem _ hj))
    obtain ⟨h2, h3⟩ := h k (List.mem_cons_self ..)
    simp only [List.filter_cons]
    cases hq : q k <;> cases hr : r k <;> simp_all <;> omega
theorem cntL_parts {W : Int} {n : Nat} {R R1 R2 : List Rect} (h : ∀ x y, hasL R x y = (hasL R1 x y || hasL R2 x y) ∧ (hasL R1 x y && hasL R2 x y) = false) : cntL W n R = cntL W n R1 + cntL W n R2 :=
  filter_parts (fun k _ => h _ _)
theorem drawL_parts {W H : Int} {n : Nat} {px : List Int} (hok : ImgOk W H n px) {R R1 R2 : List Rect} {f : Int → Int → Int} (h : ∀ x y, hasL R x y = (hasL R1 x y || hasL R2 x y) ∧ (hasL R1 x y && hasL R2 x y) = false) : drawL W R2 f (drawL W R1 f px) = drawL W R f px := by
  refine list_getD_ext (by simp [drawL_length]) (fun k hk => ?_)
  have hk' : k < px.length := by simpa [drawL_length] using hk
  obtain ⟨h1, h2⟩ := h (((k : Nat) : Int) % W) (((k : Nat) : Int) / W)
  rw [drawL_get (by rw [drawL_length]; exact hk'), drawL_get hk', drawL_get hk', h1]
  cases e1 : hasL R1 (((k : Nat) : Int) % W) (((k : Nat) : Int) / W) <;> cases e2 : hasL R2 (((k : Nat) : Int) % W) (((k : Nat) : Int) / W) <;> simp_all
theorem parts_DR {W H W' H' X Y s a b c d : Int} (P Q : List Rect) (hs : 1 ≤ s ∧ s ≤ 8) (hX : -1000000 ≤ X ∧ X ≤ 1000000) (hY : -1000000 ≤ Y ∧ Y ≤ 1000000) (hw : 1 ≤ W' ∧ W' ≤ 256) (hh : 1 ≤ H' ∧ H' ≤ 256) (x y : Int) :
    let C := canR [cutR (shwR W' H' X Y s a b c d).x0 (shwR W' H' X Y s a b c d).y0 (shwR W' H' X Y s a b c d).x1 (shwR W' H' X Y s a b c d).y1 0 0 W H]
    hasL (regM andB (canR (regM orB P Q)) C) x y = (hasL (regM andB (canR P) C) x y || hasL (regM andB (canR (regM lessB Q P)) C) x y) ∧ (hasL (regM andB (canR P) C) x y && hasL (regM andB (canR (regM lessB Q P)) C) x y) = false := by
  intro C
  rw [hasDR _ hs hX hY hw hh, hasDR _ hs hX hY hw hh, hasDR _ hs hX hY hw hh, hasL_or, hasL_less]
  generalize (pcolB W' H' X Y s a b c d x y && hasB 0 0 W H x y) = z
  cases hasL P x y <;> cases hasL Q x y <;> cases z <;> exact ⟨rfl, rfl⟩
end Go.Proofs.Ytgpcgfjfmjehgaa

