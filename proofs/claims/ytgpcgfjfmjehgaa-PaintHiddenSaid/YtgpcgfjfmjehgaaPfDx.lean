/- Laws of what is drawn: nothing, all, by parts. -/
import Derived.Test.YtgpcgfjfmjehgaaPfDw
import Derived.Test.YtgpcgfjfmjehgaaPfOu
set_option linter.unusedVariables false
set_option linter.unusedSimpArgs false
namespace Go.Proofs.Ytgpcgfjfmjehgaa
open Go Go.RowKit

theorem partI_full {p : Int} (h : 0 ≤ p ∧ p ≤ 255) : partI p 255 = p := by
  unfold partI
  rw [clip_id h, show clip 255 = 255 by decide]
  omega
theorem mkC_parts {d : Int} (h : InC d) : mkC (pa d) (pr d) (pg d) (pb d) = d := by
  obtain ⟨⟨a0, a1⟩, ⟨r0, r1⟩, ⟨g0, g1⟩, ⟨b0, b1⟩⟩ := parts_range h
  unfold mkC
  rw [clip_id ⟨a0, a1⟩, clip_id ⟨r0, r1⟩, clip_id ⟨g0, g1⟩, clip_id ⟨b0, b1⟩]
  obtain ⟨h1, h2⟩ := h
  unfold pa pr pg pb
  omega
theorem partI_zero (p : Int) : partI p 0 = 0 := by
  unfold partI
  rw [show clip 0 = 0 by decide, Int.mul_zero]; decide
theorem ImgOk.get {W H : Int} {n : Nat} {px : List Int} (hok : ImgOk W H n px) {k : Nat} (hk : k < n) : InC (px.getD k 0) := by
  rw [List.getD_eq_getElem?_getD, List.getElem?_eq_getElem (by rw [hok.len]; exact hk)]
  exact hok.rng _ (List.getElem_mem _)
/-! ### Where a drawn layer's points lie -/
theorem hasDR {W H W' H' X Y s a b c d x y : Int} (l : List Rect) (hs : 1 ≤ s ∧ s ≤ 8) (hX : -1000000 ≤ X ∧ X ≤ 1000000) (hY : -1000000 ≤ Y ∧ Y ≤ 1000000) (hw : 1 ≤ W' ∧ W' ≤ 256) (hh : 1 ≤ H' ∧ H' ≤ 256) :
    hasL (regM andB (canR l) (canR [cutR (shwR W' H' X Y s a b c d).x0 (shwR W' H' X Y s a b c d).y0 (shwR W' H' X Y s a b c d).x1 (shwR W' H' X Y s a b c d).y1 0 0 W H])) x y = (hasL l x y && (pcolB W' H' X Y s a b c d x y && hasB 0 0 W H x y)) := by
  rw [hasL_and, hasL_can, hasL_can]
  congr 1
  simp only [hasL, List.any_cons, List.any_nil, Bool.or_false]
  rw [Bool.eq_iff_iff, cutR_has, pcol_box hs hX hY hw hh, Bool.and_eq_true]

/-! ### A solid cover -/
theorem fade_full {c : Int} (h : InC c) : fadeC c 255 = c := by
  obtain ⟨ha, hr, hg, hb⟩ := parts_range h
  unfold fadeC
  rw [partI_full ha, partI_full hr, partI_full hg, partI_full hb]
  exact mkC_parts h
theorem over_solid {c : Int} (h : InC c) (hs : pa c = 255) (d : Int) : overC c d = c := by
  unfold overC
  rw [hs, show (255 : Int) - 255 = 0 by decide, partI_zero, partI_zero, partI_zero, partI_zero, Int.add_zero, Int.add_zero, Int.add_zero, Int.add_zero, ← hs]
  exact mkC_parts h
theorem fillA_may {W H : Int} {px : List Int} (h : AllMay px) (a b c d : Int) {col : Int} (hc : InC col) : AllMay (fillA W H px a b c d col) := by
  unfold fillA
  split
  · rename_i hm
    intro q hq
    obtain ⟨k, hk⟩ := List.getElem?_of_mem hq
    rw [fillP_get] at hk
    obtain ⟨v, hv, rfl⟩ := Option.map_eq_some_iff.1 hk
    split
    · exact ⟨hm, hc⟩
    · exact h v (List.mem_of_getElem? hv)
  · exact h
theorem fillA_get {W H : Int} {n : Nat} {px : List Int} (hok : ImgOk W H n px) {c : Int} (hm : mayB c = true) {k : Nat} (hk : k < n) : (fillA W H px 0 0 W H c).getD k 0 = c := by
  rw [fillA_box hok.w1 hok.h1 hm, List.getD_eq_getElem?_getD, fillP_get, List.getElem?_eq_getElem (by rw [hok.len]; exact hk), Option.map_some, if_pos (in_box hok.w1 hok.num hk)]; rfl
theorem drawL_cover {W H : Int} {n n0 : Nat} {px px0 : List Int} (hok : ImgOk W H n px) (hok0 : ImgOk W H n0 px0) {c : Int} (hc : InC c) (hm : mayB c = true) (hpa : pa c = 255) :
    drawL W (regM andB (canR [(⟨0, 0, W, H⟩ : Rect)]) (canR [cutR (shwR W H 0 0 1 0 0 W H).x0 (shwR W H 0 0 1 0 0 W H).y0 (shwR W H 0 0 1 0 0 W H).x1 (shwR W H 0 0 1 0 0 W H).y1 0 0 W H])) (pcolC W H 0 0 1 255 0 0 W H (fillA W H px0 0 0 W H c)) px = fillA W H px0 0 0 W H c := by
  have hnn : n0 = n := by have h1 := hok.num; have h2 := hok0.num; rw [← h1] at h2; omega
  subst hnn
  refine list_getD_ext (by rw [drawL_length, hok.len, (hok0.fillA 0 0 W H hc).len]) (fun k hk => ?_)
  rw [drawL_length, hok.len] at hk
  have hb := in_box hok.w1 hok.num hk
  have hp : pcolB W H 0 0 1 0 0 W H (((k : Nat) : Int) % W) (((k : Nat) : Int) / W) = true := by
    unfold pcolB
    rw [Int.sub_zero, Int.sub_zero, Int.ediv_one, Int.ediv_one, hb]; rfl
  have hin : hasL [(⟨0, 0, W, H⟩ : Rect)] (((k : Nat) : Int) % W) (((k : Nat) : Int) / W) = true := by simp only [hasL, List.any_cons, List.any_nil, Bool.or_false]; exact hb
  rw [drawL_get (by rw [hok.len]; exact hk), hasDR _ (by omega) (by omega) (by omega) ⟨hok.w1, hok.w2⟩ ⟨hok.h1, hok.h2⟩, hin, hp, hb]
  simp only [Bool.and_self, if_true]
  rw [pcolC, hp, if_pos rfl, Int.sub_zero, Int.sub_zero, Int.ediv_one, Int.ediv_one, atC_at _ hok.w1 hok.num hk, fillA_get hok0 hm hk, fade_full hc, over_solid hc hpa]

/-! ### By parts -/
end Go.Proofs.Ytgpcgfjfmjehgaa

