/- Laws of what is drawn: nothing, all, by parts. -/
import Derived.Test.YtgpcgfjfmjehgaaPeDw
import Derived.Test.YtgpcgfjfmjehgaaPeOu
set_option linter.unusedVariables false
set_option linter.unusedSimpArgs false
namespace Go.Proofs.Ytgpcgfjfmjehgaa
open Go Go.RowKit

theorem partI_full {p : Int} (h : 0 ≤ p ∧ p ≤ 255) : partI p 255 = p := by
  unfold partI
  rw [clip_id h, show clip 255 = 255 by decide]
  omega
theorem mkC_parts {d : Int} (h : InC d) : mkC (pa d) (pr d) (pg d) (pb d) = d := by
  obtain ⟨⟨a0, a1⟩, ⟨r0, r1⟩, ⟨g0, g1⟩, ⟨b0, b1⟩⟩ := parts_range h
  unfold mkC
  rw [clip_id ⟨a0, a1⟩, clip_id ⟨r0, r1⟩, clip_id ⟨g0, g1⟩, clip_id ⟨b0, b1⟩]
  obtain ⟨h1, h2⟩ := h
  unfold pa pr pg pb
  omega
theorem over_zero {d : Int} (h : InC d) : overC 0 d = d := by
  obtain ⟨ha, hr, hg, hb⟩ := parts_range h
  unfold overC
  rw [show pa 0 = 0 by decide, show pr 0 = 0 by decide, show pg 0 = 0 by decide, show pb 0 = 0 by decide, Int.sub_zero, partI_full ha, partI_full hr, partI_full hg, partI_full hb, Int.zero_add, Int.zero_add, Int.zero_add, Int.zero_add]
  exact mkC_parts h
theorem partI_zero (p : Int) : partI p 0 = 0 := by
  unfold partI
  rw [show clip 0 = 0 by decide, Int.mul_zero]; decide
theorem fade_zero (c : Int) : fadeC c 0 = 0 := by
  unfold fadeC
  rw [partI_zero, partI_zero, partI_zero, partI_zero]; decide
theorem pcol_zero (W H X Y s a b c d : Int) (px : List Int) (x y : Int) : pcolC W H X Y s 0 a b c d px x y = 0 := by
  unfold pcolC
  split
  · exact fade_zero _
  · rfl
theorem drawL_same {W H : Int} {n : Nat} {px : List Int} (hok : ImgOk W H n px) (R : List Rect) {f : Int → Int → Int} (hf : ∀ k, k < n → hasL R (((k : Nat) : Int) % W) (((k : Nat) : Int) / W) = true → overC (f (((k : Nat) : Int) % W) (((k : Nat) : Int) / W)) (px.getD k 0) = px.getD k 0) : drawL W R f px = px := by
  refine list_getD_ext (drawL_length _ _ _ _) (fun k hk => ?_)
  rw [drawL_length] at hk
  rw [drawL_get hk]
  split
  · rename_i h
    exact hf k (by rw [← hok.len]; exact hk) h
  · rfl
theorem ImgOk.get {W H : Int} {n : Nat} {px : List Int} (hok : ImgOk W H n px) {k : Nat} (hk : k < n) : InC (px.getD k 0) := by
  rw [List.getD_eq_getElem?_getD, List.getElem?_eq_getElem (by rw [hok.len]; exact hk)]
  exact hok.rng _ (List.getElem_mem _)
theorem drawL_zero {W H : Int} {n : Nat} {px : List Int} (hok : ImgOk W H n px) (R : List Rect) (W' H' X Y s a b c d : Int) (px' : List Int) : drawL W R (pcolC W' H' X Y s 0 a b c d px') px = px :=
  drawL_same hok R (fun k hk _ => by rw [pcol_zero]; exact over_zero (hok.get hk))

theorem rowP_length (y x : Int) (k : Nat) : (rowP y x k).length = k := by simp [rowP]
theorem rectP_length (r : Rect) (j : Nat) : (rectP r j).length = j * Int.toNat (r.x1 - r.x0) := by
  induction j with
  | zero => simp [rectP]
  | succ j ih => rw [rectP_succ, List.length_append, ih, rowP_length, Nat.succ_mul]
theorem isReg_one {r : Rect} (h : emptyR r = false) : IsReg [r] (hasL [r]) := by
  have := canR_isReg [r]
  rwa [can_one h] at this
theorem cntL_nil (W : Int) (n : Nat) : cntL W n [] = 0 := by simp [cntL, hasL]
theorem cntL_congr {W : Int} {n : Nat} {R S : List Rect} (h : ∀ k, k < n → hasL R (((k : Nat) : Int) % W) (((k : Nat) : Int) / W) = hasL S (((k : Nat) : Int) % W) (((k : Nat) : Int) / W)) : cntL W n R = cntL W n S := by
  unfold cntL
  congr 1
  exact List.filter_congr (fun k hk => h k (List.mem_range.1 hk))
theorem cnt_rect {W H : Int} {n : Nat} {r : Rect} (hin : 0 ≤ r.x0 ∧ r.x1 ≤ W ∧ 0 ≤ r.y0 ∧ r.y1 ≤ H) (hW : 1 ≤ W) (hn : (n : Int) = W * H) : ((cntL W n [r] : Nat) : Int) = areaI r.x0 r.y0 r.x1 r.y1 := by
  cases he : emptyR r with
  | true =>
    have h0 : ∀ x y, hasL [r] x y = false := fun x y => by
      have := emptyB_true.1 he
      simp only [hasL, List.any_cons, List.any_nil, Bool.or_false]
      exact hasB_no (by omega)
    rw [cntL_congr (S := []) (fun k _ => by rw [h0]; rfl), cntL_nil]
    unfold areaI
    rw [if_pos (show emptyB r.x0 r.y0 r.x1 r.y1 = true from he)]
    rfl
  | false =>
    have h1 := emptyB_false.1 he
    rw [← regP_len (isReg_one he) (onImg_one hin) hW hn, regP_one, rectP_length]
    unfold areaI
    rw [if_neg (by rw [show emptyB r.x0 r.y0 r.x1 r.y1 = false from he]; simp), Int.natCast_mul, Int.toNat_of_nonneg (by omega), Int.toNat_of_nonneg (by omega), Int.mul_comm]
theorem cnt_whole {W H a b c d : Int} {n : Nat} (hW : 1 ≤ W) (hH : 1 ≤ H) (hn : (n : Int) = W * H) : ((cntL W n (regM andB (canR [(⟨0, 0, W, H⟩ : Rect)]) (canR [cutR a b c d 0 0 W H])) : Nat) : Int) = areaI (cutR a b c d 0 0 W H).x0 (cutR a b c d 0 0 W H).y0 (cutR a b c d 0 0 W H).x1 (cutR a b c d 0 0 W H).y1 := by
  obtain ⟨h1, h2, h3, h4, h5, h6⟩ := cut_in a b c d hW hH
  rw [← cnt_rect (r := cutR a b c d 0 0 W H) (H := H) ⟨h1, h3, h4, h6⟩ hW hn]
  congr 1
  refine cntL_congr (fun k hk => ?_)
  rw [hasL_and, hasL_can, hasL_can, show hasL [(⟨0, 0, W, H⟩ : Rect)] (((k : Nat) : Int) % W) (((k : Nat) : Int) / W) = true from by simp only [hasL, List.any_cons, List.any_nil, Bool.or_false]; exact in_box hW hn hk]
  rfl
end Go.Proofs.Ytgpcgfjfmjehgaa

