/- Images of which some points are other ones: as the document tells them, one by one. -/
import Derived.Test.YtgpcgfjfmjehgaaGreatPiDx
set_option linter.unusedVariables false
set_option linter.unusedSimpArgs false
namespace Go.Proofs.YtgpcgfjfmjehgaaGreat
open Go Go.RowKit

def mixL (W : Int) (B : Int → Int → Bool) (g : Int → Int → Int → Int) (px : List Int) : List Int := (List.range px.length).map fun k => if B (((k : Nat) : Int) % W) (((k : Nat) : Int) / W) then g (((k : Nat) : Int) % W) (((k : Nat) : Int) / W) (px.getD k 0) else px.getD k 0
theorem mixL_length (W : Int) (B : Int → Int → Bool) (g : Int → Int → Int → Int) (px : List Int) : (mixL W B g px).length = px.length := by simp [mixL]
theorem mixL_get {W : Int} {B : Int → Int → Bool} {g : Int → Int → Int → Int} {px : List Int} {k : Nat} (h : k < px.length) : (mixL W B g px).getD k 0 = if B (((k : Nat) : Int) % W) (((k : Nat) : Int) / W) then g (((k : Nat) : Int) % W) (((k : Nat) : Int) / W) (px.getD k 0) else px.getD k 0 := by
  simp [mixL, List.getD_eq_getElem?_getD, h]
theorem mixL_congr {W : Int} {B B' : Int → Int → Bool} {g g' : Int → Int → Int → Int} {px : List Int} (h : ∀ k, k < px.length → B (((k : Nat) : Int) % W) (((k : Nat) : Int) / W) = B' (((k : Nat) : Int) % W) (((k : Nat) : Int) / W))
    (hg : ∀ k, k < px.length → B' (((k : Nat) : Int) % W) (((k : Nat) : Int) / W) = true → g (((k : Nat) : Int) % W) (((k : Nat) : Int) / W) (px.getD k 0) = g' (((k : Nat) : Int) % W) (((k : Nat) : Int) / W) (px.getD k 0)) : mixL W B g px = mixL W B' g' px := by
  refine list_getD_ext (by rw [mixL_length, mixL_length]) (fun k hk => ?_)
  rw [mixL_length] at hk
  rw [mixL_get hk, mixL_get hk, h k hk]
  split
  · rename_i hh; exact hg k hk hh
  · rfl
theorem ImgOk.mixL {W H : Int} {n : Nat} {px : List Int} (h : ImgOk W H n px) (B : Int → Int → Bool) {g : Int → Int → Int → Int} (hg : ∀ x y d, InC d → InC (g x y d)) : ImgOk W H n (mixL W B g px) :=
  ⟨h.w1, h.w2, h.h1, h.h2, h.num, by rw [mixL_length, h.len], fun c hc => by
    obtain ⟨k, hk, rfl⟩ := List.mem_map.1 hc
    have hk := List.mem_range.1 hk
    have hd : InC (px.getD k 0) := h.get (by rw [← h.len]; exact hk)
    split
    · exact hg _ _ _ hd
    · exact hd⟩
theorem mixL_may {W : Int} {px : List Int} (h : AllMay px) (B : Int → Int → Bool) {g : Int → Int → Int → Int} (hg : ∀ x y d, B x y = true → mayB d = true ∧ InC d → mayB (g x y d) = true ∧ InC (g x y d)) : AllMay (mixL W B g px) := by
  intro c hc
  obtain ⟨k, hk, rfl⟩ := List.mem_map.1 hc
  have hk := List.mem_range.1 hk
  split
  · rename_i hb; exact hg _ _ _ hb (h.get hk)
  · exact h.get hk

/-! ### What is drawn, and cleared, as the document has it -/
def clrB (c : Int) (l : List Rect) (x y : Int) : Bool := mayB c && hasL l x y
def clrG (c _x _y _d : Int) : Int := c
theorem hasL_take_succ {R : List Rect} {i : Nat} (h : i < R.length) (x y : Int) : hasL (R.take (i + 1)) x y = (hasL (R.take i) x y || hasB (rget R i).x0 (rget R i).y0 (rget R i).x1 (rget R i).y1 x y) := by
  rw [take_succ_rget h, hasL_append]
  simp [hasL]
theorem clear_step {W H : Int} {n : Nat} {px : List Int} {R : List Rect} {i : Nat} {c : Int} (hok : ImgOk W H n px) (h : i < R.length) :
    fillA W H (mixL W (clrB c (R.take i)) (clrG c) px) (rget R i).x0 (rget R i).y0 (rget R i).x1 (rget R i).y1 c = mixL W (clrB c (R.take (i + 1))) (clrG c) px := by
  unfold fillA
  split
  · rename_i hm
    refine list_getD_ext (by rw [fillP_length, mixL_length, mixL_length]) (fun k hk => ?_)
    rw [fillP_length, mixL_length] at hk
    rw [List.getD_eq_getElem?_getD, fillP_get, List.getElem?_eq_getElem (by rw [mixL_length]; exact hk), mixL_get hk]
    have e : (mixL W (clrB c (R.take i)) (clrG c) px)[k]'(by rw [mixL_length]; exact hk) = (mixL W (clrB c (R.take i)) (clrG c) px).getD k 0 := by
      rw [List.getD_eq_getElem?_getD, List.getElem?_eq_getElem (by rw [mixL_length]; exact hk)]; rfl
    rw [Option.map_some, Option.getD_some, e, mixL_get hk]
    have hb := in_box hok.w1 hok.num (show k < n by rw [← hok.len]; exact hk)
    have hc : hasB (cutR (rget R i).x0 (rget R i).y0 (rget R i).x1 (rget R i).y1 0 0 W H).x0 (cutR (rget R i).x0 (rget R i).y0 (rget R i).x1 (rget R i).y1 0 0 W H).y0 (cutR (rget R i).x0 (rget R i).y0 (rget R i).x1 (rget R i).y1 0 0 W H).x1 (cutR (rget R i).x0 (rget R i).y0 (rget R i).x1 (rget R i).y1 0 0 W H).y1 (((k : Nat) : Int) % W) (((k : Nat) : Int) / W) = hasB (rget R i).x0 (rget R i).y0 (rget R i).x1 (rget R i).y1 (((k : Nat) : Int) % W) (((k : Nat) : Int) / W) := by
      rw [Bool.eq_iff_iff, cutR_has, hb]; simp
    rw [hc]
    simp only [clrB, clrG, hm, Bool.true_and, hasL_take_succ h]
    cases hasL (R.take i) (((k : Nat) : Int) % W) (((k : Nat) : Int) / W) <;> cases hasB (rget R i).x0 (rget R i).y0 (rget R i).x1 (rget R i).y1 (((k : Nat) : Int) % W) (((k : Nat) : Int) / W) <;> simp
  · rename_i hm
    refine mixL_congr (fun k hk => ?_) (fun _ _ _ => rfl)
    simp [clrB, hm]
theorem clear_none (W : Int) (px : List Int) (c : Int) : px = mixL W (clrB c (([] : List Rect))) (clrG c) px := by
  refine list_getD_ext (by rw [mixL_length]) (fun k hk => ?_)
  rw [mixL_get hk, clrB, show hasL [] (((k : Nat) : Int) % W) (((k : Nat) : Int) / W) = false from rfl, Bool.and_false]; rfl
theorem regP_area : ∀ {R : List Rect}, (∀ r ∈ R, emptyR r = false) → (((regP R).length : Nat) : Int) = areaL R := by
  intro R
  induction R with
  | nil => intro _; rfl
  | cons r R ih =>
    intro h
    have h1 := emptyB_false.1 (show emptyB r.x0 r.y0 r.x1 r.y1 = false from h r (List.mem_cons_self ..))
    have e : regP (r :: R) = rectP r (Int.toNat (r.y1 - r.y0)) ++ regP R := by simp [regP]
    have e2 : areaL (r :: R) = areaI r.x0 r.y0 r.x1 r.y1 + areaL R := by simp [areaL]
    rw [e, e2, List.length_append, Int.natCast_add, ih (fun q hq => h q (List.mem_cons_of_mem _ hq)), rectP_length]
    unfold areaI
    rw [if_neg (by rw [show emptyB r.x0 r.y0 r.x1 r.y1 = false from h r (List.mem_cons_self ..)]; simp), Int.natCast_mul, Int.toNat_of_nonneg (by omega), Int.toNat_of_nonneg (by omega), Int.mul_comm (r.y1 - r.y0)]
theorem reg_ne {R : List Rect} {F : Int → Int → Bool} {W H : Int} (hR : IsReg R F) (hin : OnImg W H R) : ∀ r ∈ R, emptyR r = false := fun r hr => by
  have := reg_in hR hin r hr
  exact emptyB_false.2 ⟨this.2.1, this.2.2.2.2.1⟩
theorem clear_area {W H : Int} {n : Nat} {R : List Rect} {F : Int → Int → Bool} (hR : IsReg R F) (hin : OnImg W H R) (hW : 1 ≤ W) (hn : (n : Int) = W * H) : areaL R = ((cntL W n R : Nat) : Int) := by
  rw [← regP_len hR hin hW hn, regP_area (reg_ne hR hin)]
theorem fillN_in {W H : Int} {R : List Rect} {F : Int → Int → Bool} (hR : IsReg R F) (hin : OnImg W H R) {i : Nat} (h : i < R.length) (c : Int) : fillN W H (rget R i).x0 (rget R i).y0 (rget R i).x1 (rget R i).y1 c = if mayB c then areaI (rget R i).x0 (rget R i).y0 (rget R i).x1 (rget R i).y1 else 0 := by
  obtain ⟨h1, h2, h3, h4, h5, h6⟩ := reg_in hR hin _ (rget_mem h)
  unfold fillN
  congr 1
  have : cutR (rget R i).x0 (rget R i).y0 (rget R i).x1 (rget R i).y1 0 0 W H = rget R i := by
    unfold cutR
    rw [show max (rget R i).x0 0 = (rget R i).x0 by omega, show max (rget R i).y0 0 = (rget R i).y0 by omega, show min (rget R i).x1 W = (rget R i).x1 by omega, show min (rget R i).y1 H = (rget R i).y1 by omega, emptyB_false.2 ⟨h2, h5⟩]
    rfl
  rw [this]
/-- Areas, where a color may be. -/
def clrN (c x : Int) : Int := if mayB c then x else 0
theorem clrN_add (c a b : Int) : clrN c (a + b) = clrN c a + clrN c b := by unfold clrN; split <;> omega
theorem clrN_range (c : Int) {x m : Int} (h : 0 ≤ x ∧ x ≤ m) : 0 ≤ clrN c x ∧ clrN c x ≤ m := by unfold clrN; split <;> omega
theorem area_take {R : List Rect} {F : Int → Int → Bool} {W H : Int} {n : Nat} (hR : IsReg R F) (hin : OnImg W H R) (hW : 1 ≤ W) (hn : (n : Int) = W * H) (i : Nat) : 0 ≤ areaL (R.take i) ∧ areaL (R.take i) ≤ (n : Int) := by
  have hne := reg_ne hR hin
  have h1 := regP_area (R := R.take i) (fun r hr => hne r (List.mem_of_mem_take hr))
  have h2 := regP_area (R := R.drop i) (fun r hr => hne r (List.mem_of_mem_drop hr))
  have h3 : areaL R = areaL (R.take i) + areaL (R.drop i) := by rw [← areaL_append, List.take_append_drop]
  have h4 := clear_area hR hin hW hn
  have h5 := cntL_le W n R
  omega
theorem clear_n {W H : Int} {R : List Rect} {F : Int → Int → Bool} (hR : IsReg R F) (hin : OnImg W H R) {i : Nat} (h : i < R.length) (c : Int) : fillN W H (rget R i).x0 (rget R i).y0 (rget R i).x1 (rget R i).y1 c = clrN c (areaI (rget R i).x0 (rget R i).y0 (rget R i).x1 (rget R i).y1) := fillN_in hR hin h c
end Go.Proofs.YtgpcgfjfmjehgaaGreat

