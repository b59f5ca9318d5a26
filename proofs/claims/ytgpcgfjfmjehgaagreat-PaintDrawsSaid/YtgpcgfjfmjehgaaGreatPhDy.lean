/- Images of which some points are other ones: as the document tells them, one by one. -/
import Derived.Test.YtgpcgfjfmjehgaaGreatPhDx
set_option linter.unusedVariables false
set_option linter.unusedSimpArgs false
namespace Go.Proofs.YtgpcgfjfmjehgaaGreat
open Go Go.RowKit

def mixL (W : Int) (B : Int → Int → Bool) (g : Int → Int → Int → Int) (px : List Int) : List Int := (List.range px.length).map fun k => if B (((k : Nat) : Int) % W) (((k : Nat) : Int) / W) then g (((k : Nat) : Int) % W) (((k : Nat) : Int) / W) (px.getD k 0) else px.getD k 0
def mixN (W : Int) (B : Int → Int → Bool) (i : Nat) : Nat := ((List.range i).filter fun k => B (((k : Nat) : Int) % W) (((k : Nat) : Int) / W)).length
theorem mixL_length (W : Int) (B : Int → Int → Bool) (g : Int → Int → Int → Int) (px : List Int) : (mixL W B g px).length = px.length := by simp [mixL]
theorem mixL_get {W : Int} {B : Int → Int → Bool} {g : Int → Int → Int → Int} {px : List Int} {k : Nat} (h : k < px.length) : (mixL W B g px).getD k 0 = if B (((k : Nat) : Int) % W) (((k : Nat) : Int) / W) then g (((k : Nat) : Int) % W) (((k : Nat) : Int) / W) (px.getD k 0) else px.getD k 0 := by
  simp [mixL, List.getD_eq_getElem?_getD, h]
theorem take_getD {l : List Int} {i : Nat} (h : i < l.length) : l.take (i + 1) = l.take i ++ [l.getD i 0] := by
  rw [List.take_add_one, List.getElem?_eq_getElem h, List.getD_eq_getElem?_getD, List.getElem?_eq_getElem h]; rfl
theorem mixL_yes {W : Int} {B : Int → Int → Bool} {g : Int → Int → Int → Int} {px : List Int} {i : Nat} (h : i < px.length) (hb : B (((i : Nat) : Int) % W) (((i : Nat) : Int) / W) = true) : (mixL W B g px).take i ++ [g (((i : Nat) : Int) % W) (((i : Nat) : Int) / W) (px.getD i 0)] = (mixL W B g px).take (i + 1) := by
  rw [take_getD (by rw [mixL_length]; exact h), mixL_get h, if_pos hb]
theorem mixL_no {W : Int} {B : Int → Int → Bool} {g : Int → Int → Int → Int} {px : List Int} {i : Nat} (h : i < px.length) (hb : B (((i : Nat) : Int) % W) (((i : Nat) : Int) / W) = false) : (mixL W B g px).take i ++ [px.getD i 0] = (mixL W B g px).take (i + 1) := by
  rw [take_getD (by rw [mixL_length]; exact h), mixL_get h, if_neg (by rw [hb]; decide)]
theorem mixL_full {W : Int} {B : Int → Int → Bool} {g : Int → Int → Int → Int} {px : List Int} {i : Nat} (h : px.length ≤ i) : (mixL W B g px).take i = mixL W B g px := List.take_of_length_le (by rw [mixL_length]; exact h)
theorem mixN_yes {W : Int} {B : Int → Int → Bool} {i : Nat} (hb : B (((i : Nat) : Int) % W) (((i : Nat) : Int) / W) = true) : mixN W B (i + 1) = mixN W B i + 1 := by
  simp [mixN, List.range_succ, List.filter_append, hb]
theorem mixN_no {W : Int} {B : Int → Int → Bool} {i : Nat} (hb : B (((i : Nat) : Int) % W) (((i : Nat) : Int) / W) = false) : mixN W B (i + 1) = mixN W B i := by
  simp [mixN, List.range_succ, List.filter_append, hb]
theorem mixN_le (W : Int) (B : Int → Int → Bool) (i : Nat) : mixN W B i ≤ i := by
  have := List.length_filter_le (fun k => B (((k : Nat) : Int) % W) (((k : Nat) : Int) / W)) (List.range i)
  simpa [mixN] using this
theorem mixL_congr {W : Int} {B B' : Int → Int → Bool} {g g' : Int → Int → Int → Int} {px : List Int} (h : ∀ k, k < px.length → B (((k : Nat) : Int) % W) (((k : Nat) : Int) / W) = B' (((k : Nat) : Int) % W) (((k : Nat) : Int) / W))
    (hg : ∀ k, k < px.length → B' (((k : Nat) : Int) % W) (((k : Nat) : Int) / W) = true → g (((k : Nat) : Int) % W) (((k : Nat) : Int) / W) (px.getD k 0) = g' (((k : Nat) : Int) % W) (((k : Nat) : Int) / W) (px.getD k 0)) : mixL W B g px = mixL W B' g' px := by
  refine list_getD_ext (by rw [mixL_length, mixL_length]) (fun k hk => ?_)
  rw [mixL_length] at hk
  rw [mixL_get hk, mixL_get hk, h k hk]
  split
  · rename_i hh; exact hg k hk hh
  · rfl
theorem mixN_congr {W : Int} {n : Nat} {B B' : Int → Int → Bool} (h : ∀ k, k < n → B (((k : Nat) : Int) % W) (((k : Nat) : Int) / W) = B' (((k : Nat) : Int) % W) (((k : Nat) : Int) / W)) : mixN W B n = mixN W B' n := by
  unfold mixN
  congr 1
  exact List.filter_congr (fun k hk => h k (List.mem_range.1 hk))
theorem drawL_mix (W : Int) (R : List Rect) (f : Int → Int → Int) (px : List Int) : drawL W R f px = mixL W (hasL R) (fun x y d => overC (f x y) d) px := rfl
theorem cntL_mix (W : Int) (n : Nat) (R : List Rect) : cntL W n R = mixN W (hasL R) n := rfl
theorem ImgOk.mixL {W H : Int} {n : Nat} {px : List Int} (h : ImgOk W H n px) (B : Int → Int → Bool) {g : Int → Int → Int → Int} (hg : ∀ x y d, InC d → InC (g x y d)) : ImgOk W H n (mixL W B g px) :=
  ⟨h.w1, h.w2, h.h1, h.h2, h.num, by rw [mixL_length, h.len], fun c hc => by
    obtain ⟨k, hk, rfl⟩ := List.mem_map.1 hc
    have hk := List.mem_range.1 hk
    have hd : InC (px.getD k 0) := h.get (by rw [← h.len]; exact hk)
    split
    · exact hg _ _ _ hd
    · exact hd⟩
/-! ### What is drawn, and cleared, as the document has it -/
/-- Where a layer is drawn. -/
def drwB (W H X Y s a b c d : Int) (l : List Rect) (x y : Int) : Bool := pcolB W H X Y s a b c d x y && hasL l x y
def drwG (f : Int → Int → Int) (x y d : Int) : Int := overC (f x y) d
def clrB (c : Int) (l : List Rect) (x y : Int) : Bool := mayB c && hasL l x y
def clrG (c _x _y _d : Int) : Int := c
theorem draw_same {W H W' H' X Y s a b c d : Int} {n : Nat} {px : List Int} {f : Int → Int → Int} (l : List Rect) (hok : ImgOk W H n px) (hs : 1 ≤ s ∧ s ≤ 8) (hX : -1000000 ≤ X ∧ X ≤ 1000000) (hY : -1000000 ≤ Y ∧ Y ≤ 1000000) (hw : 1 ≤ W' ∧ W' ≤ 256) (hh : 1 ≤ H' ∧ H' ≤ 256) :
    drawL W (regM andB (canR l) (canR [cutR (shwR W' H' X Y s a b c d).x0 (shwR W' H' X Y s a b c d).y0 (shwR W' H' X Y s a b c d).x1 (shwR W' H' X Y s a b c d).y1 0 0 W H])) f px = mixL W (drwB W' H' X Y s a b c d l) (drwG f) px := by
  rw [drawL_mix]
  refine mixL_congr (fun k hk => ?_) (fun _ _ _ => rfl)
  rw [hasDR _ hs hX hY hw hh, in_box hok.w1 hok.num (by rw [← hok.len]; exact hk), Bool.and_true, drwB, Bool.and_comm]
theorem draw_cnt {W H W' H' X Y s a b c d : Int} {n : Nat} (l : List Rect) (hW : 1 ≤ W) (hn : (n : Int) = W * H) (hs : 1 ≤ s ∧ s ≤ 8) (hX : -1000000 ≤ X ∧ X ≤ 1000000) (hY : -1000000 ≤ Y ∧ Y ≤ 1000000) (hw : 1 ≤ W' ∧ W' ≤ 256) (hh : 1 ≤ H' ∧ H' ≤ 256) :
    cntL W n (regM andB (canR l) (canR [cutR (shwR W' H' X Y s a b c d).x0 (shwR W' H' X Y s a b c d).y0 (shwR W' H' X Y s a b c d).x1 (shwR W' H' X Y s a b c d).y1 0 0 W H])) = mixN W (drwB W' H' X Y s a b c d l) n := by
  rw [cntL_mix]
  refine mixN_congr (fun k hk => ?_)
  rw [hasDR _ hs hX hY hw hh, in_box hW hn hk, Bool.and_true, drwB, Bool.and_comm]
theorem hasL_take_succ {R : List Rect} {i : Nat} (h : i < R.length) (x y : Int) : hasL (R.take (i + 1)) x y = (hasL (R.take i) x y || hasB (rget R i).x0 (rget R i).y0 (rget R i).x1 (rget R i).y1 x y) := by
  rw [take_succ_rget h, hasL_append]
  simp [hasL]
theorem clear_step {W H : Int} {n : Nat} {px : List Int} {R : List Rect} {i : Nat} {c : Int} (hok : ImgOk W H n px) (h : i < R.length) :
    fillA W H (mixL W (clrB c (R.take i)) (clrG c) px) (rget R i).x0 (rget R i).y0 (rget R i).x1 (rget R i).y1 c = mixL W (clrB c (R.take (i + 1))) (clrG c) px := by
  unfold fillA
  split
  · rename_i hm
    refine list_getD_ext (by rw [fillP_length, mixL_length, mixL_length]) (fun k hk => ?_)
    rw [fillP_length, mixL_length] at hk
    rw [List.getD_eq_getElem?_getD, fillP_get, List.getElem?_eq_getElem (by rw [mixL_length]; exact hk), mixL_get hk]
    have e : (mixL W (clrB c (R.take i)) (clrG c) px)[k]'(by rw [mixL_length]; exact hk) = (mixL W (clrB c (R.take i)) (clrG c) px).getD k 0 := by
      rw [List.getD_eq_getElem?_getD, List.getElem?_eq_getElem (by rw [mixL_length]; exact hk)]; rfl
    rw [Option.map_some, Option.getD_some, e, mixL_get hk]
    have hb := in_box hok.w1 hok.num (show k < n by rw [← hok.len]; exact hk)
    have hc : hasB (cutR (rget R i).x0 (rget R i).y0 (rget R i).x1 (rget R i).y1 0 0 W H).x0 (cutR (rget R i).x0 (rget R i).y0 (rget R i).x1 (rget R i).y1 0 0 W H).y0 (cutR (rget R i).x0 (rget R i).y0 (rget R i).x1 (rget R i).y1 0 0 W H).x1 (cutR (rget R i).x0 (rget R i).y0 (rget R i).x1 (rget R i).y1 0 0 W H).y1 (((k : Nat) : Int) % W) (((k : Nat) : Int) / W) = hasB (rget R i).x0 (rget R i).y0 (rget R i).x1 (rget R i).y1 (((k : Nat) : Int) % W) (((k : Nat) : Int) / W) := by
      rw [Bool.eq_iff_iff, cutR_has, hb]; simp
    rw [hc]
    simp only [clrB, clrG, hm, Bool.true_and, hasL_take_succ h]
    cases hasL (R.take i) (((k : Nat) : Int) % W) (((k : Nat) : Int) / W) <;> cases hasB (rget R i).x0 (rget R i).y0 (rget R i).x1 (rget R i).y1 (((k : Nat) : Int) % W) (((k : Nat) : Int) / W) <;> simp
  · rename_i hm
    refine mixL_congr (fun k hk => ?_) (fun _ _ _ => rfl)
    simp [clrB, hm]
theorem clear_none (W : Int) (px : List Int) (c : Int) : px = mixL W (clrB c (([] : List Rect))) (clrG c) px := by
  refine list_getD_ext (by rw [mixL_length]) (fun k hk => ?_)
  rw [mixL_get hk, clrB, show hasL [] (((k : Nat) : Int) % W) (((k : Nat) : Int) / W) = false from rfl, Bool.and_false]; rfl
theorem regP_area : ∀ {R : List Rect}, (∀ r ∈ R, emptyR r = false) → (((regP R).length : Nat) : Int) = areaL R := by
  intro R
  induction R with
  | nil => intro _; rfl
  | cons r R ih =>
    intro h
    have h1 := emptyB_false.1 (show emptyB r.x0 r.y0 r.x1 r.y1 = false from h r (List.mem_cons_self ..))
    have e : regP (r :: R) = rectP r (Int.toNat (r.y1 - r.y0)) ++ regP R := by simp [regP]
    have e2 : areaL (r :: R) = areaI r.x0 r.y0 r.x1 r.y1 + areaL R := by simp [areaL]
    rw [e, e2, List.length_append, Int.natCast_add, ih (fun q hq => h q (List.mem_cons_of_mem _ hq)), rectP_length]
    unfold areaI
    rw [if_neg (by rw [show emptyB r.x0 r.y0 r.x1 r.y1 = false from h r (List.mem_cons_self ..)]; simp), Int.natCast_mul, Int.toNat_of_nonneg (by omega), Int.toNat_of_nonneg (by omega), Int.mul_comm (r.y1 - r.y0)]
theorem reg_ne {R : List Rect} {F : Int → Int → Bool} {W H : Int} (hR : IsReg R F) (hin : OnImg W H R) : ∀ r ∈ R, emptyR r = false := fun r hr => by
  have := reg_in hR hin r hr
  exact emptyB_false.2 ⟨this.2.1, this.2.2.2.2.1⟩
theorem clear_area {W H : Int} {n : Nat} {R : List Rect} {F : Int → Int → Bool} (hR : IsReg R F) (hin : OnImg W H R) (hW : 1 ≤ W) (hn : (n : Int) = W * H) : areaL R = ((cntL W n R : Nat) : Int) := by
  rw [← regP_len hR hin hW hn, regP_area (reg_ne hR hin)]
theorem fillN_in {W H : Int} {R : List Rect} {F : Int → Int → Bool} (hR : IsReg R F) (hin : OnImg W H R) {i : Nat} (h : i < R.length) (c : Int) : fillN W H (rget R i).x0 (rget R i).y0 (rget R i).x1 (rget R i).y1 c = if mayB c then areaI (rget R i).x0 (rget R i).y0 (rget R i).x1 (rget R i).y1 else 0 := by
  obtain ⟨h1, h2, h3, h4, h5, h6⟩ := reg_in hR hin _ (rget_mem h)
  unfold fillN
  congr 1
  have : cutR (rget R i).x0 (rget R i).y0 (rget R i).x1 (rget R i).y1 0 0 W H = rget R i := by
    unfold cutR
    rw [show max (rget R i).x0 0 = (rget R i).x0 by omega, show max (rget R i).y0 0 = (rget R i).y0 by omega, show min (rget R i).x1 W = (rget R i).x1 by omega, show min (rget R i).y1 H = (rget R i).y1 by omega, emptyB_false.2 ⟨h2, h5⟩]
    rfl
  rw [this]
theorem clear_same {W H : Int} {n : Nat} {px : List Int} {c : Int} (l : List Rect) (hok : ImgOk W H n px) : mixL W (clrB c (regM andB (canR l) (canR [(⟨0, 0, W, H⟩ : Rect)]))) (clrG c) px = mixL W (clrB c l) (clrG c) px := by
  refine mixL_congr (fun k hk => ?_) (fun _ _ _ => rfl)
  unfold clrB
  rw [hasL_and, hasL_can, hasL_can]
  simp only [hasL, List.any_cons, List.any_nil, Bool.or_false]
  rw [in_box hok.w1 hok.num (by rw [← hok.len]; exact hk), Bool.and_true]
theorem clear_cnt {W H : Int} {n : Nat} {c : Int} (l : List Rect) (hW : 1 ≤ W) (hn : (n : Int) = W * H) : (if mayB c then ((cntL W n (regM andB (canR l) (canR [(⟨0, 0, W, H⟩ : Rect)])) : Nat) : Int) else 0) = ((mixN W (clrB c l) n : Nat) : Int) := by
  cases hm : mayB c with
  | true =>
    rw [if_pos rfl, cntL_mix]
    congr 1
    refine mixN_congr (fun k hk => ?_)
    unfold clrB
    rw [hm, Bool.true_and, hasL_and, hasL_can, hasL_can]
    simp only [hasL, List.any_cons, List.any_nil, Bool.or_false]
    rw [in_box hW hn hk, Bool.and_true]
  | false =>
    rw [if_neg (by decide)]
    have : mixN W (clrB c l) n = mixN W (fun _ _ => false) n := mixN_congr (fun k _ => by simp [clrB, hm])
    rw [this, mixN, List.filter_eq_nil_iff.2 (by simp)]
    rfl
/-- Areas, where a color may be. -/
def clrN (c x : Int) : Int := if mayB c then x else 0
theorem clrN_add (c a b : Int) : clrN c (a + b) = clrN c a + clrN c b := by unfold clrN; split <;> omega
theorem clrN_range (c : Int) {x m : Int} (h : 0 ≤ x ∧ x ≤ m) : 0 ≤ clrN c x ∧ clrN c x ≤ m := by unfold clrN; split <;> omega
theorem area_take {R : List Rect} {F : Int → Int → Bool} {W H : Int} {n : Nat} (hR : IsReg R F) (hin : OnImg W H R) (hW : 1 ≤ W) (hn : (n : Int) = W * H) (i : Nat) : 0 ≤ areaL (R.take i) ∧ areaL (R.take i) ≤ (n : Int) := by
  have hne := reg_ne hR hin
  have h1 := regP_area (R := R.take i) (fun r hr => hne r (List.mem_of_mem_take hr))
  have h2 := regP_area (R := R.drop i) (fun r hr => hne r (List.mem_of_mem_drop hr))
  have h3 : areaL R = areaL (R.take i) + areaL (R.drop i) := by rw [← areaL_append, List.take_append_drop]
  have h4 := clear_area hR hin hW hn
  have h5 := cntL_le W n R
  omega
theorem clear_n {W H : Int} {R : List Rect} {F : Int → Int → Bool} (hR : IsReg R F) (hin : OnImg W H R) {i : Nat} (h : i < R.length) (c : Int) : fillN W H (rget R i).x0 (rget R i).y0 (rget R i).x1 (rget R i).y1 c = clrN c (areaI (rget R i).x0 (rget R i).y0 (rget R i).x1 (rget R i).y1) := fillN_in hR hin h c
theorem drwB_yes {W H X Y s a b c d : Int} {l : List Rect} {x y : Int} (h1 : pcolB W H X Y s a b c d x y = true) (h2 : hasL l x y = true) : drwB W H X Y s a b c d l x y = true := by rw [drwB, h1, h2]; rfl
theorem drwB_no {W H X Y s a b c d : Int} {l : List Rect} {x y : Int} (h : pcolB W H X Y s a b c d x y = false ∨ hasL l x y = false) : drwB W H X Y s a b c d l x y = false := by rcases h with h | h <;> simp [drwB, h]
theorem clrB_yes {c : Int} {l : List Rect} {x y : Int} (h1 : mayB c = true) (h2 : hasL l x y = true) : clrB c l x y = true := by rw [clrB, h1, h2]; rfl
theorem clrB_no {c : Int} {l : List Rect} {x y : Int} (h : mayB c = false ∨ hasL l x y = false) : clrB c l x y = false := by rcases h with h | h <;> simp [clrB, h]
end Go.Proofs.YtgpcgfjfmjehgaaGreat

