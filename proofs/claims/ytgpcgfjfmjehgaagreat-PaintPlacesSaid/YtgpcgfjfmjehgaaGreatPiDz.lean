/- Where points of a layer's image are shown: the program's rectangles, the document's. -/
import Derived.Test.YtgpcgfjfmjehgaaGreatPiDy
set_option linter.unusedVariables false
set_option linter.unusedSimpArgs false
namespace Go.Proofs.YtgpcgfjfmjehgaaGreat
open Go Go.RowKit

/-- Where a rectangle of a layer's image is shown. -/
def shQ (W H X Y s : Int) (r : Rect) : Rect := shwR W H X Y s r.x0 r.y0 r.x1 r.y1
theorem map_put {f : Rect → Rect} {R : List Rect} {i : Nat} (h : i < R.length) : (R.take i).map f ++ [(⟨(f (rget R i)).x0, (f (rget R i)).y0, (f (rget R i)).x1, (f (rget R i)).y1⟩ : Rect)] = (R.take (i + 1)).map f := by
  rw [take_succ_rget h, List.map_append]; rfl
theorem hasL_shown {W H X Y s : Int} (hs : 1 ≤ s ∧ s ≤ 8) (hX : -1000000 ≤ X ∧ X ≤ 1000000) (hY : -1000000 ≤ Y ∧ Y ≤ 1000000) (hw : 1 ≤ W ∧ W ≤ 256) (hh : 1 ≤ H ∧ H ≤ 256) (R : List Rect) (p q : Int) :
    hasL (R.map (shQ W H X Y s)) p q = (hasB 0 0 W H ((p - X) / s) ((q - Y) / s) && hasL R ((p - X) / s) ((q - Y) / s)) := by
  induction R with
  | nil => simp [hasL]
  | cons r R ih =>
    have e : hasL ((r :: R).map (shQ W H X Y s)) p q = (hasB (shQ W H X Y s r).x0 (shQ W H X Y s r).y0 (shQ W H X Y s r).x1 (shQ W H X Y s r).y1 p q || hasL (R.map (shQ W H X Y s)) p q) := by simp [hasL]
    have e2 : hasL (r :: R) ((p - X) / s) ((q - Y) / s) = (hasB r.x0 r.y0 r.x1 r.y1 ((p - X) / s) ((q - Y) / s) || hasL R ((p - X) / s) ((q - Y) / s)) := by simp [hasL]
    rw [e, e2, ih]
    unfold shQ
    rw [pcol_box hs hX hY hw hh]
    unfold pcolB
    cases hasB 0 0 W H ((p - X) / s) ((q - Y) / s) <;> simp
/-- The program's place of points. -/
def placeP (W H X Y s : Int) (l : List Rect) (r : Rect) : List Rect := canR ((regM andB (canR l) (canR [r])).map (shQ W H X Y s))
theorem hasL_one (r : Rect) (x y : Int) : hasL [r] x y = hasB r.x0 r.y0 r.x1 r.y1 x y := by simp [hasL]
theorem hasL_place {W H X Y s : Int} (hs : 1 ≤ s ∧ s ≤ 8) (hX : -1000000 ≤ X ∧ X ≤ 1000000) (hY : -1000000 ≤ Y ∧ Y ≤ 1000000) (hw : 1 ≤ W ∧ W ≤ 256) (hh : 1 ≤ H ∧ H ≤ 256) (l : List Rect) (r : Rect) (p q : Int) :
    hasL (placeP W H X Y s l r) p q = (hasB 0 0 W H ((p - X) / s) ((q - Y) / s) && (hasB r.x0 r.y0 r.x1 r.y1 ((p - X) / s) ((q - Y) / s) && hasL l ((p - X) / s) ((q - Y) / s))) := by
  unfold placeP
  rw [hasL_can, hasL_shown hs hX hY hw hh, hasL_and, hasL_can, hasL_can, hasL_one]
  congr 1
  exact Bool.and_comm _ _

/-! ### The document's -/
def plcL (W X Y s : Int) (B : Int → Int → Bool) (i : Nat) : List Rect := (List.range i).flatMap fun k => if B (((k : Nat) : Int) % W) (((k : Nat) : Int) / W) then [(⟨X + ((k : Nat) : Int) % W * s, Y + ((k : Nat) : Int) / W * s, X + ((k : Nat) : Int) % W * s + s, Y + ((k : Nat) : Int) / W * s + s⟩ : Rect)] else []
theorem plcL_zero (W X Y s : Int) (B : Int → Int → Bool) : plcL W X Y s B 0 = [] := rfl
theorem plcL_yes {W X Y s : Int} {B : Int → Int → Bool} {i : Nat} (h : B (((i : Nat) : Int) % W) (((i : Nat) : Int) / W) = true) : plcL W X Y s B i ++ [(⟨X + ((i : Nat) : Int) % W * s, Y + ((i : Nat) : Int) / W * s, X + ((i : Nat) : Int) % W * s + s, Y + ((i : Nat) : Int) / W * s + s⟩ : Rect)] = plcL W X Y s B (i + 1) := by
  simp [plcL, List.range_succ, List.flatMap_append, h]
theorem plcL_no {W X Y s : Int} {B : Int → Int → Bool} {i : Nat} (h : B (((i : Nat) : Int) % W) (((i : Nat) : Int) / W) = false) : plcL W X Y s B i = plcL W X Y s B (i + 1) := by
  simp [plcL, List.range_succ, List.flatMap_append, h]
theorem plcL_len (W X Y s : Int) (B : Int → Int → Bool) : ∀ i, (plcL W X Y s B i).length ≤ i := by
  intro i
  induction i with
  | zero => simp [plcL]
  | succ i ih =>
    cases h : B (((i : Nat) : Int) % W) (((i : Nat) : Int) / W) with
    | true => rw [← plcL_yes h, List.length_append]; simp; omega
    | false => rw [← plcL_no h]; omega
theorem cell_iff {u p X s : Int} (hs : 1 ≤ s) : (X + u * s ≤ p ∧ p < X + u * s + s) ↔ (p - X) / s = u := by
  have h1 := Int.mul_ediv_add_emod (p - X) s
  have h2 := Int.emod_nonneg (p - X) (show s ≠ 0 by omega)
  have h3 := Int.emod_lt_of_pos (p - X) (show 0 < s by omega)
  constructor
  · rintro ⟨a, b⟩
    refine Int.le_antisymm ?_ ?_
    · have := Int.ediv_lt_of_lt_mul (a := p - X) (b := u + 1) (c := s) (by omega) (by rw [Int.add_mul]; omega)
      omega
    · exact Int.le_ediv_of_mul_le (by omega) (by omega)
  · rintro rfl
    rw [Int.mul_comm] at h1
    omega
theorem hasL_plc {W H X Y s : Int} {n : Nat} {B : Int → Int → Bool} (hs : 1 ≤ s) (hW : 1 ≤ W) (hn : (n : Int) = W * H) (p q : Int) :
    hasL (plcL W X Y s B n) p q = (hasB 0 0 W H ((p - X) / s) ((q - Y) / s) && B ((p - X) / s) ((q - Y) / s)) := by
  rw [Bool.eq_iff_iff, Bool.and_eq_true]
  constructor
  · intro h
    obtain ⟨r, hr, hb⟩ := List.any_eq_true.1 h
    obtain ⟨k, hk, hr⟩ := List.mem_flatMap.1 hr
    have hk := List.mem_range.1 hk
    split at hr
    · rename_i hB
      have hr := List.mem_singleton.1 hr
      subst hr
      obtain ⟨h1, h2, h3, h4⟩ := hasB_true.1 hb
      simp only at h1 h2 h3 h4
      rw [(cell_iff hs).1 ⟨h1, h2⟩, (cell_iff hs).1 ⟨h3, h4⟩]
      exact ⟨in_box hW hn hk, hB⟩
    · cases hr
  · rintro ⟨h1, h2⟩
    obtain ⟨a0, a1, b0, b1⟩ := hasB_true.1 h1
    generalize hu : (p - X) / s = u at *
    generalize hv : (q - Y) / s = v at *
    have h5 : 0 ≤ v * W := Int.mul_nonneg b0 (by omega)
    have h6 : (v + 1) * W ≤ H * W := Int.mul_le_mul_of_nonneg_right (by omega) (by omega)
    have h7 : (v + 1) * W = v * W + W := by rw [Int.add_mul]; omega
    have h8 : H * W = (n : Int) := by rw [hn, Int.mul_comm]
    have hp := pt_eq (p := (u, v)) (k := (v * W + u).toNat) a0 a1 b0 rfl
    have e1 : u = (((v * W + u).toNat : Nat) : Int) % W := congrArg Prod.fst hp
    have e2 : v = (((v * W + u).toNat : Nat) : Int) / W := congrArg Prod.snd hp
    refine List.any_eq_true.2 ⟨⟨X + u * s, Y + v * s, X + u * s + s, Y + v * s + s⟩, List.mem_flatMap.2 ⟨(v * W + u).toNat, List.mem_range.2 (by omega), ?_⟩, hasB_true.2 ?_⟩
    · rw [← e1, ← e2, if_pos h2]; simp
    · have k1 := (cell_iff (X := X) hs).2 hu
      have k2 := (cell_iff (X := Y) hs).2 hv
      exact ⟨k1.1, k1.2, k2.1, k2.2⟩
/-- Which points of its image the document shows. -/
def plcB (a b c d : Int) (l : List Rect) (x y : Int) : Bool := hasB a b c d x y && hasL l x y
/-- .. that are solid. -/
def solB (W H : Int) (px : List Int) (x y : Int) : Bool := decide (pa (atC W H px x y) = 255)
def splB (W H al : Int) (px : List Int) (a b c d : Int) (l : List Rect) (x y : Int) : Bool := decide (al = 255) && solB W H px x y && (hasB a b c d x y && hasL l x y)
theorem place_same {W H X Y s a b c d : Int} {n : Nat} (l : List Rect) (hs : 1 ≤ s ∧ s ≤ 8) (hX : -1000000 ≤ X ∧ X ≤ 1000000) (hY : -1000000 ≤ Y ∧ Y ≤ 1000000) (hw : 1 ≤ W ∧ W ≤ 256) (hh : 1 ≤ H ∧ H ≤ 256) (hn : (n : Int) = W * H) :
    placeP W H X Y s l ⟨a, b, c, d⟩ = canR (plcL W X Y s (plcB a b c d l) n) :=
  reg_ext (canR_isReg _) (canR_isReg _) (fun p q => by
    have h1 := hasL_place hs hX hY hw hh l ⟨a, b, c, d⟩ p q
    rw [show hasL (placeP W H X Y s l ⟨a, b, c, d⟩) p q = hasL ((regM andB (canR l) (canR [⟨a, b, c, d⟩])).map (shQ W H X Y s)) p q from hasL_can _ _ _] at h1
    rw [h1, hasL_plc hs.1 hw.1 hn]; rfl)

/-! ### Solid points, run by run -/
structure SolI (S : Int → Int → Bool) (os : List Rect) (pre : List (Int × Int)) : Prop where
  flat : ∀ r ∈ os, r.y1 = r.y0 + 1 ∧ r.x0 ≤ r.x1 ∧ 0 ≤ r.x0 ∧ r.x1 ≤ 256 ∧ 0 ≤ r.y0 ∧ r.y0 ≤ 256
  len : os.length ≤ pre.length
  has : ∀ x y, hasL os x y = (decide ((x, y) ∈ pre) && S x y)
theorem SolI.nil (S : Int → Int → Bool) : SolI S [] [] := ⟨fun r hr => by simp at hr, Nat.le_refl _, fun x y => by simp [hasL]⟩
theorem mem_snoc_dec {pre : List (Int × Int)} {p q : Int × Int} : decide (q ∈ pre ++ [p]) = (decide (q ∈ pre) || decide (q = p)) := by
  rw [Bool.eq_iff_iff]; simp
theorem SolI.skip {S : Int → Int → Bool} {os : List Rect} {pre : List (Int × Int)} (h : SolI S os pre) {x y : Int} (hS : S x y = false) : SolI S os (pre ++ [(x, y)]) :=
  ⟨h.flat, by have := h.len; rw [List.length_append]; omega, fun p q => by
    rw [h.has, mem_snoc_dec]
    by_cases e : (p, q) = (x, y)
    · cases e; simp [hS]
    · simp [e]⟩
theorem SolI.new {S : Int → Int → Bool} {os : List Rect} {pre : List (Int × Int)} (h : SolI S os pre) {x y : Int} (hS : S x y = true) (hx : 0 ≤ x ∧ x < 256) (hy : 0 ≤ y ∧ y < 256) : SolI S (os ++ [⟨x, y, x + 1, y + 1⟩]) (pre ++ [(x, y)]) :=
  ⟨fun r hr => by
    rcases List.mem_append.1 hr with hr | hr
    · exact h.flat r hr
    · have : r = ⟨x, y, x + 1, y + 1⟩ := by simpa using hr
      subst this
      exact ⟨rfl, by show x ≤ x + 1; omega, hx.1, by show x + 1 ≤ 256; omega, hy.1, by show y ≤ 256; omega⟩, by have := h.len; rw [List.length_append, List.length_append]; simp; omega, fun p q => by
    rw [hasL_append, h.has, mem_snoc_dec, hasL_one]
    have e : hasB x y (x + 1) (y + 1) p q = decide ((p, q) = (x, y)) := by
      rw [Bool.eq_iff_iff, hasB_true, decide_eq_true_eq, Prod.mk.injEq]; omega
    simp only [e]
    by_cases e2 : (p, q) = (x, y)
    · cases e2; simp [hS]
    · simp [e2]⟩
theorem SolI.ext {S : Int → Int → Bool} {os : List Rect} {pre : List (Int × Int)} (h : SolI S os pre) {x y : Int} {j : Nat} (hj : j + 1 = os.length) (hy0 : (rget os j).y0 = y) (hx1 : (rget os j).x1 = x) (hS : S x y = true) (hx : 0 ≤ x ∧ x < 256) (hy : 0 ≤ y ∧ y < 256) :
    SolI S (os.set j { rget os j with x1 := (rget os j).x1 + 1 }) (pre ++ [(x, y)]) := by
  rw [show ({ rget os j with x1 := (rget os j).x1 + 1 } : Rect) = { rget os j with x1 := x + 1 } by rw [hx1]]
  have hl := h.flat _ (rget_mem (l := os) (i := j) (by omega))
  refine ⟨fun r hr => ?_, by have := h.len; rw [List.length_set, List.length_append]; omega, fun p q => ?_⟩
  · rcases List.mem_or_eq_of_mem_set hr with hr | rfl
    · exact h.flat r hr
    · simp only; omega
  · have e0 : os = os.take j ++ [rget os j] := by
      have := take_succ_rget (l := os) (i := j) (by omega)
      rw [hj, List.take_length] at this; exact this
    have e1 : ∀ v : Rect, os.set j v = os.take j ++ [v] := fun v => by
      have hlt : (os.take j).length = j := by rw [List.length_take]; omega
      have h9 : os.set j v = (os.take j ++ [rget os j]).set j v := congrArg (fun l => List.set l j v) e0
      rw [h9, List.set_append_right _ _ (by omega), hlt]; simp
    have h1 := h.has p q
    have e4 : hasL os p q = (hasL (os.take j) p q || hasB (rget os j).x0 (rget os j).y0 (rget os j).x1 (rget os j).y1 p q) := (congrArg (fun l => hasL l p q) e0).trans (by rw [hasL_append, hasL_one])
    rw [e4] at h1
    rw [e1, hasL_append, hasL_one, mem_snoc_dec]
    have e2 : hasB (rget os j).x0 (rget os j).y0 (x + 1) (rget os j).y1 p q = (hasB (rget os j).x0 (rget os j).y0 (rget os j).x1 (rget os j).y1 p q || decide ((p, q) = (x, y))) := by
      rw [Bool.eq_iff_iff, Bool.or_eq_true, hasB_true, hasB_true, decide_eq_true_eq, Prod.mk.injEq]; omega
    simp only [e2]
    rw [← Bool.or_assoc, h1]
    by_cases e3 : (p, q) = (x, y)
    · cases e3; simp [hS]
    · simp [e3]
theorem areaL_ge : ∀ {R : List Rect}, (∀ r ∈ R, emptyR r = false) → ((R.length : Nat) : Int) ≤ areaL R := by
  intro R
  induction R with
  | nil => intro _; exact Int.le_refl _
  | cons r R ih =>
    intro h
    have h1 := emptyB_false.1 (show emptyB r.x0 r.y0 r.x1 r.y1 = false from h r (List.mem_cons_self ..))
    have e2 : areaL (r :: R) = areaI r.x0 r.y0 r.x1 r.y1 + areaL R := by simp [areaL]
    have := ih (fun q hq => h q (List.mem_cons_of_mem _ hq))
    have h3 : (1 : Int) * 1 ≤ (r.x1 - r.x0) * (r.y1 - r.y0) := Int.mul_le_mul (by omega) (by omega) (by omega) (by omega)
    rw [e2]
    unfold areaI
    rw [if_neg (by rw [show emptyB r.x0 r.y0 r.x1 r.y1 = false from h r (List.mem_cons_self ..)]; simp)]
    simp only [List.length_cons]
    omega
theorem reg_len_img {W H : Int} {n : Nat} {R : List Rect} {F : Int → Int → Bool} (hR : IsReg R F) (hin : OnImg W H R) (hW : 1 ≤ W) (hn : (n : Int) = W * H) : R.length ≤ n := by
  have h1 := areaL_ge (reg_ne hR hin)
  have h2 := clear_area hR hin hW hn
  have h3 := cntL_le W n R
  omega
theorem onImg_andl {W H : Int} {a : List Rect} (b : List Rect) (ha : OnImg W H a) : OnImg W H (regM andB a b) := fun x y h => ha x y (by rw [hasL_and] at h; exact (Bool.and_eq_true_iff.1 h).1)
theorem sol_on {W H : Int} {S : Int → Int → Bool} {os R : List Rect} {pre : List (Int × Int)} (h : SolI S os pre) (hp : pre = regP R) (hin : OnImg W H R) : OnImg W H os := fun x y hh => by
  rw [h.has, Bool.and_eq_true, decide_eq_true_eq, hp] at hh
  exact hin x y (regP_mem.1 hh.1)
/-- Solid points, placed. -/
theorem solid_same {W H X Y s a b c d : Int} {n : Nat} {px : List Int} {os : List Rect} (l : List Rect) (hs : 1 ≤ s ∧ s ≤ 8) (hX : -1000000 ≤ X ∧ X ≤ 1000000) (hY : -1000000 ≤ Y ∧ Y ≤ 1000000) (hw : 1 ≤ W ∧ W ≤ 256) (hh : 1 ≤ H ∧ H ≤ 256) (hn : (n : Int) = W * H)
    (ho : ∀ x y, hasL os x y = (hasL (regM andB (canR l) (canR [cutR a b c d 0 0 W H])) x y && solB W H px x y)) : placeP W H X Y s os ⟨a, b, c, d⟩ = canR (plcL W X Y s (splB W H 255 px a b c d l) n) :=
  reg_ext (canR_isReg _) (canR_isReg _) (fun p q => by
    have h1 := hasL_place hs hX hY hw hh os ⟨a, b, c, d⟩ p q
    rw [show hasL (placeP W H X Y s os ⟨a, b, c, d⟩) p q = hasL ((regM andB (canR os) (canR [⟨a, b, c, d⟩])).map (shQ W H X Y s)) p q from hasL_can _ _ _] at h1
    rw [h1, hasL_plc hs.1 hw.1 hn, ho, hasL_and, hasL_can, hasL_can, hasL_one]
    have e : hasB (cutR a b c d 0 0 W H).x0 (cutR a b c d 0 0 W H).y0 (cutR a b c d 0 0 W H).x1 (cutR a b c d 0 0 W H).y1 ((p - X) / s) ((q - Y) / s) = (hasB a b c d ((p - X) / s) ((q - Y) / s) && hasB 0 0 W H ((p - X) / s) ((q - Y) / s)) := by
      rw [Bool.eq_iff_iff, cutR_has, Bool.and_eq_true]
    rw [e]
    simp only [splB, decide_true, Bool.true_and]
    cases hasB 0 0 W H ((p - X) / s) ((q - Y) / s) <;> cases hasB a b c d ((p - X) / s) ((q - Y) / s) <;> cases hasL l ((p - X) / s) ((q - Y) / s) <;> cases solB W H px ((p - X) / s) ((q - Y) / s) <;> rfl)
theorem solid_none {W H X Y s al a b c d : Int} {px : List Int} (l : List Rect) (n : Nat) (h : al ≠ 255) : plcL W X Y s (splB W H al px a b c d l) n = [] := by
  unfold plcL
  rw [List.flatMap_eq_nil_iff]
  intro k _
  rw [if_neg (by simp [splB, h])]
/-! ### The document's place, point by point -/
theorem cell_bd {u s : Int} (h0 : 0 ≤ u) (h1 : u < 256) (hs : 1 ≤ s ∧ s ≤ 8) : 0 ≤ u * s ∧ u * s ≤ 2048 :=
  ⟨Int.mul_nonneg h0 (by omega), by have := Int.mul_le_mul (a := u) (b := s) (c := 256) (d := 8) (by omega) (by omega) (by omega) (by omega); omega⟩
theorem box_bd {W H : Int} {n i : Nat} (hw : 1 ≤ W ∧ W ≤ 256) (hh : 1 ≤ H ∧ H ≤ 256) (hn : (n : Int) = W * H) (hi : i < n) : 0 ≤ (i : Int) % W ∧ (i : Int) % W < 256 ∧ 0 ≤ (i : Int) / W ∧ (i : Int) / W < 256 := by
  obtain ⟨a, b, c, d⟩ := hasB_true.1 (in_box hw.1 hn hi)
  omega
theorem plcB_yes {a b c d : Int} {l : List Rect} {x y : Int} (h1 : hasB a b c d x y = true) (h2 : hasL l x y = true) : plcB a b c d l x y = true := by unfold plcB; rw [h1, h2]; rfl
theorem plcB_no {a b c d : Int} {l : List Rect} {x y : Int} (h : hasB a b c d x y = false ∨ hasL l x y = false) : plcB a b c d l x y = false := by
  unfold plcB
  rcases h with h | h <;> rw [h] <;> simp
theorem splB_at {W H al a b c d : Int} {n i : Nat} {px : List Int} {l : List Rect} (hW : 1 ≤ W) (hn : (n : Int) = W * H) (hi : i < n) : splB W H al px a b c d l ((i : Int) % W) ((i : Int) / W) = (decide (al = 255) && decide (pa (px.getD i 0) = 255) && plcB a b c d l ((i : Int) % W) ((i : Int) / W)) := by
  unfold splB solB plcB
  rw [atC_at px hW hn hi]
theorem spl_no1 {W H al a b c d : Int} {n i : Nat} {px : List Int} {l : List Rect} (hW : 1 ≤ W) (hn : (n : Int) = W * H) (hi : i < n) (h : pa (px.getD i 0) ≠ 255) : splB W H al px a b c d l ((i : Int) % W) ((i : Int) / W) = false := by
  rw [splB_at hW hn hi, decide_eq_false h]; simp
theorem spl_no2 {W H al a b c d : Int} {n i : Nat} {px : List Int} {l : List Rect} (hW : 1 ≤ W) (hn : (n : Int) = W * H) (hi : i < n) (h : al ≠ 255) : splB W H al px a b c d l ((i : Int) % W) ((i : Int) / W) = false := by
  rw [splB_at hW hn hi, decide_eq_false h]; simp
theorem spl_no3 {W H al a b c d : Int} {n i : Nat} {px : List Int} {l : List Rect} (hW : 1 ≤ W) (hn : (n : Int) = W * H) (hi : i < n) (h : plcB a b c d l ((i : Int) % W) ((i : Int) / W) = false) : splB W H al px a b c d l ((i : Int) % W) ((i : Int) / W) = false := by
  rw [splB_at hW hn hi, h]; simp
theorem spl_yes {W H al a b c d : Int} {n i : Nat} {px : List Int} {l : List Rect} (hW : 1 ≤ W) (hn : (n : Int) = W * H) (hi : i < n) (h1 : pa (px.getD i 0) = 255) (h2 : al = 255) (h3 : plcB a b c d l ((i : Int) % W) ((i : Int) / W) = true) : splB W H al px a b c d l ((i : Int) % W) ((i : Int) / W) = true := by
  rw [splB_at hW hn hi, h1, h2, h3]; rfl
/-- What is drawn after a change of the image differs only where the change is shown. -/
theorem differ_place {W' H' X Y s al a b c d k : Int} {n' : Nat} {px : List Int} {l R : List Rect} (hs : 1 ≤ s ∧ s ≤ 8) (hX : -1000000 ≤ X ∧ X ≤ 1000000) (hY : -1000000 ≤ Y ∧ Y ≤ 1000000) (hw : 1 ≤ W' ∧ W' ≤ 256) (hh : 1 ≤ H' ∧ H' ≤ 256) (hok : ImgOk W' H' n' px) (hR : ∀ x y, hasL R x y = (hasL l x y && hasB 0 0 W' H' x y)) (x y : Int)
    (h : pcolC W' H' X Y s al a b c d px x y ≠ pcolC W' H' X Y s al a b c d (mixL W' (clrB k R) (clrG k) px) x y) : hasL (placeP W' H' X Y s l ⟨a, b, c, d⟩) x y = true := by
  rw [hasL_place hs hX hY hw hh]
  unfold pcolC at h
  split at h
  · rename_i hp
    unfold pcolB at hp
    obtain ⟨h1, h2⟩ := Bool.and_eq_true_iff.1 hp
    rw [h1, show hasB (⟨a, b, c, d⟩ : Rect).x0 (⟨a, b, c, d⟩ : Rect).y0 (⟨a, b, c, d⟩ : Rect).x1 (⟨a, b, c, d⟩ : Rect).y1 ((x - X) / s) ((y - Y) / s) = true from h2, Bool.true_and, Bool.true_and]
    refine Bool.of_not_eq_false fun hl => h ?_
    congr 1
    unfold atC
    rw [if_pos h1, if_pos h1]
    obtain ⟨a0, a1, b0, b1⟩ := hasB_true.1 h1
    generalize hu : (x - X) / s = u at *
    generalize hv : (y - Y) / s = v at *
    have h5 : 0 ≤ v * W' := Int.mul_nonneg b0 (by omega)
    have h6 : (v + 1) * W' ≤ H' * W' := Int.mul_le_mul_of_nonneg_right (by omega) (by omega)
    have h7 : (v + 1) * W' = v * W' + W' := by rw [Int.add_mul]; omega
    have h8 : H' * W' = (n' : Int) := by rw [hok.num, Int.mul_comm]
    have hlen := hok.len
    have hp := pt_eq (p := (u, v)) (k := (v * W' + u).toNat) a0 a1 b0 rfl
    have e1 : u = (((v * W' + u).toNat : Nat) : Int) % W' := congrArg Prod.fst hp
    have e2 : v = (((v * W' + u).toNat : Nat) : Int) / W' := congrArg Prod.snd hp
    rw [mixL_get (by omega), ← e1, ← e2, if_neg]
    unfold clrB
    rw [hR, hl]; simp
  · exact absurd rfl h
theorem drawL_at {W H : Int} {n i : Nat} {px : List Int} {R : List Rect} {f g : Int → Int → Int} (hlen : px.length = n) (hi : i < n) (x y : Int) (hx : (i : Int) % W = x) (hy : (i : Int) / W = y) (h : (drawL W R f px).getD i 0 ≠ (drawL W R g px).getD i 0) : f x y ≠ g x y := by
  intro e
  apply h
  rw [drawL_get (by omega), drawL_get (by omega), hx, hy, e]
theorem canR_lenB {l : List Rect} (h : l.length ≤ 262144) : (canR l).length ≤ 274877906944 := regM_length (a := l) (b := []) (by simpa using h)
theorem plc_lenB (W X Y s : Int) (B : Int → Int → Bool) {n : Nat} (h : n ≤ 262144) : (canR (plcL W X Y s B n)).length ≤ 274877906944 := canR_lenB (Nat.le_trans (plcL_len W X Y s B n) h)
theorem place_lenB (W H X Y s : Int) {l : List Rect} {r : Rect} (h : (regM andB (canR l) (canR [r])).length ≤ 200000) : (placeP W H X Y s l r).length ≤ 274877906944 := canR_lenB (by rw [List.length_map]; omega)
theorem places_law {W' H' X Y s al a b c d k : Int} {n' n1 n2 i : Nat} {px : List Int} {l D : List Rect} (hs : 1 ≤ s ∧ s ≤ 8) (hX : -1000000 ≤ X ∧ X ≤ 1000000) (hY : -1000000 ≤ Y ∧ Y ≤ 1000000) (hw : 1 ≤ W' ∧ W' ≤ 256) (hh : 1 ≤ H' ∧ H' ≤ 256) (hok : ImgOk W' H' n' px) (h1 : (n1 : Int) = 16 * 16) (h2 : (n2 : Int) = 16 * 16) (hi : i < 256)
    (h : (atC 16 16 (drawL 16 D (pcolC W' H' X Y s al a b c d px) (List.replicate n1 0)) (((i : Nat) : Int) % 16) (((i : Nat) : Int) / 16) != atC 16 16 (drawL 16 D (pcolC W' H' X Y s al a b c d (mixL W' (clrB k (regM andB (canR l) (canR [(⟨0, 0, W', H'⟩ : Rect)]))) (clrG k) px)) (List.replicate n2 0)) (((i : Nat) : Int) % 16) (((i : Nat) : Int) / 16)) = true) :
    hasL (placeP W' H' X Y s l ⟨a, b, c, d⟩) (((i : Nat) : Int) % 16) (((i : Nat) : Int) / 16) = true := by
  have e : n1 = 256 := by omega
  have e2 : n2 = 256 := by omega
  subst e; subst e2
  refine differ_place (k := k) (R := regM andB (canR l) (canR [(⟨0, 0, W', H'⟩ : Rect)])) (n' := n') (al := al) hs hX hY hw hh hok (fun x y => by rw [hasL_and, hasL_can, hasL_can, hasL_one]) _ _ ?_
  refine drawL_at (W := 16) (H := 16) (n := 256) (i := i) (px := List.replicate 256 0) (R := D) (by rw [List.length_replicate]) hi _ _ rfl rfl ?_
  have h := bne_iff_ne.1 h
  rwa [atC_at (n := 256) _ (by omega) (by omega) hi, atC_at (n := 256) _ (by omega) (by omega) hi] at h
end Go.Proofs.YtgpcgfjfmjehgaaGreat

