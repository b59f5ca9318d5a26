/- Where points of a layer's image are shown: the program's rectangles, the document's. -/
import Derived.Test.YtlfahohbkgdabaaPaDy
set_option linter.unusedVariables false
set_option linter.unusedSimpArgs false
namespace Go.Proofs.Ytlfahohbkgdabaa
open Go Go.RowKit

theorem hasL_one (r : Rect) (x y : Int) : hasL [r] x y = hasB r.x0 r.y0 r.x1 r.y1 x y := by simp [hasL]
/-! ### The document's -/
def plcL (W X Y s : Int) (B : Int → Int → Bool) (i : Nat) : List Rect := (List.range i).flatMap fun k => if B (((k : Nat) : Int) % W) (((k : Nat) : Int) / W) then [(⟨X + ((k : Nat) : Int) % W * s, Y + ((k : Nat) : Int) / W * s, X + ((k : Nat) : Int) % W * s + s, Y + ((k : Nat) : Int) / W * s + s⟩ : Rect)] else []
theorem plcL_yes {W X Y s : Int} {B : Int → Int → Bool} {i : Nat} (h : B (((i : Nat) : Int) % W) (((i : Nat) : Int) / W) = true) : plcL W X Y s B i ++ [(⟨X + ((i : Nat) : Int) % W * s, Y + ((i : Nat) : Int) / W * s, X + ((i : Nat) : Int) % W * s + s, Y + ((i : Nat) : Int) / W * s + s⟩ : Rect)] = plcL W X Y s B (i + 1) := by
  simp [plcL, List.range_succ, List.flatMap_append, h]
theorem plcL_no {W X Y s : Int} {B : Int → Int → Bool} {i : Nat} (h : B (((i : Nat) : Int) % W) (((i : Nat) : Int) / W) = false) : plcL W X Y s B i = plcL W X Y s B (i + 1) := by
  simp [plcL, List.range_succ, List.flatMap_append, h]
theorem plcL_len (W X Y s : Int) (B : Int → Int → Bool) : ∀ i, (plcL W X Y s B i).length ≤ i := by
  intro i
  induction i with
  | zero => simp [plcL]
  | succ i ih =>
    cases h : B (((i : Nat) : Int) % W) (((i : Nat) : Int) / W) with
    | true => rw [← plcL_yes h, List.length_append]; simp; omega
    | false => rw [← plcL_no h]; omega
theorem cell_iff {u p X s : Int} (hs : 1 ≤ s) : (X + u * s ≤ p ∧ p < X + u * s + s) ↔ (p - X) / s = u := by
  have h1 := Int.mul_ediv_add_emod (p - X) s
  have h2 := Int.emod_nonneg (p - X) (show s ≠ 0 by omega)
  have h3 := Int.emod_lt_of_pos (p - X) (show 0 < s by omega)
  constructor
  · rintro ⟨a, b⟩
    refine Int.le_antisymm ?_ ?_
    · have := Int.ediv_lt_of_lt_mul (a := p - X) (b := u + 1) (c := s) (by omega) (by rw [Int.add_mul]; omega)
      omega
    · exact Int.le_ediv_of_mul_le (by omega) (by omega)
  · rintro rfl
    rw [Int.mul_comm] at h1
    omega
theorem hasL_plc {W H X Y s : Int} {n : Nat} {B : Int → Int → Bool} (hs : 1 ≤ s) (hW : 1 ≤ W) (hn : (n : Int) = W * H) (p q : Int) :
    hasL (plcL W X Y s B n) p q = (hasB 0 0 W H ((p - X) / s) ((q - Y) / s) && B ((p - X) / s) ((q - Y) / s)) := by
  rw [Bool.eq_iff_iff, Bool.and_eq_true]
  constructor
  · intro h
    obtain ⟨r, hr, hb⟩ := List.any_eq_true.1 h
    obtain ⟨k, hk, hr⟩ := List.mem_flatMap.1 hr
    have hk := List.mem_range.1 hk
    split at hr
    · rename_i hB
      have hr := List.mem_singleton.1 hr
      subst hr
      obtain ⟨h1, h2, h3, h4⟩ := hasB_true.1 hb
      simp only at h1 h2 h3 h4
      rw [(cell_iff hs).1 ⟨h1, h2⟩, (cell_iff hs).1 ⟨h3, h4⟩]
      exact ⟨in_box hW hn hk, hB⟩
    · cases hr
  · rintro ⟨h1, h2⟩
    obtain ⟨a0, a1, b0, b1⟩ := hasB_true.1 h1
    generalize hu : (p - X) / s = u at *
    generalize hv : (q - Y) / s = v at *
    have h5 : 0 ≤ v * W := Int.mul_nonneg b0 (by omega)
    have h6 : (v + 1) * W ≤ H * W := Int.mul_le_mul_of_nonneg_right (by omega) (by omega)
    have h7 : (v + 1) * W = v * W + W := by rw [Int.add_mul]; omega
    have h8 : H * W = (n : Int) := by rw [hn, Int.mul_comm]
    have hp := pt_eq (p := (u, v)) (k := (v * W + u).toNat) a0 a1 b0 rfl
    have e1 : u = (((v * W + u).toNat : Nat) : Int) % W := congrArg Prod.fst hp
    have e2 : v = (((v * W + u).toNat : Nat) : Int) / W := congrArg Prod.snd hp
    refine List.any_eq_true.2 ⟨⟨X + u * s, Y + v * s, X + u * s + s, Y + v * s + s⟩, List.mem_flatMap.2 ⟨(v * W + u).toNat, List.mem_range.2 (by omega), ?_⟩, hasB_true.2 ?_⟩
    · rw [← e1, ← e2, if_pos h2]; simp
    · have k1 := (cell_iff (X := X) hs).2 hu
      have k2 := (cell_iff (X := Y) hs).2 hv
      exact ⟨k1.1, k1.2, k2.1, k2.2⟩
/-! ### Solid points, run by run -/
structure SolI (S : Int → Int → Bool) (os : List Rect) (pre : List (Int × Int)) : Prop where
  flat : ∀ r ∈ os, r.y1 = r.y0 + 1 ∧ r.x0 ≤ r.x1 ∧ 0 ≤ r.x0 ∧ r.x1 ≤ 256 ∧ 0 ≤ r.y0 ∧ r.y0 ≤ 256
  len : os.length ≤ pre.length
  has : ∀ x y, hasL os x y = (decide ((x, y) ∈ pre) && S x y)
theorem SolI.nil (S : Int → Int → Bool) : SolI S [] [] := ⟨fun r hr => by simp at hr, Nat.le_refl _, fun x y => by simp [hasL]⟩
theorem mem_snoc_dec {pre : List (Int × Int)} {p q : Int × Int} : decide (q ∈ pre ++ [p]) = (decide (q ∈ pre) || decide (q = p)) := by
  rw [Bool.eq_iff_iff]; simp
theorem SolI.skip {S : Int → Int → Bool} {os : List Rect} {pre : List (Int × Int)} (h : SolI S os pre) {x y : Int} (hS : S x y = false) : SolI S os (pre ++ [(x, y)]) :=
  ⟨h.flat, by have := h.len; rw [List.length_append]; omega, fun p q => by
    rw [h.has, mem_snoc_dec]
    by_cases e : (p, q) = (x, y)
    · cases e; simp [hS]
    · simp [e]⟩
theorem SolI.new {S : Int → Int → Bool} {os : List Rect} {pre : List (Int × Int)} (h : SolI S os pre) {x y : Int} (hS : S x y = true) (hx : 0 ≤ x ∧ x < 256) (hy : 0 ≤ y ∧ y < 256) : SolI S (os ++ [⟨x, y, x + 1, y + 1⟩]) (pre ++ [(x, y)]) :=
  ⟨fun r hr => by
    rcases List.mem_append.1 hr with hr | hr
    · exact h.flat r hr
    · have : r = ⟨x, y, x + 1, y + 1⟩ := by simpa using hr
      subst this
      exact ⟨rfl, by show x ≤ x + 1; omega, hx.1, by show x + 1 ≤ 256; omega, hy.1, by show y ≤ 256; omega⟩, by have := h.len; rw [List.length_append, List.length_append]; simp; omega, fun p q => by
    rw [hasL_append, h.has, mem_snoc_dec, hasL_one]
    have e : hasB x y (x + 1) (y + 1) p q = decide ((p, q) = (x, y)) := by
      rw [Bool.eq_iff_iff, hasB_true, decide_eq_true_eq, Prod.mk.injEq]; omega
    simp only [e]
    by_cases e2 : (p, q) = (x, y)
    · cases e2; simp [hS]
    · simp [e2]⟩
theorem SolI.ext {S : Int → Int → Bool} {os : List Rect} {pre : List (Int × Int)} (h : SolI S os pre) {x y : Int} {j : Nat} (hj : j + 1 = os.length) (hy0 : (rget os j).y0 = y) (hx1 : (rget os j).x1 = x) (hS : S x y = true) (hx : 0 ≤ x ∧ x < 256) (hy : 0 ≤ y ∧ y < 256) :
    SolI S (os.set j { rget os j with x1 := (rget os j).x1 + 1 }) (pre ++ [(x, y)]) := by
  rw [show ({ rget os j with x1 := (rget os j).x1 + 1 } : Rect) = { rget os j with x1 := x + 1 } by rw [hx1]]
  have hl := h.flat _ (rget_mem (l := os) (i := j) (by omega))
  refine ⟨fun r hr => ?_, by have := h.len; rw [List.length_set, List.length_append]; omega, fun p q => ?_⟩
  · rcases List.mem_or_eq_of_mem_set hr with hr | rfl
    · exact h.flat r hr
    · simp only; omega
  · have e0 : os = os.take j ++ [rget os j] := by
      have := take_succ_rget (l := os) (i := j) (by omega)
      rw [hj, List.take_length] at this; exact this
    have e1 : ∀ v : Rect, os.set j v = os.take j ++ [v] := fun v => by
      have hlt : (os.take j).length = j := by rw [List.length_take]; omega
      have h9 : os.set j v = (os.take j ++ [rget os j]).set j v := congrArg (fun l => List.set l j v) e0
      rw [h9, List.set_append_right _ _ (by omega), hlt]; simp
    have h1 := h.has p q
    have e4 : hasL os p q = (hasL (os.take j) p q || hasB (rget os j).x0 (rget os j).y0 (rget os j).x1 (rget os j).y1 p q) := (congrArg (fun l => hasL l p q) e0).trans (by rw [hasL_append, hasL_one])
    rw [e4] at h1
    rw [e1, hasL_append, hasL_one, mem_snoc_dec]
    have e2 : hasB (rget os j).x0 (rget os j).y0 (x + 1) (rget os j).y1 p q = (hasB (rget os j).x0 (rget os j).y0 (rget os j).x1 (rget os j).y1 p q || decide ((p, q) = (x, y))) := by
      rw [Bool.eq_iff_iff, Bool.or_eq_true, hasB_true, hasB_true, decide_eq_true_eq, Prod.mk.injEq]; omega
    simp only [e2]
    rw [← Bool.or_assoc, h1]
    by_cases e3 : (p, q) = (x, y)
    · cases e3; simp [hS]
    · simp [e3]
/-! ### The document's place, point by point -/
theorem box_bd {W H : Int} {n i : Nat} (hw : 1 ≤ W ∧ W ≤ 256) (hh : 1 ≤ H ∧ H ≤ 256) (hn : (n : Int) = W * H) (hi : i < n) : 0 ≤ (i : Int) % W ∧ (i : Int) % W < 256 ∧ 0 ≤ (i : Int) / W ∧ (i : Int) / W < 256 := by
  obtain ⟨a, b, c, d⟩ := hasB_true.1 (in_box hw.1 hn hi)
  omega
theorem canR_lenB {l : List Rect} (h : l.length ≤ 262144) : (canR l).length ≤ 274877906944 := regM_length (a := l) (b := []) (by simpa using h)
end Go.Proofs.Ytlfahohbkgdabaa

