/- The points of a list of rectangles, in the order in which a walk over it comes to them; what is drawn at them. -/
import Derived.Test.YtgpcgfjfmjehgaaGreatPiRm
import Derived.Test.YtgpcgfjfmjehgaaGreatPiPu
import Derived.Test.YtgpcgfjfmjehgaaGreatPiRowR
set_option linter.unusedVariables false
set_option linter.unusedSimpArgs false
namespace Go.Proofs.YtgpcgfjfmjehgaaGreat
open Go Go.RowKit

def rowP (y x : Int) (k : Nat) : List (Int × Int) := (List.range k).map fun i => (x + ((i : Nat) : Int), y)
def rectP (r : Rect) (j : Nat) : List (Int × Int) := (List.range j).flatMap fun q => rowP (r.y0 + ((q : Nat) : Int)) r.x0 (Int.toNat (r.x1 - r.x0))
def regP (l : List Rect) : List (Int × Int) := l.flatMap fun r => rectP r (Int.toNat (r.y1 - r.y0))
theorem rowP_succ (y x : Int) (k : Nat) : rowP y x (k + 1) = rowP y x k ++ [(x + ((k : Nat) : Int), y)] := by simp [rowP, List.range_succ]
theorem rectP_succ (r : Rect) (j : Nat) : rectP r (j + 1) = rectP r j ++ rowP (r.y0 + ((j : Nat) : Int)) r.x0 (Int.toNat (r.x1 - r.x0)) := by simp [rectP, List.range_succ, List.flatMap_append]
theorem regP_append (a b : List Rect) : regP (a ++ b) = regP a ++ regP b := by simp [regP]
theorem regP_one (r : Rect) : regP [r] = rectP r (Int.toNat (r.y1 - r.y0)) := by simp [regP]
theorem regP_take {l : List Rect} {i : Nat} (h : i < l.length) : regP (l.take (i + 1)) = regP (l.take i) ++ rectP (rget l i) (Int.toNat ((rget l i).y1 - (rget l i).y0)) := by
  rw [take_succ_rget h, regP_append, regP_one]
theorem prefix_range {α : Type} (f : Nat → List α) {j n : Nat} (h : j < n) : (List.range j).flatMap f ++ f j <+: (List.range n).flatMap f := by
  obtain ⟨d, rfl⟩ : ∃ d, n = (j + 1) + d := ⟨n - (j + 1), by omega⟩
  rw [List.range_add, List.flatMap_append, List.range_succ, List.flatMap_append]
  exact ⟨_, by simp; rfl⟩
theorem pts_pre {l : List Rect} {r : Rect} {i j k : Nat} (hi : i < l.length) (hr : rget l i = r) (hj : j < Int.toNat (r.y1 - r.y0)) (hk : k < Int.toNat (r.x1 - r.x0)) :
    (regP (l.take i) ++ rectP r j ++ rowP (r.y0 + ((j : Nat) : Int)) r.x0 k) ++ [(r.x0 + ((k : Nat) : Int), r.y0 + ((j : Nat) : Int))] <+: regP l := by
  subst hr
  have e1 : rowP ((rget l i).y0 + ((j : Nat) : Int)) (rget l i).x0 k ++ [((rget l i).x0 + ((k : Nat) : Int), (rget l i).y0 + ((j : Nat) : Int))] <+: rowP ((rget l i).y0 + ((j : Nat) : Int)) (rget l i).x0 (Int.toNat ((rget l i).x1 - (rget l i).x0)) := by
    rw [← rowP_succ]
    obtain ⟨d, hd⟩ : ∃ d, Int.toNat ((rget l i).x1 - (rget l i).x0) = (k + 1) + d := ⟨Int.toNat ((rget l i).x1 - (rget l i).x0) - (k + 1), by omega⟩
    unfold rowP
    rw [hd, show List.range (k + 1 + d) = List.range (k + 1) ++ (List.range d).map (k + 1 + ·) from List.range_add, List.map_append]
    exact ⟨_, rfl⟩
  have e2 : rectP (rget l i) j ++ rowP ((rget l i).y0 + ((j : Nat) : Int)) (rget l i).x0 (Int.toNat ((rget l i).x1 - (rget l i).x0)) <+: rectP (rget l i) (Int.toNat ((rget l i).y1 - (rget l i).y0)) := prefix_range _ hj
  have e3 : regP (l.take i) ++ rectP (rget l i) (Int.toNat ((rget l i).y1 - (rget l i).y0)) <+: regP l := by
    rw [← regP_take hi]
    refine ⟨regP (l.drop (i + 1)), ?_⟩
    rw [← regP_append, List.take_append_drop]
  obtain ⟨a, ha⟩ := e1
  obtain ⟨b, hb⟩ := e2
  obtain ⟨c, hc⟩ := e3
  exact ⟨a ++ b ++ c, by rw [← hc, ← hb, ← ha]; simp [List.append_assoc]⟩
theorem pts_row {l : List Rect} {r : Rect} {i j k : Nat} (hk : k = Int.toNat (r.x1 - r.x0)) : regP (l.take i) ++ rectP r j ++ rowP (r.y0 + ((j : Nat) : Int)) r.x0 k = regP (l.take i) ++ rectP r (j + 1) := by
  rw [rectP_succ, hk, List.append_assoc]
theorem pts_rect {l : List Rect} {r : Rect} {i j : Nat} (hi : i < l.length) (hr : rget l i = r) (hj : j = Int.toNat (r.y1 - r.y0)) : regP (l.take i) ++ rectP r j = regP (l.take (i + 1)) := by
  rw [regP_take hi, hr, hj]
theorem rowP_mem {y x : Int} {k : Nat} {p : Int × Int} : p ∈ rowP y x k ↔ p.2 = y ∧ x ≤ p.1 ∧ p.1 < x + ((k : Nat) : Int) := by
  unfold rowP
  rw [List.mem_map]
  constructor
  · rintro ⟨i, hi, rfl⟩
    have := List.mem_range.1 hi
    exact ⟨rfl, by simp only; omega, by simp only; omega⟩
  · rintro ⟨h1, h2, h3⟩
    exact ⟨Int.toNat (p.1 - x), List.mem_range.2 (by omega), Prod.ext (by simp only; omega) h1.symm⟩
theorem rectP_mem {r : Rect} {p : Int × Int} : p ∈ rectP r (Int.toNat (r.y1 - r.y0)) ↔ hasB r.x0 r.y0 r.x1 r.y1 p.1 p.2 = true := by
  unfold rectP
  rw [List.mem_flatMap, hasB_true]
  constructor
  · rintro ⟨q, hq, hp⟩
    have h1 := List.mem_range.1 hq
    obtain ⟨h2, h3, h4⟩ := rowP_mem.1 hp
    omega
  · rintro ⟨h1, h2, h3, h4⟩
    exact ⟨Int.toNat (p.2 - r.y0), List.mem_range.2 (by omega), rowP_mem.2 ⟨by omega, by omega, by omega⟩⟩
theorem regP_mem {l : List Rect} {p : Int × Int} : p ∈ regP l ↔ hasL l p.1 p.2 = true := by
  unfold regP hasL
  rw [List.mem_flatMap, List.any_eq_true]
  constructor
  · rintro ⟨r, hr, hp⟩; exact ⟨r, hr, rectP_mem.1 hp⟩
  · rintro ⟨r, hr, hp⟩; exact ⟨r, hr, rectP_mem.2 hp⟩

theorem rowP_nodup (y x : Int) (k : Nat) : (rowP y x k).Nodup := by
  unfold rowP
  refine List.pairwise_map.2 (List.Pairwise.imp ?_ (List.nodup_range (n := k)))
  intro a b hab h
  have := congrArg Prod.fst h
  simp only at this
  omega
theorem rectP_nodup (r : Rect) (j : Nat) : (rectP r j).Nodup := by
  unfold rectP
  refine List.pairwise_flatMap.2 ⟨fun q _ => rowP_nodup _ _ _, List.Pairwise.imp ?_ (List.nodup_range (n := j))⟩
  intro a b hab p hp q hq h
  have h1 := (rowP_mem.1 hp).1
  have h2 := (rowP_mem.1 hq).1
  rw [h] at h1
  omega
def DisR (r s : Rect) : Prop := ∀ x y, ¬ (hasB r.x0 r.y0 r.x1 r.y1 x y = true ∧ hasB s.x0 s.y0 s.x1 s.y1 x y = true)
theorem band_dis {y y' : Int} : ∀ {sp : Spans}, RunsOk sp → (bandR y y' sp).Pairwise DisR := by
  intro sp
  induction sp with
  | nil => intro _; exact List.Pairwise.nil
  | cons s sp ih =>
    intro h
    rw [bandR_cons]
    refine List.pairwise_append.2 ⟨ih h.tail, List.pairwise_singleton _ _, ?_⟩
    intro r hr q hq x z hh
    obtain ⟨_, _, u, hu, rfl⟩ := bandR_mem hr
    have hq : q = spR y y' s := by simpa using hq
    subst hq
    have h1 := hasB_true.1 hh.1
    have h2 := hasB_true.1 hh.2
    have := h.below u hu
    simp only [spR] at h1 h2
    omega
theorem flat_dis : ∀ {bs : Bands}, BandsOk bs → (flatR bs).Pairwise DisR := by
  intro bs h
  have hr := h.runs
  have he := h.each
  clear h
  induction bs with
  | nil => exact List.Pairwise.nil
  | cons b t ih =>
    rw [flatR]
    refine List.pairwise_append.2 ⟨ih hr.tail (fun c hc => he c (List.mem_cons_of_mem _ hc)), band_dis (he b (List.mem_cons_self ..)).1, ?_⟩
    intro r hr' q hq x z hh
    obtain ⟨c, hc, s, _, rfl⟩ := flatR_mem hr'
    obtain ⟨h3, _, _⟩ := bandR_mem hq
    have h1 := hasB_true.1 hh.1
    have h2 := hasB_true.1 hh.2
    have := hr.below c hc
    simp only at h1 h2
    omega
theorem regP_nodup {l : List Rect} {F : Int → Int → Bool} (h : IsReg l F) : (regP l).Nodup := by
  obtain ⟨bs, h1, rfl, _⟩ := h
  unfold regP
  refine List.pairwise_flatMap.2 ⟨fun r _ => rectP_nodup _ _, List.Pairwise.imp ?_ (flat_dis h1)⟩
  intro r s hd p hp q hq e
  subst e
  exact hd p.1 p.2 ⟨rectP_mem.1 hp, rectP_mem.1 hq⟩
end Go.Proofs.YtgpcgfjfmjehgaaGreat

