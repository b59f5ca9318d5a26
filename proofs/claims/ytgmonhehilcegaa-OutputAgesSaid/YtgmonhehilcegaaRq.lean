/- Regions moved, scaled, kept small; the rectangle round all. Plain laws. -/
import Derived.Test.YtgmonhehilcegaaRm
set_option linter.unusedVariables false
set_option linter.unusedSimpArgs false
namespace Go.Proofs.Ytgmonhehilcegaa
open Go Go.RowKit

def zeroR : Rect := ⟨0, 0, 0, 0⟩
def mayQ (r : Rect) : Bool := decide (-1048576 ≤ r.x0 ∧ r.x0 ≤ 1048576 ∧ -1048576 ≤ r.y0 ∧ r.y0 ≤ 1048576 ∧ -1048576 ≤ r.x1 ∧ r.x1 ≤ 1048576 ∧ -1048576 ≤ r.y1 ∧ r.y1 ≤ 1048576 ∧ r.x0 ≤ r.x1 ∧ r.y0 ≤ r.y1)
theorem mayQ_true {r : Rect} : mayQ r = true ↔ (-1048576 ≤ r.x0 ∧ r.x0 ≤ 1048576 ∧ -1048576 ≤ r.y0 ∧ r.y0 ≤ 1048576 ∧ -1048576 ≤ r.x1 ∧ r.x1 ≤ 1048576 ∧ -1048576 ≤ r.y1 ∧ r.y1 ≤ 1048576 ∧ r.x0 ≤ r.x1 ∧ r.y0 ≤ r.y1) := by unfold mayQ; exact decide_eq_true_iff
theorem mayQ_false {r : Rect} : mayQ r = false ↔ ¬ (-1048576 ≤ r.x0 ∧ r.x0 ≤ 1048576 ∧ -1048576 ≤ r.y0 ∧ r.y0 ≤ 1048576 ∧ -1048576 ≤ r.x1 ∧ r.x1 ≤ 1048576 ∧ -1048576 ≤ r.y1 ∧ r.y1 ≤ 1048576 ∧ r.x0 ≤ r.x1 ∧ r.y0 ≤ r.y1) := by unfold mayQ; exact decide_eq_false_iff_not
def chkQ (r : Rect) : Rect × Int := if mayQ r then (r, 0) else (zeroR, 4)
def farQ (n : Int) : Int := mn (mx n (-4194304)) 4194304
theorem farQ_range (n : Int) : -4194304 ≤ farQ n ∧ farQ n ≤ 4194304 := by unfold farQ mn mx; omega
def moveP (dx dy : Int) (r : Rect) : Rect × Int := chkQ ⟨r.x0 + farQ dx, r.y0 + farQ dy, r.x1 + farQ dx, r.y1 + farQ dy⟩
def moveD (dx dy : Int) (r : Rect) : Rect × Int := if dx < -2097152 ∨ dx > 2097152 ∨ dy < -2097152 ∨ dy > 2097152 then (zeroR, 4) else chkQ ⟨r.x0 + dx, r.y0 + dy, r.x1 + dx, r.y1 + dy⟩
def scaleR (n : Int) (r : Rect) : Rect × Int := if n < 1 ∨ n > 8 then (zeroR, 1) else if !mayQ r then (zeroR, 4) else chkQ ⟨r.x0 * n, r.y0 * n, r.x1 * n, r.y1 * n⟩
theorem chkQ_no {r : Rect} (h : mayQ r = false) : chkQ r = (zeroR, 4) := by unfold chkQ; rw [h]; rfl
theorem chkQ_yes {r : Rect} (h : mayQ r = true) : chkQ r = (r, 0) := by unfold chkQ; rw [h]; rfl
theorem scaleR_bad {n : Int} {r : Rect} (h : n < 1 ∨ n > 8) : scaleR n r = (zeroR, 1) := by unfold scaleR; rw [if_pos h]
theorem scaleR_out {n : Int} {r : Rect} (h : ¬ (n < 1 ∨ n > 8)) (hm : mayQ r = false) : scaleR n r = (zeroR, 4) := by unfold scaleR; rw [if_neg h, hm]; rfl
theorem scaleR_in {n : Int} {r : Rect} (h : ¬ (n < 1 ∨ n > 8)) (hm : mayQ r = true) : scaleR n r = chkQ ⟨r.x0 * n, r.y0 * n, r.x1 * n, r.y1 * n⟩ := by unfold scaleR; rw [if_neg h, hm]; rfl
theorem moveD_far {dx dy : Int} {r : Rect} (h : dx < -2097152 ∨ dx > 2097152 ∨ dy < -2097152 ∨ dy > 2097152) : moveD dx dy r = (zeroR, 4) := by unfold moveD; rw [if_pos h]
theorem moveD_near {dx dy : Int} {r : Rect} (h : ¬ (dx < -2097152 ∨ dx > 2097152 ∨ dy < -2097152 ∨ dy > 2097152)) : moveD dx dy r = chkQ ⟨r.x0 + dx, r.y0 + dy, r.x1 + dx, r.y1 + dy⟩ := by unfold moveD; rw [if_neg h]
theorem move_same {dx dy : Int} {r : Rect} (h : InBox r) : moveP dx dy r = moveD dx dy r := by
  obtain ⟨⟨a1, a2, a3⟩, ⟨b1, b2, b3⟩⟩ := h
  unfold moveD moveP
  by_cases hh : dx < -2097152 ∨ dx > 2097152 ∨ dy < -2097152 ∨ dy > 2097152
  · rw [if_pos hh]
    refine chkQ_no (mayQ_false.2 ?_)
    intro hc
    simp only [farQ, mn, mx] at hc
    omega
  · rw [if_neg hh, show farQ dx = dx by unfold farQ mn mx; omega, show farQ dy = dy by unfold farQ mn mx; omega]
/-! ### What is made of each, up to the first error -/
def eachE (f : Rect → Rect × Int) : List Rect → Int
  | [] => 0
  | r :: l => if (f r).2 = 0 then eachE f l else (f r).2
def eachR (f : Rect → Rect × Int) (l : List Rect) : List Rect := if eachE f l = 0 then l.map fun r => (f r).1 else []
theorem eachE_ok {f : Rect → Rect × Int} : ∀ {l : List Rect}, (∀ j, j < l.length → (f (rget l j)).2 = 0) → eachE f l = 0 := by
  intro l
  induction l with
  | nil => intro _; rfl
  | cons r l ih =>
    intro h
    have h0 := h 0 (by simp)
    rw [rget_zero] at h0
    rw [eachE, if_pos h0]
    exact ih (fun j hj => by have := h (j + 1) (by simpa using hj); rwa [rget_succ] at this)
theorem eachE_at {f : Rect → Rect × Int} : ∀ {l : List Rect} {i : Nat}, i < l.length → (∀ j, j < i → (f (rget l j)).2 = 0) → (f (rget l i)).2 ≠ 0 → eachE f l = (f (rget l i)).2 := by
  intro l
  induction l with
  | nil => intro i h; simp at h
  | cons r l ih =>
    intro i h hj hn
    cases i with
    | zero => rw [rget_zero] at hn ⊢; rw [eachE, if_neg hn]
    | succ i =>
      have h0 := hj 0 (by omega)
      rw [rget_zero] at h0
      rw [rget_succ] at hn ⊢
      rw [eachE, if_pos h0]
      exact ih (by simpa using h) (fun j hlt => by have := hj (j + 1) (by omega); rwa [rget_succ] at this) hn
theorem eachE_zero {f : Rect → Rect × Int} : ∀ {l : List Rect}, eachE f l = 0 → ∀ r ∈ l, (f r).2 = 0 := by
  intro l
  induction l with
  | nil => intro _ r hr; cases hr
  | cons q l ih =>
    intro h r hr
    rw [eachE] at h
    by_cases h0 : (f q).2 = 0
    · rw [if_pos h0] at h
      rcases List.mem_cons.1 hr with rfl | hr
      · exact h0
      · exact ih h r hr
    · rw [if_neg h0] at h; exact absurd h h0
theorem each_congr {f g : Rect → Rect × Int} : ∀ {l : List Rect}, (∀ r ∈ l, f r = g r) → eachE f l = eachE g l ∧ eachR f l = eachR g l := by
  intro l h
  have h1 : eachE f l = eachE g l := by
    induction l with
    | nil => rfl
    | cons r l ih => rw [eachE, eachE, h r (by simp), ih (fun q hq => h q (by simp [hq]))]
  refine ⟨h1, ?_⟩
  unfold eachR
  rw [h1]
  split
  · exact List.map_congr_left (fun r hr => by rw [h r hr])
  · rfl
theorem mapR_put {f : Rect → Rect × Int} {l : List Rect} {i : Nat} (h : i < l.length) : (l.take i).map (fun r => (f r).1) ++ [(f (rget l i)).1] = (l.take (i + 1)).map fun r => (f r).1 := by
  rw [take_succ_rget h]; simp
theorem eachR_all {f : Rect → Rect × Int} {l : List Rect} (h : eachE f l = 0) : l.map (fun r => (f r).1) = eachR f l := by unfold eachR; rw [if_pos h]
theorem eachR_none {f : Rect → Rect × Int} {l : List Rect} (h : eachE f l ≠ 0) : eachR f l = [] := by unfold eachR; rw [if_neg h]
theorem eachR_length (f : Rect → Rect × Int) (l : List Rect) : (eachR f l).length ≤ l.length := by unfold eachR; split <;> simp
/-! ### Regions under ways that keep the order -/
structure Mono (φ : Int → Int) : Prop where
  lt : ∀ {a b : Int}, a < b → φ a < φ b
theorem Mono.inj {φ : Int → Int} (h : Mono φ) {a b : Int} (e : φ a = φ b) : a = b := by
  rcases Int.lt_trichotomy a b with c | c | c
  · have := h.lt c; omega
  · exact c
  · have := h.lt c; omega
theorem Mono.le {φ : Int → Int} (h : Mono φ) {a b : Int} (e : a ≤ b) : φ a ≤ φ b := by
  rcases Int.lt_or_eq_of_le e with c | c
  · exact Int.le_of_lt (h.lt c)
  · subst c; exact Int.le_refl _
def wayR (φ ψ : Int → Int) (r : Rect) : Rect := ⟨φ r.x0, ψ r.y0, φ r.x1, ψ r.y1⟩
theorem rget_mapR {g : Rect → Rect} {l : List Rect} {i : Nat} (h : i < l.length) : rget (l.map g) i = g (rget l i) := by
  simp [rget, List.getD_eq_getElem?_getD, List.getElem?_eq_getElem h]
theorem sameY_way {φ ψ : Int → Int} (hψ : Mono ψ) {a b : Rect} : sameY (wayR φ ψ a) (wayR φ ψ b) ↔ sameY a b :=
  ⟨fun h => ⟨hψ.inj h.1, hψ.inj h.2⟩, fun h => ⟨by simp only [wayR]; rw [h.1], by simp only [wayR]; rw [h.2]⟩⟩
theorem fromOf_way {φ ψ : Int → Int} (hψ : Mono ψ) {l : List Rect} : ∀ i, i ≤ l.length → fromOf (l.map (wayR φ ψ)) i = fromOf l i := by
  intro i
  induction i with
  | zero => intro _; rfl
  | succ i ih =>
    intro hi
    rw [fromOf, fromOf, ih (by omega)]
    by_cases h0 : i = 0
    · rw [if_pos h0, if_pos h0]
    · rw [if_neg h0, if_neg h0, rget_mapR (by omega), rget_mapR (by omega)]
      by_cases hs : sameY (rget l (i - 1)) (rget l i)
      · rw [if_pos hs, if_pos ((sameY_way hψ).2 hs)]
      · rw [if_neg hs, if_neg (fun h => hs ((sameY_way hψ).1 h))]
theorem span_way {φ ψ : Int → Int} (hφ : Mono φ) : ∀ {a b : List Rect}, eqF span1 (a.map (wayR φ ψ)) (b.map (wayR φ ψ)) = eqF span1 a b := by
  intro a
  induction a with
  | nil => intro b; cases b <;> rfl
  | cons x a ih =>
    intro b
    cases b with
    | nil => rfl
    | cons y b =>
      rw [List.map_cons, List.map_cons, eqF, eqF, ih]
      congr 1
      unfold span1 wayR
      rw [Bool.eq_iff_iff]
      simp only [Bool.and_eq_true, decide_eq_true_eq]
      exact ⟨fun ⟨h1, h2⟩ => ⟨hφ.inj h1, hφ.inj h2⟩, fun ⟨h1, h2⟩ => ⟨by rw [h1], by rw [h2]⟩⟩
theorem ok_way {φ ψ : Int → Int} (hφ : Mono φ) (hψ : Mono ψ) {l : List Rect} {i : Nat} (hi : i < l.length) (h : OkAt l i) : OkAt (l.map (wayR φ ψ)) i := by
  have hne := emptyB_false.1 h.ne
  refine ⟨?_, fun h0 hs => ?_, fun h0 hs => ?_, fun h0 hs ht e hE => ?_⟩
  · rw [rget_mapR hi]; exact emptyB_false.2 ⟨hφ.lt hne.1, hψ.lt hne.2⟩
  · rw [rget_mapR (by omega), rget_mapR hi] at hs ⊢
    exact hφ.lt (h.on h0 ((sameY_way hψ).1 hs))
  · rw [rget_mapR (by omega), rget_mapR hi] at hs ⊢
    exact hψ.le (h.next h0 (fun c => hs ((sameY_way hψ).2 c)))
  · rw [rget_mapR (by omega), rget_mapR hi] at hs ht
    have hE2 : EndOf l i e := by
      have hle : e ≤ l.length := by simpa using hE.le
      refine ⟨hE.lt, hle, fun j h1 h2 => ?_, fun h1 h2 => hE.stop (by simpa using h1) ?_⟩
      · have := hE.same j h1 h2
        rw [rget_mapR (by omega), rget_mapR hi] at this
        exact (sameY_way hψ).1 this
      · rw [rget_mapR h1, rget_mapR hi]; exact (sameY_way hψ).2 h2
    have := h.apart h0 (fun c => hs ((sameY_way hψ).2 c)) (hψ.inj ht) e hE2
    rw [fromOf_way hψ i (by omega)]
    unfold part at this ⊢
    rw [← List.map_drop, ← List.map_take, ← List.map_drop, ← List.map_take, span_way hφ]
    exact this
theorem way_can {φ ψ : Int → Int} (hφ : Mono φ) (hψ : Mono ψ) {l : List Rect} (h : l = canR l) : l.map (wayR φ ψ) = canR (l.map (wayR φ ψ)) :=
  (may_iff _).1 (fun i hi => ok_way hφ hψ (by simpa using hi) ((may_iff l).2 h i (by simpa using hi)))
theorem nil_can : ([] : List Rect) = canR [] := nil_isReg.unique (canR_isReg [])
theorem move_can {dx dy : Int} {l : List Rect} (h : l = canR l) : eachR (moveP dx dy) l = canR (eachR (moveP dx dy) l) := by
  unfold eachR
  by_cases he : eachE (moveP dx dy) l = 0
  · rw [if_pos he]
    have e : l.map (fun r => (moveP dx dy r).1) = l.map (wayR (fun t => t + farQ dx) (fun t => t + farQ dy)) := List.map_congr_left (fun r hr => by
      have h0 := eachE_zero he r hr
      unfold moveP at h0 ⊢
      unfold chkQ at h0 ⊢
      split
      · rfl
      · rename_i hc; rw [if_neg hc] at h0; cases h0)
    rw [e]
    exact way_can ⟨fun h => by omega⟩ ⟨fun h => by omega⟩ h
  · rw [if_neg he]; exact nil_can
theorem scale_can {n : Int} {l : List Rect} (h : l = canR l) : eachR (scaleR n) l = canR (eachR (scaleR n) l) := by
  unfold eachR
  by_cases he : eachE (scaleR n) l = 0
  · rw [if_pos he]
    by_cases hn : n < 1 ∨ n > 8
    · cases l with
      | nil => exact nil_can
      | cons r l =>
        have h0 := eachE_zero he r (by simp)
        unfold scaleR at h0
        rw [if_pos hn] at h0; cases h0
    · have e : l.map (fun r => (scaleR n r).1) = l.map (wayR (fun t => t * n) (fun t => t * n)) := List.map_congr_left (fun r hr => by
        have h0 := eachE_zero he r hr
        unfold scaleR at h0 ⊢
        rw [if_neg hn] at h0 ⊢
        split
        · rename_i hc; rw [if_pos hc] at h0; cases h0
        · rename_i hc
          rw [if_neg hc] at h0
          unfold chkQ at h0 ⊢
          split
          · rfl
          · rename_i hd; rw [if_neg hd] at h0; cases h0)
      rw [e]
      exact way_can ⟨fun h => Int.mul_lt_mul_of_pos_right h (by omega)⟩ ⟨fun h => Int.mul_lt_mul_of_pos_right h (by omega)⟩ h
  · rw [if_neg he]; exact nil_can
theorem scaleR_box {n : Int} (hn : 1 ≤ n ∧ n ≤ 8) {r : Rect} (h : InBox r) : scaleR n r = (⟨r.x0 * n, r.y0 * n, r.x1 * n, r.y1 * n⟩, 0) ∧ FarR ⟨r.x0 * n, r.y0 * n, r.x1 * n, r.y1 * n⟩ ∧ areaI (r.x0 * n) (r.y0 * n) (r.x1 * n) (r.y1 * n) = n * n * areaI r.x0 r.y0 r.x1 r.y1 := by
  obtain ⟨⟨a1, a2, a3⟩, ⟨b1, b2, b3⟩⟩ := h
  have b : ∀ t : Int, -4 ≤ t → t ≤ 32 → -32 ≤ t * n ∧ t * n ≤ 256 := by
    intro t h1 h2
    have c1 : t * n ≤ 32 * n := Int.mul_le_mul_of_nonneg_right h2 (by omega)
    have c2 : -4 * n ≤ t * n := Int.mul_le_mul_of_nonneg_right h1 (by omega)
    omega
  have e1 := b r.x0 a1 (by omega)
  have e2 := b r.x1 (by omega) a3
  have e3 := b r.y0 b1 (by omega)
  have e4 := b r.y1 (by omega) b3
  have l1 : r.x0 * n < r.x1 * n := Int.mul_lt_mul_of_pos_right a2 (by omega)
  have l2 : r.y0 * n < r.y1 * n := Int.mul_lt_mul_of_pos_right b2 (by omega)
  refine ⟨?_, ⟨by simp only; omega, by simp only; omega, by simp only; omega, by simp only; omega⟩, ?_⟩
  · unfold scaleR
    rw [if_neg (by omega), show mayQ r = true from mayQ_true.2 (by omega)]
    simp only [Bool.not_true, Bool.false_eq_true, if_false]
    exact chkQ_yes (mayQ_true.2 (by simp only; omega))
  · unfold areaI
    rw [emptyB_false.2 ⟨l1, l2⟩, emptyB_false.2 ⟨a2, b2⟩]
    simp only [Bool.false_eq_true, if_false]
    rw [← Int.sub_mul, ← Int.sub_mul]
    generalize r.x1 - r.x0 = u
    generalize r.y1 - r.y0 = v
    ac_rfl
theorem scale_area {n : Int} (hn : 1 ≤ n ∧ n ≤ 8) {l : List Rect} (h : ∀ r ∈ l, InBox r) : (∀ r ∈ eachR (scaleR n) l, FarR r) ∧ areaL (eachR (scaleR n) l) = n * n * areaL l ∧ eachE (scaleR n) l = 0 := by
  have he : eachE (scaleR n) l = 0 := eachE_ok (fun j hj => by rw [(scaleR_box hn (h _ (rget_mem hj))).1])
  have e : eachR (scaleR n) l = l.map fun r => ⟨r.x0 * n, r.y0 * n, r.x1 * n, r.y1 * n⟩ := by
    unfold eachR
    rw [if_pos he]
    exact List.map_congr_left (fun r hr => by rw [(scaleR_box hn (h r hr)).1])
  rw [e]
  refine ⟨fun r hr => ?_, ?_, he⟩
  · obtain ⟨q, hq, rfl⟩ := List.mem_map.1 hr
    exact (scaleR_box hn (h q hq)).2.1
  · clear e he
    induction l with
    | nil => simp [areaL]
    | cons r l ih =>
      have h1 := (scaleR_box hn (h r (by simp))).2.2
      have h2 := ih (fun q hq => h q (by simp [hq]))
      have c1 : ∀ (q : Rect) (m : List Rect), areaL (q :: m) = areaI q.x0 q.y0 q.x1 q.y1 + areaL m := fun q m => by simp [areaL]
      rw [List.map_cons, c1, c1, h2, h1, Int.mul_add]
def scaleE (n : Int) (l : List Rect) : Int := if n < 1 ∨ n > 8 then 1 else eachE (scaleR n) l
theorem scaleE_range {n : Int} {l : List Rect} (h : scaleE n l = 0) : 1 ≤ n ∧ n ≤ 8 := by
  unfold scaleE at h
  split at h
  · cases h
  · omega
theorem scaleE_bad {n : Int} (l : List Rect) (h : n < 1 ∨ n > 8) : scaleE n l = 1 ∧ eachR (scaleR n) l = [] := by
  refine ⟨by unfold scaleE; rw [if_pos h], ?_⟩
  unfold eachR
  cases l with
  | nil => simp
  | cons r l => rw [if_neg]; simp [eachE, scaleR, h]
theorem scaleE_good {n : Int} (l : List Rect) (h : ¬ (n < 1 ∨ n > 8)) : scaleE n l = eachE (scaleR n) l := by unfold scaleE; rw [if_neg h]
/-! ### The rectangle round all -/
def joinR (o r : Rect) : Rect := ⟨min o.x0 r.x0, min o.y0 r.y0, max o.x1 r.x1, max o.y1 r.y1⟩
def hullP1 (o r : Rect) : Rect := if emptyR r then o else joinR (if o = zeroR then r else o) r
def hullP (l : List Rect) : Rect := l.foldl hullP1 zeroR
def hullD1 (s : Rect × Bool) (r : Rect) : Rect × Bool := if emptyR r then s else (joinR (if s.2 then s.1 else r) r, true)
def hullD (l : List Rect) : Rect := (l.foldl hullD1 (zeroR, false)).1
theorem hullP_put {l : List Rect} {i : Nat} (h : i < l.length) : hullP1 (hullP (l.take i)) (rget l i) = hullP (l.take (i + 1)) := by
  unfold hullP; rw [take_succ_rget h, List.foldl_append]; rfl
def hullS (l : List Rect) : Rect × Bool := l.foldl hullD1 (zeroR, false)
theorem hullS_put {l : List Rect} {i : Nat} (h : i < l.length) : hullD1 (hullS (l.take i)) (rget l i) = hullS (l.take (i + 1)) := by
  unfold hullS; rw [take_succ_rget h, List.foldl_append]; rfl
theorem hullP_skip {l : List Rect} {i : Nat} (h : i < l.length) (he : emptyR (rget l i) = true) : hullP (l.take i) = hullP (l.take (i + 1)) := by
  rw [← hullP_put h]; unfold hullP1; rw [if_pos he]
theorem hullP_first {l : List Rect} {i : Nat} (h : i < l.length) (he : emptyR (rget l i) = false) (hz : hullP (l.take i) = zeroR) : joinR (rget l i) (rget l i) = hullP (l.take (i + 1)) := by
  rw [← hullP_put h]; unfold hullP1; rw [he, if_neg (by simp), if_pos hz]
theorem hullP_join {l : List Rect} {i : Nat} (h : i < l.length) (he : emptyR (rget l i) = false) (hz : hullP (l.take i) ≠ zeroR) : joinR (hullP (l.take i)) (rget l i) = hullP (l.take (i + 1)) := by
  rw [← hullP_put h]; unfold hullP1; rw [he, if_neg (by simp), if_neg hz]
theorem hullS_skip {l : List Rect} {i : Nat} (h : i < l.length) (he : emptyR (rget l i) = true) : hullS (l.take i) = hullS (l.take (i + 1)) := by
  rw [← hullS_put h]; unfold hullD1; rw [if_pos he]
theorem hullS_first {l : List Rect} {i : Nat} (h : i < l.length) (he : emptyR (rget l i) = false) (hz : (hullS (l.take i)).2 = false) : (joinR (rget l i) (rget l i), true) = hullS (l.take (i + 1)) := by
  rw [← hullS_put h]; unfold hullD1; rw [he, if_neg (by simp), hz, if_neg (by simp)]
theorem hullS_join {l : List Rect} {i : Nat} (h : i < l.length) (he : emptyR (rget l i) = false) (hz : (hullS (l.take i)).2 = true) : (joinR (hullS (l.take i)).1 (rget l i), true) = hullS (l.take (i + 1)) := by
  rw [← hullS_put h]; unfold hullD1; rw [he, if_neg (by simp), hz, if_pos rfl]
abbrev cellsR (r : Rect) : List Value := [.int .i64 r.x0, .int .i64 r.y0, .int .i64 r.x1, .int .i64 r.y1]
theorem joinV (o r : Rect) : [Value.int .i64 (mn o.x0 r.x0), .int .i64 (mn o.y0 r.y0), .int .i64 (mx o.x1 r.x1), .int .i64 (mx o.y1 r.y1)] = cellsR (joinR o r) := by simp [cellsR, joinR, mn_eq, mx_eq]
theorem cellsR_eq {a b : Rect} (h : a = b) : cellsR a = cellsR b := congrArg cellsR h
theorem eqInts_zero {o : Rect} {b : Bool} (h : eqInts [o.x0, o.y0, o.x1, o.y1] [0, 0, 0, 0] = b) : decide (o = zeroR) = b := (eqInts_rect (r := o) (s := zeroR)).symm.trans h
/-- Of rectangles that have points: both ways tell the same, the least one round all. -/
structure HullOf (l : List Rect) (o : Rect) : Prop where
  in_ : ∀ r ∈ l, o.x0 ≤ r.x0 ∧ o.y0 ≤ r.y0 ∧ r.x1 ≤ o.x1 ∧ r.y1 ≤ o.y1
  x0 : ∃ r ∈ l, r.x0 = o.x0
  y0 : ∃ r ∈ l, r.y0 = o.y0
  x1 : ∃ r ∈ l, r.x1 = o.x1
  y1 : ∃ r ∈ l, r.y1 = o.y1
theorem hull_snoc {l : List Rect} {o r : Rect} (h : HullOf l o) : HullOf (l ++ [r]) (joinR o r) := by
  have pick : ∀ (f : Rect → Int) (a b : Int) (m : Int), (m = a ∨ m = b) → (∃ q ∈ l, f q = a) → f r = b → ∃ q ∈ l ++ [r], f q = m := by
    intro f a b m hm ⟨q, hq, e⟩ hb
    rcases hm with rfl | rfl
    · exact ⟨q, by simp [hq], e⟩
    · exact ⟨r, by simp, hb⟩
  refine ⟨fun q hq => ?_, pick (·.x0) o.x0 r.x0 _ (by simp only [joinR]; omega) h.x0 rfl, pick (·.y0) o.y0 r.y0 _ (by simp only [joinR]; omega) h.y0 rfl, pick (·.x1) o.x1 r.x1 _ (by simp only [joinR]; omega) h.x1 rfl, pick (·.y1) o.y1 r.y1 _ (by simp only [joinR]; omega) h.y1 rfl⟩
  simp only [joinR]
  rcases List.mem_append.1 hq with hq | hq
  · have := h.in_ q hq; omega
  · have : q = r := by simpa using hq
    subst this; omega
theorem hull_one (r : Rect) : HullOf [r] (joinR r r) := by
  refine ⟨fun q hq => ?_, ⟨r, by simp, by simp only [joinR]; omega⟩, ⟨r, by simp, by simp only [joinR]; omega⟩, ⟨r, by simp, by simp only [joinR]; omega⟩, ⟨r, by simp, by simp only [joinR]; omega⟩⟩
  have : q = r := by simpa using hq
  subst this; simp only [joinR]; omega
theorem hull_all {l : List Rect} (h : ∀ r ∈ l, emptyR r = false) : ∀ i, i ≤ l.length → hullP (l.take i) = (hullS (l.take i)).1 ∧ (hullS (l.take i)).2 = decide (0 < i) ∧ (0 < i → HullOf (l.take i) (hullP (l.take i)) ∧ hullP (l.take i) ≠ zeroR) := by
  intro i
  induction i with
  | zero => intro _; exact ⟨rfl, rfl, fun h => by omega⟩
  | succ i ih =>
    intro hi
    obtain ⟨h1, h2, h3⟩ := ih (by omega)
    have he := h (rget l i) (rget_mem (by omega))
    have hlt := emptyB_false.1 he
    have ea := hullP_put (l := l) (i := i) (by omega)
    have eb := hullS_put (l := l) (i := i) (by omega)
    have nz : ∀ o : Rect, HullOf (l.take (i + 1)) o → o ≠ zeroR := by
      intro o ho hz
      have := ho.in_ (rget l i) (by rw [take_succ_rget (by omega)]; simp)
      subst hz
      simp only [zeroR] at this
      omega
    by_cases h0 : i = 0
    · subst h0
      have e1 : hullP (l.take 1) = joinR (rget l 0) (rget l 0) := by rw [← ea]; unfold hullP1; rw [he]; rfl
      have e2 : hullS (l.take 1) = (joinR (rget l 0) (rget l 0), true) := by rw [← eb]; unfold hullD1; rw [he]; rfl
      have e3 : l.take 1 = [rget l 0] := by have := take_succ_rget (l := l) (i := 0) (by omega); simpa using this
      refine ⟨by rw [e1, e2], by rw [e2]; rfl, fun _ => ?_⟩
      have ho : HullOf (l.take 1) (hullP (l.take 1)) := by rw [e1, e3]; exact hull_one _
      exact ⟨ho, nz _ ho⟩
    · obtain ⟨g1, g2⟩ := h3 (by omega)
      have e1 : hullP (l.take (i + 1)) = joinR (hullP (l.take i)) (rget l i) := by
        rw [← ea]; unfold hullP1; rw [he, if_neg (by simp), if_neg g2]
      have e2 : hullS (l.take (i + 1)) = (joinR (hullP (l.take i)) (rget l i), true) := by
        rw [← eb]; unfold hullD1; rw [he, if_neg (by simp), h2, decide_eq_true (by omega), if_pos rfl, ← h1]
      refine ⟨by rw [e1, e2], by rw [e2]; simp, fun _ => ?_⟩
      have ho : HullOf (l.take (i + 1)) (hullP (l.take (i + 1))) := by rw [e1, take_succ_rget (by omega)]; exact hull_snoc g1
      exact ⟨ho, nz _ ho⟩
theorem hull_same {l : List Rect} (h : ∀ r ∈ l, emptyR r = false) : hullP l = hullD l := by
  have := (hull_all h l.length (Nat.le_refl _)).1
  rw [List.take_length] at this
  exact this
theorem hull_of {l : List Rect} (h : ∀ r ∈ l, emptyR r = false) (hl : 0 < l.length) : HullOf l (hullP l) := by
  have := (hull_all h l.length (Nat.le_refl _)).2.2 hl
  rw [List.take_length] at this
  exact this.1
def keepL (f : List Rect → Rect) (l : List Rect) (n : Int) : List Rect := if (l.length : Int) ≤ n then l else if n < 1 then [] else [f l]
theorem InBox.ne {r : Rect} (h : InBox r) : emptyR r = false := emptyB_false.2 ⟨h.x.2.1, h.y.2.1⟩
theorem Good.ne {l : List Rect} (h : Good l) : ∀ r ∈ l, emptyR r = false := fun r hr => (boxed_rects h.reg h.box r hr).ne
theorem keepL_all {f : List Rect → Rect} {l : List Rect} {n : Int} (h : (l.length : Int) ≤ n) : keepL f l n = l := by unfold keepL; rw [if_pos h]
theorem keepL_none {f : List Rect → Rect} {l : List Rect} {n : Int} (h : ¬ (l.length : Int) ≤ n) (h1 : n < 1) : keepL f l n = [] := by unfold keepL; rw [if_neg h, if_pos h1]
theorem keepL_one {f : List Rect → Rect} {l : List Rect} {n : Int} (h : ¬ (l.length : Int) ≤ n) (h1 : ¬ n < 1) : keepL f l n = [f l] := by unfold keepL; rw [if_neg h, if_neg h1]
theorem keep_same {l : List Rect} (h : ∀ r ∈ l, emptyR r = false) (n : Int) : keepL hullP l n = keepL hullD l n := by
  unfold keepL; rw [hull_same h]
theorem keepL_length (f : List Rect → Rect) (l : List Rect) (n : Int) : (keepL f l n).length ≤ l.length ∨ (keepL f l n).length ≤ 1 := by
  unfold keepL
  split
  · exact .inl (Nat.le_refl _)
  · split
    · exact .inl (by simp)
    · exact .inr (by simp)
theorem hasL_hull {l : List Rect} (h : ∀ r ∈ l, emptyR r = false) {x y : Int} (hh : hasL l x y = true) : hasL [hullP l] x y = true := by
  obtain ⟨r, hm, h1⟩ := hasL_true.1 hh
  have hl : 0 < l.length := List.length_pos_of_mem hm
  have := (hull_of h hl).in_ r hm
  exact hasL_true.2 ⟨hullP l, by simp, by omega⟩
theorem sq_range {n : Int} (h : 1 ≤ n ∧ n ≤ 8) : 1 ≤ n * n ∧ n * n ≤ 64 := by
  have h1 : 1 * 1 ≤ n * n := Int.mul_le_mul h.1 h.1 (by omega) (by omega)
  have h2 : n * n ≤ 8 * 8 := Int.mul_le_mul h.2 h.2 (by omega) (by omega)
  omega
theorem keep0_len (f : List Rect → Rect) (l : List Rect) : (keepL f l 0).length = 0 := by
  unfold keepL
  by_cases h : (l.length : Int) ≤ 0
  · rw [if_pos h]; omega
  · rw [if_neg h, if_pos (by omega)]; rfl
theorem keep1_len (f : List Rect → Rect) {l : List Rect} (h : ¬ (l.length : Int) ≤ 1) : (keepL f l 1).length = 1 := by rw [keepL_one h (by omega)]; rfl
theorem keep_covers {l : List Rect} (h : ∀ r ∈ l, emptyR r = false) {n : Int} (hn : 1 ≤ n) : regM lessB l (keepL hullP l n) = [] := by
  refine reg_nil rfl (fun x y => ?_)
  unfold keepL lessB
  cases hh : hasL l x y with
  | false => rfl
  | true =>
    split
    · rw [hh]; rfl
    · rw [if_neg (by omega), hasL_hull h hh]; rfl
theorem can_rise {l : List Rect} (h : l = canR l) : ∀ i, i < l.length → (rget l 0).y0 ≤ (rget l i).y0 ∧ (rget l i).y1 ≤ (rget l (l.length - 1)).y1 := by
  have ok := (may_iff l).2 h
  have step : ∀ i, i + 1 < l.length → (rget l i).y0 ≤ (rget l (i + 1)).y0 ∧ (rget l i).y1 ≤ (rget l (i + 1)).y1 := by
    intro i hi
    have o := ok (i + 1) hi
    have e1 := emptyB_false.1 (ok i (by omega)).ne
    have e2 := emptyB_false.1 o.ne
    by_cases hs : sameY (rget l i) (rget l (i + 1))
    · exact ⟨by rw [hs.1]; exact Int.le_refl _, by rw [hs.2]; exact Int.le_refl _⟩
    · have := o.next (by omega) hs
      simp only [Nat.add_sub_cancel] at this
      omega
  intro i hi
  constructor
  · induction i with
    | zero => exact Int.le_refl _
    | succ i ih => have := ih (by omega); have := step i hi; omega
  · have up : ∀ k, i + k < l.length → (rget l i).y1 ≤ (rget l (i + k)).y1 := by
      intro k
      induction k with
      | zero => intro _; exact Int.le_refl _
      | succ k ih => intro hk; have := ih (by omega); have := step (i + k) (by omega); rw [show i + (k + 1) = i + k + 1 by omega]; omega
    have := up (l.length - 1 - i) (by omega)
    rwa [show i + (l.length - 1 - i) = l.length - 1 by omega] at this
theorem hull_ends {l : List Rect} (h : Good l) (hl : 0 < l.length) : (rget l 0).y0 = (hullP l).y0 ∧ (rget l (l.length - 1)).y1 = (hullP l).y1 := by
  have ho := hull_of h.ne hl
  have hr := can_rise h.can.symm
  obtain ⟨q, hq, e⟩ := ho.y0
  obtain ⟨q', hq', e'⟩ := ho.y1
  obtain ⟨i, hi, ei⟩ := List.mem_iff_getElem.1 hq
  obtain ⟨j, hj, ej⟩ := List.mem_iff_getElem.1 hq'
  have h1 := hr i hi
  have h2 := hr j hj
  rw [rget_eq hi] at ei
  rw [rget_eq hj] at ej
  rw [ei] at h1
  rw [ej] at h2
  have h3 := ho.in_ (rget l 0) (rget_mem hl)
  have h4 := ho.in_ (rget l (l.length - 1)) (rget_mem (by omega))
  omega
/-- A side that is touched. -/
def touchS (f : Rect → Int) (v : Int) (l : List Rect) : Bool := l.any fun r => f r == v
theorem touchS_put {f : Rect → Int} {v : Int} {l : List Rect} {i : Nat} (h : i < l.length) : (touchS f v (l.take i) || (f (rget l i) == v)) = touchS f v (l.take (i + 1)) := by
  rw [take_succ_rget h]; simp [touchS]
theorem touchS_all {f : Rect → Int} {v : Int} {l : List Rect} (h : ∃ r ∈ l, f r = v) : touchS f v l = true := by
  obtain ⟨r, hm, e⟩ := h
  exact List.any_eq_true.2 ⟨r, hm, by simp [e]⟩
end Go.Proofs.Ytgmonhehilcegaa
