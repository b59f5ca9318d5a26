/- Regions moved, scaled, kept small; the rectangle round all. Plain laws. -/
import Derived.Test.YtgmonhehilcegaaPeRm
set_option linter.unusedVariables false
set_option linter.unusedSimpArgs false
namespace Go.Proofs.Ytgmonhehilcegaa
open Go Go.RowKit

def zeroR : Rect := ⟨0, 0, 0, 0⟩
/-! ### What is made of each, up to the first error -/
/-! ### Regions under ways that keep the order -/
structure Mono (φ : Int → Int) : Prop where
  lt : ∀ {a b : Int}, a < b → φ a < φ b
theorem Mono.inj {φ : Int → Int} (h : Mono φ) {a b : Int} (e : φ a = φ b) : a = b := by
  rcases Int.lt_trichotomy a b with c | c | c
  · have := h.lt c; omega
  · exact c
  · have := h.lt c; omega
theorem Mono.le {φ : Int → Int} (h : Mono φ) {a b : Int} (e : a ≤ b) : φ a ≤ φ b := by
  rcases Int.lt_or_eq_of_le e with c | c
  · exact Int.le_of_lt (h.lt c)
  · subst c; exact Int.le_refl _
/-! ### The rectangle round all -/
def joinR (o r : Rect) : Rect := ⟨min o.x0 r.x0, min o.y0 r.y0, max o.x1 r.x1, max o.y1 r.y1⟩
def hullP1 (o r : Rect) : Rect := if emptyR r then o else joinR (if o = zeroR then r else o) r
def hullP (l : List Rect) : Rect := l.foldl hullP1 zeroR
def hullD1 (s : Rect × Bool) (r : Rect) : Rect × Bool := if emptyR r then s else (joinR (if s.2 then s.1 else r) r, true)
theorem hullP_put {l : List Rect} {i : Nat} (h : i < l.length) : hullP1 (hullP (l.take i)) (rget l i) = hullP (l.take (i + 1)) := by
  unfold hullP; rw [take_succ_rget h, List.foldl_append]; rfl
def hullS (l : List Rect) : Rect × Bool := l.foldl hullD1 (zeroR, false)
theorem hullS_put {l : List Rect} {i : Nat} (h : i < l.length) : hullD1 (hullS (l.take i)) (rget l i) = hullS (l.take (i + 1)) := by
  unfold hullS; rw [take_succ_rget h, List.foldl_append]; rfl
theorem hullP_skip {l : List Rect} {i : Nat} (h : i < l.length) (he : emptyR (rget l i) = true) : hullP (l.take i) = hullP (l.take (i + 1)) := by
  rw [← hullP_put h]; unfold hullP1; rw [if_pos he]
theorem hullP_first {l : List Rect} {i : Nat} (h : i < l.length) (he : emptyR (rget l i) = false) (hz : hullP (l.take i) = zeroR) : joinR (rget l i) (rget l i) = hullP (l.take (i + 1)) := by
  rw [← hullP_put h]; unfold hullP1; rw [he, if_neg (by simp), if_pos hz]
theorem hullP_join {l : List Rect} {i : Nat} (h : i < l.length) (he : emptyR (rget l i) = false) (hz : hullP (l.take i) ≠ zeroR) : joinR (hullP (l.take i)) (rget l i) = hullP (l.take (i + 1)) := by
  rw [← hullP_put h]; unfold hullP1; rw [he, if_neg (by simp), if_neg hz]
abbrev cellsR (r : Rect) : List Value := [.int .i64 r.x0, .int .i64 r.y0, .int .i64 r.x1, .int .i64 r.y1]
theorem joinV (o r : Rect) : [Value.int .i64 (mn o.x0 r.x0), .int .i64 (mn o.y0 r.y0), .int .i64 (mx o.x1 r.x1), .int .i64 (mx o.y1 r.y1)] = cellsR (joinR o r) := by simp [cellsR, joinR, mn_eq, mx_eq]
theorem cellsR_eq {a b : Rect} (h : a = b) : cellsR a = cellsR b := congrArg cellsR h
theorem eqInts_zero {o : Rect} {b : Bool} (h : eqInts [o.x0, o.y0, o.x1, o.y1] [0, 0, 0, 0] = b) : decide (o = zeroR) = b := (eqInts_rect (r := o) (s := zeroR)).symm.trans h
/-- Of rectangles that have points: both ways tell the same, the least one round all. -/
structure HullOf (l : List Rect) (o : Rect) : Prop where
  in_ : ∀ r ∈ l, o.x0 ≤ r.x0 ∧ o.y0 ≤ r.y0 ∧ r.x1 ≤ o.x1 ∧ r.y1 ≤ o.y1
  x0 : ∃ r ∈ l, r.x0 = o.x0
  y0 : ∃ r ∈ l, r.y0 = o.y0
  x1 : ∃ r ∈ l, r.x1 = o.x1
  y1 : ∃ r ∈ l, r.y1 = o.y1
theorem hull_snoc {l : List Rect} {o r : Rect} (h : HullOf l o) : HullOf (l ++ [r]) (joinR o r) := by
  have pick : ∀ (f : Rect → Int) (a b : Int) (m : Int), (m = a ∨ m = b) → (∃ q ∈ l, f q = a) → f r = b → ∃ q ∈ l ++ [r], f q = m := by
    intro f a b m hm ⟨q, hq, e⟩ hb
    rcases hm with rfl | rfl
    · exact ⟨q, by simp [hq], e⟩
    · exact ⟨r, by simp, hb⟩
  refine ⟨fun q hq => ?_, pick (·.x0) o.x0 r.x0 _ (by simp only [joinR]; omega) h.x0 rfl, pick (·.y0) o.y0 r.y0 _ (by simp only [joinR]; omega) h.y0 rfl, pick (·.x1) o.x1 r.x1 _ (by simp only [joinR]; omega) h.x1 rfl, pick (·.y1) o.y1 r.y1 _ (by simp only [joinR]; omega) h.y1 rfl⟩
  simp only [joinR]
  rcases List.mem_append.1 hq with hq | hq
  · have := h.in_ q hq; omega
  · have : q = r := by simpa using hq
    subst this; omega
theorem hull_one (r : Rect) : HullOf [r] (joinR r r) := by
  refine ⟨fun q hq => ?_, ⟨r, by simp, by simp only [joinR]; omega⟩, ⟨r, by simp, by simp only [joinR]; omega⟩, ⟨r, by simp, by simp only [joinR]; omega⟩, ⟨r, by simp, by simp only [joinR]; omega⟩⟩
  have : q = r := by simpa using hq
  subst this; simp only [joinR]; omega
theorem hull_all {l : List Rect} (h : ∀ r ∈ l, emptyR r = false) : ∀ i, i ≤ l.length → hullP (l.take i) = (hullS (l.take i)).1 ∧ (hullS (l.take i)).2 = decide (0 < i) ∧ (0 < i → HullOf (l.take i) (hullP (l.take i)) ∧ hullP (l.take i) ≠ zeroR) := by
  intro i
  induction i with
  | zero => intro _; exact ⟨rfl, rfl, fun h => by omega⟩
  | succ i ih =>
    intro hi
    obtain ⟨h1, h2, h3⟩ := ih (by omega)
    have he := h (rget l i) (rget_mem (by omega))
    have hlt := emptyB_false.1 he
    have ea := hullP_put (l := l) (i := i) (by omega)
    have eb := hullS_put (l := l) (i := i) (by omega)
    have nz : ∀ o : Rect, HullOf (l.take (i + 1)) o → o ≠ zeroR := by
      intro o ho hz
      have := ho.in_ (rget l i) (by rw [take_succ_rget (by omega)]; simp)
      subst hz
      simp only [zeroR] at this
      omega
    by_cases h0 : i = 0
    · subst h0
      have e1 : hullP (l.take 1) = joinR (rget l 0) (rget l 0) := by rw [← ea]; unfold hullP1; rw [he]; rfl
      have e2 : hullS (l.take 1) = (joinR (rget l 0) (rget l 0), true) := by rw [← eb]; unfold hullD1; rw [he]; rfl
      have e3 : l.take 1 = [rget l 0] := by have := take_succ_rget (l := l) (i := 0) (by omega); simpa using this
      refine ⟨by rw [e1, e2], by rw [e2]; rfl, fun _ => ?_⟩
      have ho : HullOf (l.take 1) (hullP (l.take 1)) := by rw [e1, e3]; exact hull_one _
      exact ⟨ho, nz _ ho⟩
    · obtain ⟨g1, g2⟩ := h3 (by omega)
      have e1 : hullP (l.take (i + 1)) = joinR (hullP (l.take i)) (rget l i) := by
        rw [← ea]; unfold hullP1; rw [he, if_neg (by simp), if_neg g2]
      have e2 : hullS (l.take (i + 1)) = (joinR (hullP (l.take i)) (rget l i), true) := by
        rw [← eb]; unfold hullD1; rw [he, if_neg (by simp), h2, decide_eq_true (by omega), if_pos rfl, ← h1]
      refine ⟨by rw [e1, e2], by rw [e2]; simp, fun _ => ?_⟩
      have ho : HullOf (l.take (i + 1)) (hullP (l.take (i + 1))) := by rw [e1, take_succ_rget (by omega)]; exact hull_snoc g1
      exact ⟨ho, nz _ ho⟩
theorem hull_of {l : List Rect} (h : ∀ r ∈ l, emptyR r = false) (hl : 0 < l.length) : HullOf l (hullP l) := by
  have := (hull_all h l.length (Nat.le_refl _)).2.2 hl
  rw [List.take_length] at this
  exact this.1
def keepL (f : List Rect → Rect) (l : List Rect) (n : Int) : List Rect := if (l.length : Int) ≤ n then l else if n < 1 then [] else [f l]
theorem InBox.ne {r : Rect} (h : InBox r) : emptyR r = false := emptyB_false.2 ⟨h.x.2.1, h.y.2.1⟩
theorem Good.ne {l : List Rect} (h : Good l) : ∀ r ∈ l, emptyR r = false := fun r hr => (boxed_rects h.reg h.box r hr).ne
theorem keepL_all {f : List Rect → Rect} {l : List Rect} {n : Int} (h : (l.length : Int) ≤ n) : keepL f l n = l := by unfold keepL; rw [if_pos h]
theorem keepL_none {f : List Rect → Rect} {l : List Rect} {n : Int} (h : ¬ (l.length : Int) ≤ n) (h1 : n < 1) : keepL f l n = [] := by unfold keepL; rw [if_neg h, if_pos h1]
theorem keepL_one {f : List Rect → Rect} {l : List Rect} {n : Int} (h : ¬ (l.length : Int) ≤ n) (h1 : ¬ n < 1) : keepL f l n = [f l] := by unfold keepL; rw [if_neg h, if_neg h1]
theorem keepL_length (f : List Rect → Rect) (l : List Rect) (n : Int) : (keepL f l n).length ≤ l.length ∨ (keepL f l n).length ≤ 1 := by
  unfold keepL
  split
  · exact .inl (Nat.le_refl _)
  · split
    · exact .inl (by simp)
    · exact .inr (by simp)
theorem hasL_hull {l : List Rect} (h : ∀ r ∈ l, emptyR r = false) {x y : Int} (hh : hasL l x y = true) : hasL [hullP l] x y = true := by
  obtain ⟨r, hm, h1⟩ := hasL_true.1 hh
  have hl : 0 < l.length := List.length_pos_of_mem hm
  have := (hull_of h hl).in_ r hm
  exact hasL_true.2 ⟨hullP l, by simp, by omega⟩
theorem keep_covers {l : List Rect} (h : ∀ r ∈ l, emptyR r = false) {n : Int} (hn : 1 ≤ n) : regM lessB l (keepL hullP l n) = [] := by
  refine reg_nil rfl (fun x y => ?_)
  unfold keepL lessB
  cases hh : hasL l x y with
  | false => rfl
  | true =>
    split
    · rw [hh]; rfl
    · rw [if_neg (by omega), hasL_hull h hh]; rfl
end Go.Proofs.Ytgmonhehilcegaa

