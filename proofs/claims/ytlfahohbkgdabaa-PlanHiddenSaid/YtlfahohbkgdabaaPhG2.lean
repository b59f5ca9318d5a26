/- Texts of this proof's own, put together: what each holds is told ahead of it. -/
import Derived.Test.YtlfahohbkgdabaaPhG1
import Derived.Lib.SlicesCompact
import Derived.Lib.SliceRun
import Derived.Test.YtlfahohbkgdabaaPhG0
import Derived.Test.YtlfahohbkgdabaaProg
set_option linter.unusedSimpArgs false
set_option linter.unusedVariables false
namespace Go.Proofs.Ytlfahohbkgdabaa
open Go Go.RowKit
def emptyR (r : Rect) : Bool := emptyB r.x0 r.y0 r.x1 r.y1
theorem rise_pairwise {l : List Int} : Rise l ↔ l.Pairwise (· < ·) := by
  constructor
  · intro h
    rw [List.pairwise_iff_getElem]
    intro i j hi hj hij
    have := h.lt hij hj
    rw [List.getD_eq_getElem?_getD, List.getElem?_eq_getElem hi, List.getD_eq_getElem?_getD, List.getElem?_eq_getElem hj] at this
    simpa using this
  · intro h i hi
    rw [List.pairwise_iff_getElem] at h
    have := h i (i + 1) (by omega) hi (by omega)
    rw [List.getD_eq_getElem?_getD, List.getElem?_eq_getElem (by omega), List.getD_eq_getElem?_getD, List.getElem?_eq_getElem hi]
    simpa using this
theorem keeps_def (d : Array Int) (j : Nat) : Lib.keeps d j = true ↔ j = 0 ∨ d[j]! ≠ d[j - 1]! := by simp [Lib.keeps]
theorem arr_get (l : List Int) (i : Nat) : l.toArray[i]! = l.getD i 0 := by
  rw [List.getD_eq_getElem?_getD]
  by_cases h : i < l.length
  · rw [getElem!_pos _ i (by simpa using h)]; simp [h]
  · rw [getElem!_neg _ i (by simpa using h), List.getElem?_eq_none (by omega)]; rfl
theorem compact_rise {l : List Int} (h : l.Pairwise (· ≤ ·)) : (Lib.compact l).Pairwise (· < ·) := by
  unfold Lib.compact Lib.compactUpTo
  rw [List.pairwise_map]
  have hr : (List.range l.length).Pairwise (· < ·) := List.pairwise_lt_range
  refine (hr.filter _).imp_of_mem (fun {i j} hi hj hij => ?_)
  have hk := (keeps_def _ _).1 (List.mem_filter.1 hj).2
  have hjl := List.mem_range.1 (List.mem_filter.1 hj).1
  rw [arr_get, arr_get] at hk ⊢
  have le : ∀ a b, a ≤ b → b < l.length → l.getD a 0 ≤ l.getD b 0 := by
    intro a b hab hb
    rw [List.pairwise_iff_getElem] at h
    rw [List.getD_eq_getElem?_getD, List.getD_eq_getElem?_getD, List.getElem?_eq_getElem (by omega), List.getElem?_eq_getElem hb]
    by_cases e : a = b
    · subst e; exact Int.le_refl _
    · exact h a b (by omega) hb (by omega)
  have h1 := le i (j - 1) (by omega) (by omega)
  have h2 := le (j - 1) j (by omega) hjl
  rcases hk with hk | hk
  · omega
  · omega
theorem compact_mem {l : List Int} {x : Int} : x ∈ Lib.compact l ↔ x ∈ l := by
  unfold Lib.compact Lib.compactUpTo
  rw [List.mem_map]
  constructor
  · rintro ⟨j, hj, rfl⟩
    have hjl := List.mem_range.1 (List.mem_filter.1 hj).1
    rw [arr_get, List.getD_eq_getElem?_getD, List.getElem?_eq_getElem hjl]; simp
  · intro hx
    obtain ⟨j, hj, e⟩ := List.mem_iff_getElem.1 hx
    have key : ∀ j, j < l.length → ∃ i, i ∈ (List.range l.length).filter (Lib.keeps l.toArray) ∧ l.getD i 0 = l.getD j 0 := by
      intro j
      induction j with
      | zero => intro h0; exact ⟨0, List.mem_filter.2 ⟨List.mem_range.2 h0, (keeps_def _ _).2 (.inl rfl)⟩, rfl⟩
      | succ j ih =>
        intro hj
        by_cases hk : Lib.keeps l.toArray (j + 1) = true
        · exact ⟨j + 1, List.mem_filter.2 ⟨List.mem_range.2 hj, hk⟩, rfl⟩
        · obtain ⟨i, h1, h2⟩ := ih (by omega)
          refine ⟨i, h1, h2.trans ?_⟩
          have : ¬ (j + 1 = 0 ∨ l.toArray[j + 1]! ≠ l.toArray[j + 1 - 1]!) := fun h => hk ((keeps_def _ _).2 h)
          rw [arr_get, arr_get, Nat.add_sub_cancel] at this
          omega
    obtain ⟨i, h1, h2⟩ := key j hj
    refine ⟨i, h1, ?_⟩
    rw [arr_get, h2, List.getD_eq_getElem?_getD, List.getElem?_eq_getElem hj]; exact e
theorem compact_length (l : List Int) : (Lib.compact l).length ≤ l.length := by
  unfold Lib.compact Lib.compactUpTo
  rw [List.length_map]
  exact Nat.le_trans (List.length_filter_le _ _) (by simp)
def sortL (l : List Int) : List Int := l.mergeSort fun x y => decide (x ≤ y)
theorem sortL_mem {l : List Int} {x : Int} : x ∈ sortL l ↔ x ∈ l := (List.mergeSort_perm l _).mem_iff
theorem sortL_length (l : List Int) : (sortL l).length = l.length := List.length_mergeSort l
theorem sortL_sorted (l : List Int) : (sortL l).Pairwise (· ≤ ·) := by
  have := List.pairwise_mergeSort (le := fun x y : Int => decide (x ≤ y)) (fun a b c h1 h2 => by simp only [decide_eq_true_eq] at *; omega) (fun a b => by simp only [Bool.or_eq_true, decide_eq_true_eq]; omega) l
  exact this.imp (fun h => by simpa using h)
def gridL (l : List Int) : List Int := Lib.compact (sortL l)
theorem gridL_rise (l : List Int) : Rise (gridL l) := rise_pairwise.2 (compact_rise (sortL_sorted l))
theorem gridL_mem {l : List Int} {x : Int} : x ∈ gridL l ↔ x ∈ l := compact_mem.trans sortL_mem
theorem gridL_length (l : List Int) : (gridL l).length ≤ l.length := by
  have := compact_length (sortL l)
  rw [sortL_length] at this
  exact this
theorem mem_getD {l : List Int} {x : Int} (h : x ∈ l) : ∃ i, i < l.length ∧ l.getD i 0 = x := by
  obtain ⟨i, hi, e⟩ := List.mem_iff_getElem.1 h
  exact ⟨i, hi, by rw [List.getD_eq_getElem?_getD, List.getElem?_eq_getElem hi]; exact e⟩
theorem getD_mem {l : List Int} {i : Nat} (h : i < l.length) : l.getD i 0 ∈ l := by
  rw [List.getD_eq_getElem?_getD, List.getElem?_eq_getElem h]; simp
theorem rise_cell {g : List Int} (hr : Rise g) {k : Nat} (hk : k + 1 < g.length) {z : Int} (hz : z ∈ g) : (z < g.getD (k + 1) 0 → z ≤ g.getD k 0) ∧ (g.getD k 0 < z → g.getD (k + 1) 0 ≤ z) := by
  obtain ⟨i, hi, rfl⟩ := mem_getD hz
  refine ⟨fun h => ?_, fun h => ?_⟩
  · rcases Nat.lt_or_ge k i with hki | hki
    · have := hr.le (i := k + 1) (j := i) hki hi; omega
    · exact hr.le hki (by omega)
  · rcases Nat.lt_or_ge k i with hki | hki
    · exact hr.le hki hi
    · have := hr.le (i := i) (j := k) hki (by omega); omega
theorem hasL_ycell {l : List Rect} {g : List Int} (hr : Rise g) (hg : ∀ r ∈ l, emptyR r = false → r.y0 ∈ g ∧ r.y1 ∈ g) {k : Nat} (hk : k + 1 < g.length) {t : Int} (h0 : g.getD k 0 ≤ t) (h1 : t < g.getD (k + 1) 0) (x : Int) : hasL l x t = hasL l x (g.getD k 0) := by
  unfold hasL
  rw [Bool.eq_iff_iff, List.any_eq_true, List.any_eq_true]
  constructor
  · rintro ⟨r, hm, hb⟩
    refine ⟨r, hm, ?_⟩
    have hb := hasB_true.1 hb
    have he : emptyR r = false := emptyB_false.2 ⟨by omega, by omega⟩
    have hc := rise_cell hr hk (hg r hm he).1
    have hd := rise_cell hr hk (hg r hm he).2
    have a1 := hc.1 (by omega)
    exact hasB_true.2 ⟨by omega, by omega, by omega, by omega⟩
  · rintro ⟨r, hm, hb⟩
    refine ⟨r, hm, ?_⟩
    have hb := hasB_true.1 hb
    have he : emptyR r = false := emptyB_false.2 ⟨by omega, by omega⟩
    have hd := rise_cell hr hk (hg r hm he).2
    have a1 := hd.2 (by omega)
    exact hasB_true.2 ⟨by omega, by omega, by omega, by omega⟩
theorem hasL_xcell {l : List Rect} {g : List Int} {y : Int} (hr : Rise g) (hg : ∀ r ∈ l, r.x0 < r.x1 → r.y0 ≤ y → y < r.y1 → r.x0 ∈ g ∧ r.x1 ∈ g) {k : Nat} (hk : k + 1 < g.length) {t : Int} (h0 : g.getD k 0 ≤ t) (h1 : t < g.getD (k + 1) 0) : hasL l t y = hasL l (g.getD k 0) y := by
  unfold hasL
  rw [Bool.eq_iff_iff, List.any_eq_true, List.any_eq_true]
  constructor
  · rintro ⟨r, hm, hb⟩
    refine ⟨r, hm, ?_⟩
    have hb := hasB_true.1 hb
    have hc := rise_cell hr hk (hg r hm (by omega) (by omega) (by omega)).1
    have a1 := hc.1 (by omega)
    exact hasB_true.2 ⟨by omega, by omega, by omega, by omega⟩
  · rintro ⟨r, hm, hb⟩
    refine ⟨r, hm, ?_⟩
    have hb := hasB_true.1 hb
    have hd := rise_cell hr hk (hg r hm (by omega) (by omega) (by omega)).2
    have a1 := hd.2 (by omega)
    exact hasB_true.2 ⟨by omega, by omega, by omega, by omega⟩
theorem hasL_true {l : List Rect} {x y : Int} : hasL l x y = true ↔ ∃ r ∈ l, r.x0 ≤ x ∧ x < r.x1 ∧ r.y0 ≤ y ∧ y < r.y1 := by
  unfold hasL
  rw [List.any_eq_true]
  exact ⟨fun ⟨r, h, hb⟩ => ⟨r, h, hasB_true.1 hb⟩, fun ⟨r, h, hb⟩ => ⟨r, h, hasB_true.2 hb⟩⟩
def keepF (kf : Bool → Bool → Bool) (a b : List Rect) (x y : Int) : Bool := kf (hasL a x y) (hasL b x y)
theorem keepF_some {kf : Bool → Bool → Bool} (h0 : kf false false = false) {a b : List Rect} {x y : Int} (h : keepF kf a b x y = true) : hasL (a ++ b) x y = true := by
  rw [hasL_append]
  unfold keepF at h
  cases ha : hasL a x y <;> cases hb : hasL b x y <;> simp_all
theorem mgL_keep {al : List Rect → List Rect → Int → Bool} (hal : Alike al) {kf : Bool → Bool → Bool} (h0 : kf false false = false) {a b : List Rect} {ys : List Int} {xsOf : Nat → List Int} {own : Nat → List Rect} (hr : Rise ys)
    (hy : ∀ r ∈ a ++ b, emptyR r = false → r.y0 ∈ ys ∧ r.y1 ∈ ys) (hxr : ∀ i, Rise (xsOf i))
    (hx : ∀ i, i + 1 < ys.length → ∀ r ∈ a ++ b, r.x0 < r.x1 → r.y0 ≤ ys.getD i 0 → ys.getD i 0 < r.y1 → r.x0 ∈ xsOf i ∧ r.x1 ∈ xsOf i)
    (hown : ∀ i, i + 1 < ys.length → own i = ownL (fun x => keepF kf a b x (ys.getD i 0)) (ys.getD i 0) (ys.getD (i + 1) 0) (xsOf i) ((xsOf i).length - 1)) : IsReg (mgL al own ys) (keepF kf a b) := by
  refine mgL_isReg hal hr (fun i hi => ?_) (fun k hk t h1 h2 x => ?_) (fun x t ht => ?_)
  · rw [hown i hi]
    refine ownL_all (hxr i) (fun k hk t h1 h2 => ?_) (fun t ht => ?_)
    · unfold keepF
      rw [hasL_xcell (hxr i) (fun r hm => hx i hi r (by simp [hm])) hk h1 h2, hasL_xcell (hxr i) (fun r hm => hx i hi r (by simp [hm])) hk h1 h2]
    · obtain ⟨r, hm, b1, b2, b3, b4⟩ := hasL_true.1 (keepF_some h0 ht)
      obtain ⟨m0, m1⟩ := hx i hi r hm (by omega) b3 b4
      obtain ⟨p, hp, e1⟩ := mem_getD m0
      obtain ⟨q, hq, e2⟩ := mem_getD m1
      exact ⟨p, q, hp, hq, by omega, by omega⟩
  · unfold keepF
    rw [hasL_ycell hr (fun r hm => hy r (by simp [hm])) hk h1 h2, hasL_ycell hr (fun r hm => hy r (by simp [hm])) hk h1 h2]
  · obtain ⟨r, hm, b1, b2, b3, b4⟩ := hasL_true.1 (keepF_some h0 ht)
    obtain ⟨m0, m1⟩ := hy r hm (emptyB_false.2 ⟨by omega, by omega⟩)
    obtain ⟨p, hp, e1⟩ := mem_getD m0
    obtain ⟨q, hq, e2⟩ := mem_getD m1
    exact ⟨p, q, hp, hq, by omega, by omega⟩
def evY (l : List Rect) : List Int := l.flatMap fun r => [r.y0, r.y1]
def evX (l : List Rect) : List Int := l.flatMap fun r => [r.x0, r.x1]
def acrossB (y : Int) (r : Rect) : Bool := decide (r.y0 ≤ y) && decide (y < r.y1) && decide (r.x0 < r.x1)
def acrossL (l : List Rect) (y : Int) : List Rect := l.filter (acrossB y)
def hasXL (l : List Rect) (x : Int) : Bool := l.any fun r => decide (r.x0 ≤ x) && decide (x < r.x1)
theorem hasXL_across (l : List Rect) (x y : Int) : hasXL (acrossL l y) x = hasL l x y := by
  unfold hasXL acrossL hasL
  rw [List.any_filter, Bool.eq_iff_iff, List.any_eq_true, List.any_eq_true]
  constructor
  · rintro ⟨r, hm, h⟩
    simp only [acrossB, Bool.and_eq_true, decide_eq_true_eq] at h
    exact ⟨r, hm, hasB_true.2 (by omega)⟩
  · rintro ⟨r, hm, h⟩
    have h := hasB_true.1 h
    refine ⟨r, hm, ?_⟩
    simp only [acrossB, Bool.and_eq_true, decide_eq_true_eq]
    omega
def alike1 (x y : Rect) : Bool := decide (x.x0 = y.x0) && decide (x.x1 = y.x1) && decide (x.y1 = y.y0)
def eqF (f : Rect → Rect → Bool) : List Rect → List Rect → Bool
  | a :: l, b :: m => f a b && eqF f l m
  | [], [] => true
  | _, _ => false
def alikeL (a b : List Rect) : Bool := decide (0 < a.length) && eqF alike1 a b
theorem eqF_append {f : Rect → Rect → Bool} : ∀ {a b : List Rect} {x y : Rect}, eqF f (a ++ [x]) (b ++ [y]) = (eqF f a b && f x y) := by
  intro a
  induction a with
  | nil =>
    intro b x y
    cases b with
    | nil => simp [eqF]
    | cons c b => cases b <;> simp [eqF]
  | cons d a ih =>
    intro b x y
    cases b with
    | nil => cases a <;> simp [eqF]
    | cons c b => simp [eqF, ih, Bool.and_assoc]
theorem eqF_nil {f : Rect → Rect → Bool} {l : List Rect} : eqF f l [] = decide (l = []) := by cases l <;> simp [eqF]
theorem eqF_nil' {f : Rect → Rect → Bool} {l : List Rect} : eqF f [] l = decide (l = []) := by cases l <;> simp [eqF]
theorem eqF_band (y z z' y' : Int) : ∀ {s t : Spans}, eqF alike1 (bandR y z s) (bandR z' y' t) = decide (s = t ∧ (s ≠ [] → z = z')) := by
  intro s
  induction s with
  | nil =>
    intro t
    rw [show bandR y z [] = [] from rfl, eqF_nil']
    by_cases h : t = []
    · subst h; simp [bandR]
    · rw [decide_eq_false (fun e => h (bandR_nil_iff.1 e)), decide_eq_false (fun e => h e.1.symm)]
  | cons a s ih =>
    intro t
    cases t with
    | nil =>
      rw [show bandR z' y' [] = [] from rfl, eqF_nil, decide_eq_false (fun e => by have := bandR_nil_iff.1 e; cases this), decide_eq_false (fun e => by cases e.1)]
    | cons b t =>
      have e1 : bandR y z (a :: s) = bandR y z s ++ [spR y z a] := by simp [bandR]
      have e2 : bandR z' y' (b :: t) = bandR z' y' t ++ [spR z' y' b] := by simp [bandR]
      rw [e1, e2, eqF_append, ih]
      obtain ⟨a1, a2, a3⟩ := a
      obtain ⟨b1, b2, b3⟩ := b
      rw [show alike1 (spR y z (a1, a2, a3)) (spR z' y' (b1, b2, b3)) = (decide (a1 = b1) && decide (a2 = b2) && decide (z = z')) from rfl, Bool.eq_iff_iff]
      simp only [Bool.and_eq_true, decide_eq_true_eq, List.cons.injEq, Prod.mk.injEq, and_true, true_and, ne_eq, reduceCtorEq, not_false_eq_true, forall_const, and_assoc]
      constructor
      · rintro ⟨h1, h2, h3, h4, h5⟩; exact ⟨h3, h4, h1, h5⟩
      · rintro ⟨h3, h4, h1, h5⟩; exact ⟨h1, fun _ => h5, h3, h4, h5⟩
theorem alikeL_alike : Alike fun a b _ => alikeL a b := by
  refine ⟨fun o y => by simp [alikeL], fun l y => ?_, fun b sp y' h1 h2 => ?_⟩
  · unfold alikeL
    rw [eqF_nil]
    cases l <;> simp
  · unfold alikeL
    rw [eqF_band, bandR_length]
    have : 0 < b.2.2.length := by cases h : b.2.2 with
      | nil => exact absurd h h1
      | cons _ _ => simp
    rw [decide_eq_true this, Bool.true_and]
    by_cases h : b.2.2 = sp
    · rw [decide_eq_true ⟨h, fun _ => rfl⟩, decide_eq_true h]
    · rw [decide_eq_false (fun e => h e.1), decide_eq_false h]
def ysP (a b : List Rect) : List Int := gridL (evY a ++ evY b)
def xsP (a b : List Rect) (y : Int) : List Int := gridL (evX (acrossL a y) ++ evX (acrossL b y))
def bandF (kf : Bool → Bool → Bool) (a b : List Rect) (x : Int) : Bool := kf (hasXL a x) (hasXL b x)
def bandP (kf : Bool → Bool → Bool) (a b : List Rect) (y y' : Int) : List Rect := ownL (bandF kf (acrossL a y) (acrossL b y)) y y' (xsP a b y) ((xsP a b y).length - 1)
def regM (kf : Bool → Bool → Bool) (a b : List Rect) : List Rect := mgL (fun a b _ => alikeL a b) (fun i => bandP kf a b ((ysP a b).getD i 0) ((ysP a b).getD (i + 1) 0)) (ysP a b)
theorem evX_mem {l : List Rect} {r : Rect} (h : r ∈ l) : r.x0 ∈ evX l ∧ r.x1 ∈ evX l := ⟨List.mem_flatMap.2 ⟨r, h, by simp⟩, List.mem_flatMap.2 ⟨r, h, by simp⟩⟩
theorem evY_mem {l : List Rect} {r : Rect} (h : r ∈ l) : r.y0 ∈ evY l ∧ r.y1 ∈ evY l := ⟨List.mem_flatMap.2 ⟨r, h, by simp⟩, List.mem_flatMap.2 ⟨r, h, by simp⟩⟩
theorem regM_isReg {kf : Bool → Bool → Bool} (h0 : kf false false = false) (a b : List Rect) : IsReg (regM kf a b) (keepF kf a b) := by
  refine mgL_keep (xsOf := fun i => xsP a b ((ysP a b).getD i 0)) alikeL_alike h0 (gridL_rise _) (fun r hm _ => ?_) (fun i => gridL_rise _) (fun i hi r hm h1 h2 h3 => ?_) (fun i hi => ?_)
  · unfold ysP
    rw [gridL_mem, gridL_mem]
    rcases List.mem_append.1 hm with h | h
    · exact ⟨List.mem_append_left _ (evY_mem h).1, List.mem_append_left _ (evY_mem h).2⟩
    · exact ⟨List.mem_append_right _ (evY_mem h).1, List.mem_append_right _ (evY_mem h).2⟩
  · have hb : acrossB ((ysP a b).getD i 0) r = true := by simp only [acrossB, Bool.and_eq_true, decide_eq_true_eq]; omega
    simp only [xsP]
    rw [gridL_mem, gridL_mem]
    rcases List.mem_append.1 hm with h | h
    · have := evX_mem (l := acrossL a ((ysP a b).getD i 0)) (List.mem_filter.2 ⟨h, hb⟩)
      exact ⟨List.mem_append_left _ this.1, List.mem_append_left _ this.2⟩
    · have := evX_mem (l := acrossL b ((ysP a b).getD i 0)) (List.mem_filter.2 ⟨h, hb⟩)
      exact ⟨List.mem_append_right _ this.1, List.mem_append_right _ this.2⟩
  · have : bandF kf (acrossL a ((ysP a b).getD i 0)) (acrossL b ((ysP a b).getD i 0)) = fun x => keepF kf a b x ((ysP a b).getD i 0) := by
      funext x
      unfold bandF keepF
      rw [hasXL_across, hasXL_across]
    simp only [bandP, this]
def addL' (l : List Int) (n : Int) : List Int := if n ∈ l then l else l.filter (· < n) ++ n :: l.filter (n < ·)
theorem addL'_mem {l : List Int} {n x : Int} : x ∈ addL' l n ↔ x ∈ l ∨ x = n := by
  unfold addL'
  by_cases h : n ∈ l
  · rw [if_pos h]
    exact ⟨.inl, fun e => e.elim id (fun e => e ▸ h)⟩
  · rw [if_neg h]
    simp only [List.mem_append, List.mem_filter, List.mem_cons, decide_eq_true_eq]
    constructor
    · rintro (⟨h1, _⟩ | h1 | ⟨h1, _⟩)
      · exact .inl h1
      · exact .inr h1
      · exact .inl h1
    · rintro (h1 | h1)
      · rcases Int.lt_trichotomy x n with h2 | h2 | h2
        · exact .inl ⟨h1, h2⟩
        · subst h2; exact absurd h1 h
        · exact .inr (.inr ⟨h1, h2⟩)
      · exact .inr (.inl h1)
theorem addL'_rise {l : List Int} (h : Rise l) (n : Int) : Rise (addL' l n) := by
  unfold addL'
  by_cases hn : n ∈ l
  · rw [if_pos hn]; exact h
  · rw [if_neg hn, rise_pairwise]
    have hp := rise_pairwise.1 h
    rw [List.pairwise_append]
    refine ⟨hp.filter _, List.pairwise_cons.2 ⟨fun x hx => by simpa using (List.mem_filter.1 hx).2, hp.filter _⟩, fun x hx y hy => ?_⟩
    have h1 : x < n := by simpa using (List.mem_filter.1 hx).2
    rcases List.mem_cons.1 hy with rfl | hy
    · exact h1
    · have h2 : n < y := by simpa using (List.mem_filter.1 hy).2
      omega
theorem addL'_length (l : List Int) (n : Int) (h : Rise l) : (addL' l n).length ≤ l.length + 1 := by
  unfold addL'
  by_cases hn : n ∈ l
  · rw [if_pos hn]; omega
  · rw [if_neg hn, List.length_append, List.length_cons]
    have : ∀ l : List Int, (l.filter (· < n)).length + (l.filter (n < ·)).length ≤ l.length := by
      intro l
      induction l with
      | nil => simp
      | cons a l ih =>
        by_cases h1 : a < n
        · have h2 : ¬ n < a := by omega
          simp only [List.filter_cons, decide_eq_true h1, decide_eq_false h2, if_true, Bool.false_eq_true, if_false, List.length_cons]; omega
        · by_cases h2 : n < a
          · simp only [List.filter_cons, decide_eq_true h2, decide_eq_false h1, if_true, Bool.false_eq_true, if_false, List.length_cons]; omega
          · simp only [List.filter_cons, decide_eq_false h2, decide_eq_false h1, Bool.false_eq_true, if_false, List.length_cons]; omega
    have := this l
    omega
def addXs (l : List Int) (r : Rect) : List Int := if emptyR r then l else addL' (addL' l r.x0) r.x1
def addYs (l : List Int) (r : Rect) : List Int := if emptyR r then l else addL' (addL' l r.y0) r.y1
def xsD (l : List Rect) : List Int := l.foldl addXs []
def ysD (l : List Rect) : List Int := l.foldl addYs []
theorem xsD_ok (l : List Rect) : ∀ g, Rise g → Rise (l.foldl addXs g) ∧ (∀ x ∈ g, x ∈ l.foldl addXs g) ∧ (∀ r ∈ l, emptyR r = false → r.x0 ∈ l.foldl addXs g ∧ r.x1 ∈ l.foldl addXs g) ∧ (l.foldl addXs g).length ≤ g.length + 2 * l.length := by
  induction l with
  | nil => intro g hg; exact ⟨hg, fun x hx => hx, fun r hr => (by cases hr), by simp⟩
  | cons r l ih =>
    intro g hg
    have h1 : Rise (addXs g r) ∧ (∀ x ∈ g, x ∈ addXs g r) ∧ (emptyR r = false → r.x0 ∈ addXs g r ∧ r.x1 ∈ addXs g r) ∧ (addXs g r).length ≤ g.length + 2 := by
      unfold addXs
      cases he : emptyR r with
      | true => simp [hg]
      | false =>
        simp only [Bool.false_eq_true, if_false]
        refine ⟨addL'_rise (addL'_rise hg _) _, fun x hx => addL'_mem.2 (.inl (addL'_mem.2 (.inl hx))), fun _ => ⟨addL'_mem.2 (.inl (addL'_mem.2 (.inr rfl))), addL'_mem.2 (.inr rfl)⟩, ?_⟩
        have a1 := addL'_length (addL' g r.x0) r.x1 (addL'_rise hg _)
        have a2 := addL'_length g r.x0 hg
        omega
    obtain ⟨h2, h3, h4, h5⟩ := ih (addXs g r) h1.1
    rw [List.foldl_cons]
    refine ⟨h2, fun x hx => h3 x (h1.2.1 x hx), fun q hq he => ?_, by simp only [List.length_cons]; have := h1.2.2.2; omega⟩
    rcases List.mem_cons.1 hq with rfl | hq
    · exact ⟨h3 _ (h1.2.2.1 he).1, h3 _ (h1.2.2.1 he).2⟩
    · exact h4 q hq he
theorem ysD_ok (l : List Rect) : ∀ g, Rise g → Rise (l.foldl addYs g) ∧ (∀ x ∈ g, x ∈ l.foldl addYs g) ∧ (∀ r ∈ l, emptyR r = false → r.y0 ∈ l.foldl addYs g ∧ r.y1 ∈ l.foldl addYs g) ∧ (l.foldl addYs g).length ≤ g.length + 2 * l.length := by
  induction l with
  | nil => intro g hg; exact ⟨hg, fun x hx => hx, fun r hr => (by cases hr), by simp⟩
  | cons r l ih =>
    intro g hg
    have h1 : Rise (addYs g r) ∧ (∀ x ∈ g, x ∈ addYs g r) ∧ (emptyR r = false → r.y0 ∈ addYs g r ∧ r.y1 ∈ addYs g r) ∧ (addYs g r).length ≤ g.length + 2 := by
      unfold addYs
      cases he : emptyR r with
      | true => simp [hg]
      | false =>
        simp only [Bool.false_eq_true, if_false]
        refine ⟨addL'_rise (addL'_rise hg _) _, fun x hx => addL'_mem.2 (.inl (addL'_mem.2 (.inl hx))), fun _ => ⟨addL'_mem.2 (.inl (addL'_mem.2 (.inr rfl))), addL'_mem.2 (.inr rfl)⟩, ?_⟩
        have a1 := addL'_length (addL' g r.y0) r.y1 (addL'_rise hg _)
        have a2 := addL'_length g r.y0 hg
        omega
    obtain ⟨h2, h3, h4, h5⟩ := ih (addYs g r) h1.1
    rw [List.foldl_cons]
    refine ⟨h2, fun x hx => h3 x (h1.2.1 x hx), fun q hq he => ?_, by simp only [List.length_cons]; have := h1.2.2.2; omega⟩
    rcases List.mem_cons.1 hq with rfl | hq
    · exact ⟨h3 _ (h1.2.2.1 he).1, h3 _ (h1.2.2.1 he).2⟩
    · exact h4 q hq he
def span1 (x y : Rect) : Bool := decide (x.x0 = y.x0) && decide (x.x1 = y.x1)
def touchL (last own : List Rect) (y : Int) : Bool := decide (0 < last.length) && decide ((rget last 0).y1 = y) && eqF span1 last own
theorem eqF_span (y z z' y' : Int) : ∀ {s t : Spans}, eqF span1 (bandR y z s) (bandR z' y' t) = decide (s = t) := by
  intro s
  induction s with
  | nil =>
    intro t
    rw [show bandR y z [] = [] from rfl, eqF_nil']
    by_cases h : t = []
    · subst h; simp [bandR]
    · rw [decide_eq_false (fun e => h (bandR_nil_iff.1 e)), decide_eq_false (fun e => h e.symm)]
  | cons a s ih =>
    intro t
    cases t with
    | nil => rw [show bandR z' y' [] = [] from rfl, eqF_nil, decide_eq_false (fun e => by have := bandR_nil_iff.1 e; cases this), decide_eq_false (fun e => by cases e)]
    | cons b t =>
      have e1 : bandR y z (a :: s) = bandR y z s ++ [spR y z a] := by simp [bandR]
      have e2 : bandR z' y' (b :: t) = bandR z' y' t ++ [spR z' y' b] := by simp [bandR]
      rw [e1, e2, eqF_append, ih]
      obtain ⟨a1, a2, a3⟩ := a
      obtain ⟨b1, b2, b3⟩ := b
      rw [show span1 (spR y z (a1, a2, a3)) (spR z' y' (b1, b2, b3)) = (decide (a1 = b1) && decide (a2 = b2)) from rfl, Bool.eq_iff_iff]
      simp only [Bool.and_eq_true, decide_eq_true_eq, List.cons.injEq, Prod.mk.injEq, and_true]
      constructor
      · rintro ⟨h1, h2, h3⟩; exact ⟨⟨h2, h3⟩, h1⟩
      · rintro ⟨⟨h2, h3⟩, h1⟩; exact ⟨h1, h2, h3⟩
theorem bandR_get0 {y z : Int} {sp : Spans} (h : sp ≠ []) : (rget (bandR y z sp) 0).y1 = z := by
  unfold rget bandR
  have hl : 0 < (sp.map (spR y z)).reverse.length := by cases sp with
    | nil => exact absurd rfl h
    | cons _ _ => simp
  rw [List.getD_eq_getElem?_getD, List.getElem?_eq_getElem hl, Option.getD_some]
  have hm := List.getElem_mem hl
  rw [List.mem_reverse, List.mem_map] at hm
  obtain ⟨s, _, e⟩ := hm
  rw [← e]; rfl
theorem touchL_alike : Alike touchL := by
  refine ⟨fun o y => by simp [touchL], fun l y => ?_, fun b sp y' h1 h2 => ?_⟩
  · unfold touchL
    rw [eqF_nil]
    cases l <;> simp
  · unfold touchL
    rw [eqF_span, bandR_length, bandR_get0 h1]
    have : 0 < b.2.2.length := by cases h : b.2.2 with
      | nil => exact absurd h h1
      | cons _ _ => simp
    rw [decide_eq_true this, decide_eq_true rfl]; rfl
def regD (kf : Bool → Bool → Bool) (a b : List Rect) : List Rect := mgL touchL (fun i => ownL (fun x => keepF kf a b x ((ysD (a ++ b)).getD i 0)) ((ysD (a ++ b)).getD i 0) ((ysD (a ++ b)).getD (i + 1) 0) (xsD (a ++ b)) ((xsD (a ++ b)).length - 1)) (ysD (a ++ b))
theorem rise_nil : Rise [] := fun i hi => by simp at hi
theorem regD_isReg {kf : Bool → Bool → Bool} (h0 : kf false false = false) (a b : List Rect) : IsReg (regD kf a b) (keepF kf a b) :=
  mgL_keep (xsOf := fun _ => xsD (a ++ b)) touchL_alike h0 (ysD_ok (a ++ b) [] rise_nil).1 (fun r hm he => (ysD_ok (a ++ b) [] rise_nil).2.2.1 r hm he) (fun i => (xsD_ok (a ++ b) [] rise_nil).1)
    (fun i hi r hm h1 h2 h3 => (xsD_ok (a ++ b) [] rise_nil).2.2.1 r hm (emptyB_false.2 ⟨h1, by omega⟩)) (fun i hi => rfl)
theorem regD_eq {kf : Bool → Bool → Bool} (h0 : kf false false = false) (a b : List Rect) : regD kf a b = regM kf a b := (regD_isReg h0 a b).unique (regM_isReg h0 a b)
theorem putX_length (own : List Rect) (x x' y y' : Int) : (putX own x x' y y').length ≤ own.length + 1 := by
  unfold putX
  split
  · rw [List.length_set]; omega
  · simp
theorem ownL_length (f : Int → Bool) (y y' : Int) (xs : List Int) : ∀ i, (ownL f y y' xs i).length ≤ i := by
  intro i
  induction i with
  | zero => simp [ownL]
  | succ i ih =>
    rw [ownL]
    split
    · have := putX_length (ownL f y y' xs i) (xs.getD i 0) (xs.getD (i + 1) 0) y y'; omega
    · omega
theorem mgSt_length {al : List Rect → List Rect → Int → Bool} {own : Nat → List Rect} {ys : List Int} {m : Nat} (h : ∀ i, (own i).length ≤ m) : ∀ i, (mgSt al own ys i).1.length + (mgSt al own ys i).2.length ≤ i * m ∧ (mgSt al own ys i).2.length ≤ m := by
  intro i
  induction i with
  | zero => simp [mgSt]
  | succ i ih =>
    have e : (i + 1) * m = i * m + m := Nat.succ_mul i m
    rw [mgSt]
    split
    · simp only [setY1, List.length_map]; omega
    · simp only [List.length_append]; have := h i; omega
theorem evX_length (l : List Rect) : (evX l).length = 2 * l.length := by
  induction l with
  | nil => rfl
  | cons r l ih => simp only [evX, List.flatMap_cons, List.length_append, List.length_cons] at *; simp only [List.length_nil]; omega
theorem evY_length (l : List Rect) : (evY l).length = 2 * l.length := by
  induction l with
  | nil => rfl
  | cons r l ih => simp only [evY, List.flatMap_cons, List.length_append, List.length_cons] at *; simp only [List.length_nil]; omega
theorem ysP_length (a b : List Rect) : (ysP a b).length ≤ 2 * (a.length + b.length) := by
  have := gridL_length (evY a ++ evY b)
  rw [List.length_append, evY_length, evY_length] at this
  unfold ysP; omega
theorem acrossL_length (l : List Rect) (y : Int) : (acrossL l y).length ≤ l.length := List.length_filter_le _ _
theorem xsP_length (a b : List Rect) (y : Int) : (xsP a b y).length ≤ 2 * (a.length + b.length) := by
  have := gridL_length (evX (acrossL a y) ++ evX (acrossL b y))
  rw [List.length_append, evX_length, evX_length] at this
  have := acrossL_length a y
  have := acrossL_length b y
  unfold xsP; omega
theorem bandP_length (kf : Bool → Bool → Bool) (a b : List Rect) (y y' : Int) : (bandP kf a b y y').length ≤ 2 * (a.length + b.length) := by
  have := ownL_length (bandF kf (acrossL a y) (acrossL b y)) y y' (xsP a b y) ((xsP a b y).length - 1)
  have := xsP_length a b y
  unfold bandP; omega
end Go.Proofs.Ytlfahohbkgdabaa
namespace Go.Proofs.Ytlfahohbkgdabaa
open Go Go.RowKit
variable {dfs : List Deferred}
def rcells (r : Rect) : List Value := [.int .i64 r.x0, .int .i64 r.y0, .int .i64 r.x1, .int .i64 r.y1]
def rvals : List Rect → List Value
  | [] => []
  | r :: l => rcells r ++ rvals l
theorem rvals_length : ∀ l : List Rect, (rvals l).length = l.length * 4 := by
  intro l
  induction l with
  | nil => rfl
  | cons r l ih => simp only [rvals, List.length_append, ih, List.length_cons, rcells, List.length_nil]; omega
theorem rvals_append : ∀ a b : List Rect, rvals a ++ rvals b = rvals (a ++ b) := by
  intro a b
  induction a with
  | nil => rfl
  | cons r l ih => simp only [rvals, List.cons_append, List.append_assoc, ih]
theorem rvals_one (l : List Rect) : ∀ u ∈ rvals l, u.oneCell' = true := by
  induction l with
  | nil => intro u hu; cases hu
  | cons r l ih =>
    intro u hu
    rcases List.mem_append.1 hu with h | h
    · simp only [rcells, List.mem_cons, List.not_mem_nil, or_false] at h
      rcases h with rfl | rfl | rfl | rfl <;> rfl
    · exact ih u h
theorem rget_zero (r : Rect) (l : List Rect) : rget (r :: l) 0 = r := rfl
theorem rget_succ (r : Rect) (l : List Rect) (i : Nat) : rget (r :: l) (i + 1) = rget l i := by simp [rget]
theorem rvals_get : ∀ {l : List Rect} {i k : Nat} {v : Value}, i < l.length → (rcells (rget l i))[k]? = some v → (rvals l)[i * 4 + k]? = some v := by
  intro l
  induction l with
  | nil => intro i k v h; simp at h
  | cons r l ih =>
    intro i k v h hk
    cases i with
    | zero =>
      rw [rget_zero] at hk
      rw [Nat.zero_mul, Nat.zero_add, rvals, List.getElem?_append_left (List.getElem?_eq_some_iff.1 hk).1]
      exact hk
    | succ i =>
      rw [rget_succ] at hk
      have := ih (by simpa using h) hk
      rw [show (i + 1) * 4 + k = (i * 4 + k) + 4 by omega]
      exact this
theorem rvals_set : ∀ {l : List Rect} {i k : Nat} {v : Value} {r' : Rect}, i < l.length → k < 4 → (rcells (rget l i)).set k v = rcells r' → (rvals l).set (i * 4 + k) v = rvals (l.set i r') := by
  intro l
  induction l with
  | nil => intro i k v r' h; simp at h
  | cons r l ih =>
    intro i k v r' h hk e
    cases i with
    | zero =>
      rw [rget_zero] at e
      rw [Nat.zero_mul, Nat.zero_add, rvals, List.set_append_left _ _ (by simpa [rcells] using hk), e]
      rfl
    | succ i =>
      rw [rget_succ] at e
      have := ih (by simpa using h) hk e
      rw [show (i + 1) * 4 + k = (i * 4 + k) + 4 by omega]
      show rcells r ++ (rvals l).set (i * 4 + k) v = _
      rw [this]; rfl
def setV (vals : List Value) (J : Nat) : List Value → List Value
  | [] => vals
  | v :: r => setV (vals.set J v) (J + 1) r
theorem setV_rect {l : List Rect} {i : Nat} (r : Rect) (h : i < l.length) : setV (rvals l) (i * 4) (rcells r) = rvals (l.set i r) := by
  simp only [rcells, setV]
  have e0 := rvals_set (k := 0) (v := .int .i64 r.x0) (r' := { rget l i with x0 := r.x0 }) h (by omega) rfl
  rw [Nat.add_zero] at e0
  rw [e0]
  have g : ∀ (l : List Rect) (q : Rect), i < l.length → rget (l.set i q) i = q := fun l q h => by simp [rget, List.getD_eq_getElem?_getD, h]
  rw [rvals_set (k := 1) (v := .int .i64 r.y0) (r' := { rget l i with x0 := r.x0, y0 := r.y0 }) (by simpa using h) (by omega) (by rw [g _ _ h]; rfl)]
  rw [show i * 4 + 1 + 1 = i * 4 + 2 from rfl, rvals_set (k := 2) (v := .int .i64 r.x1) (r' := { rget l i with x0 := r.x0, y0 := r.y0, x1 := r.x1 }) (by simpa using h) (by omega) (by rw [g _ _ (by simpa using h)]; rfl)]
  rw [show i * 4 + 2 + 1 = i * 4 + 3 from rfl, rvals_set (k := 3) (v := .int .i64 r.y1) (r' := r) (by simpa using h) (by omega) (by rw [g _ _ (by simpa using h)]; rfl)]
  simp
theorem setV_append (vs : List Value) : ∀ (a c b : List Value) , vs.length = b.length → setV (a ++ b ++ c) a.length vs = a ++ vs ++ c := by
  induction vs with
  | nil => intro a c b h; cases b with
    | nil => simp [setV]
    | cons _ _ => simp at h
  | cons v vs ih =>
    intro a c b h
    cases b with
    | nil => simp at h
    | cons x b =>
      have := ih (a ++ [v]) c b (by simpa using h)
      rw [setV]
      rw [List.length_append, List.length_singleton] at this
      have e : (a ++ x :: b ++ c).set a.length v = a ++ [v] ++ b ++ c := by
        simp [List.set_append]
      rw [e, this]
      simp
section
variable {P : Program}
theorem Rd.cellF {w : World} {A : Option Addr} {g o n : Nat} {l : List Rect} (h : Rd w A g o n 4 (rvals l)) (i k : Nat) (v : Value) (hi : i < l.length) (hk : (rcells (rget l i))[k]? = some v) : w.cell? ⟨g, o + i * 4 + k, none⟩ = some v := by
  have := h.cell (i * 4 + k) v (rvals_get hi hk)
  rwa [← Nat.add_assoc] at this
theorem Rd.cellF0 {w : World} {A : Option Addr} {g n : Nat} {l : List Rect} (h : Rd w A g 0 n 4 (rvals l)) (i k : Nat) (v : Value) (hi : i < l.length) (hk : (rcells (rget l i))[k]? = some v) : w.cell? ⟨g, i * 4 + k, none⟩ = some v :=
  h.cell0 _ _ (rvals_get hi hk)
theorem Rd.rect {w : World} {A : Option Addr} {g o n : Nat} {l : List Rect} (h : Rd w A g o n 4 (rvals l)) {i : Nat} (hi : i < l.length) : ∀ j v, (rcells (rget l i))[j]? = some v → w.cell? ⟨g, (o + i * 4) + j, none⟩ = some v :=
  fun j v hj => h.cellF i j v hi hj
theorem Rd.rect0 {w : World} {A : Option Addr} {g n : Nat} {l : List Rect} (h : Rd w A g 0 n 4 (rvals l)) {i : Nat} (hi : i < l.length) : ∀ j v, (rcells (rget l i))[j]? = some v → w.cell? ⟨g, i * 4 + j, none⟩ = some v :=
  fun j v hj => h.cellF0 i j v hi hj
theorem Row.factsR {w : World} {A : Option Addr} {g n cap : Nat} {e : TypeId} {l : List Rect} (h : Row w A g n cap e 4 (rvals l)) : (0 < n → A = some ⟨g, 0, none⟩) ∧ l.length = n ∧ n ≤ cap ∧ cap ≤ maxLen := by
  refine ⟨h.at_, ?_, h.capLe, ?_⟩
  · have := h.own.1; rw [rvals_length] at this; omega
  · rcases h.own.2 with ⟨h1, _⟩ | ⟨g', cap', cur, hv, _, _, _, hm, _⟩
    · cases h1; unfold maxLen; omega
    · cases hv; exact hm
theorem Rd.factsR {w : World} {A : Option Addr} {g o n : Nat} {l : List Rect} (h : Rd w A g o n 4 (rvals l)) : (0 < n → A = some ⟨g, o, none⟩) ∧ l.length = n := ⟨h.at_, by have := h.len; rw [rvals_length] at this; omega⟩
theorem cont_rowEqR {K : Act → World → Prop} {n' : Nat} {w0 : World} {L : List (Nat × Value)} {T : List Ent} (i : Nat) {A : Option Addr} {g n cap : Nat} {e : TypeId} (xs ys : List Rect) {own : Bool} (hi : T[i]? = some (.gen (rowE A g n cap e 4 (rvals xs) own))) (hxy : xs = ys)
    (h : Cont dfs K n' w0 L (T.set i (.gen (rowE A g n cap e 4 (rvals ys) own)))) : Cont dfs K n' w0 L T := by
  subst hxy
  have : T.set i (.gen (rowE A g n cap e 4 (rvals xs) own)) = T := by
    obtain ⟨hlt, he⟩ := List.getElem?_eq_some_iff.1 hi
    rw [← he]
    exact List.set_getElem_self hlt
  rwa [this] at h
theorem Tab.rowSets {w0 : World} {i g n cap e sz : Nat} {A : Option Addr} {own : Bool} (hn : 0 < n) : ∀ (vs : List Value) (J : Nat) (vals : List Value) (w : World) (T : List Ent), Tab w0 w T → T[i]? = some (.gen (rowE A g n cap e sz vals own)) →
    Tab w0 (w.setCells g J vs) (T.set i (.gen (rowE A g n cap e sz (setV vals J vs) own))) := by
  intro vs
  induction vs with
  | nil =>
    intro J vals w T hT hi
    have : T.set i (.gen (rowE A g n cap e sz vals own)) = T := by
      obtain ⟨hlt, he⟩ := List.getElem?_eq_some_iff.1 hi
      rw [← he]
      exact List.set_getElem_self hlt
    simp only [setV, World.setCells]
    rw [this]; exact hT
  | cons v vs ih =>
    intro J vals w T hT hi
    have h1 := hT.rowSet hi hn J v
    have hlt : i < T.length := (List.getElem?_eq_some_iff.1 hi).1
    have h2 := ih (J + 1) (vals.set J v) _ _ h1 (by simp [hlt])
    rw [List.set_set] at h2
    exact h2
theorem Row.there {w : World} {A : Option Addr} {g n cap : Nat} {e : TypeId} {sz : Nat} {vals : List Value} (h : Row w A g n cap e sz vals) {j : Nat} (hj : j < n * sz) : (w.cell? ⟨g, j, none⟩).isSome = true := by
  have hl := h.own.1
  have := h.cell j (vals[j]'(by omega)) (List.getElem?_eq_getElem (by omega))
  rw [this]; rfl
theorem run_storeAt_cells {t : TypeId} {v : Value} {vs : List Value} {g J : Nat} (hv : v.cells = vs.toArray) (hsz : (P.info? t).map (·.size) = some vs.length) (h1 : ∀ u ∈ vs, u.oneCell' = true) (w : World) (hc : ∀ j, j < vs.length → (w.cell? ⟨g, J + j, none⟩).isSome = true) (hf : ∀ j, j < vs.length → w.frozen? ⟨g, J + j, none⟩ = false) :
    (Instr.storeAt t (.pointer (some ⟨g, J, none⟩)) v).run P w = .ok () (w.setCells g J vs) := by
  obtain ⟨i, hi1, hi2⟩ := Option.map_eq_some_iff.1 hsz
  have e : Instr.storeAt t (.pointer (some ⟨g, J, none⟩)) v = storeVar t ⟨g, J, none⟩ v := rfl
  have hst := run_storeCells_cells (P := P) g J vs 0 w (by simpa using hc) (by simpa using hf) h1
  rw [Nat.add_zero] at hst
  rw [e, storeVar]
  simp [Sem.run_bind, sizeOf, typeInfo, hi1, hi2, hv, hst]
theorem store_fieldR {w0 w : World} {T : List Ent} (hT : Tab w0 w T) {t e : TypeId} {A : Option Addr} {i g n cap J k p : Nat} {l : List Rect} {own : Bool} {v : Int} (r' : Rect) (hi : T[i]? = some (.gen (rowE A g n cap e 4 (rvals l) own))) (hsz : (P.info? t).map (·.size) = some 1) (hJ : J < l.length) (hk : k < 4) (hp : p = J * 4 + k) (he : (rcells (rget l J)).set k (.int .i64 v) = rcells r') :
    ∃ (x : Unit) (w' : World), (Instr.storeAt t (.pointer (some ⟨g, p, none⟩)) (.int .i64 v)).run P w = .ok () w' ∧ True ∧ Tab w0 w' (T.set i (.gen (rowE A g n cap e 4 (rvals (l.set J r')) own))) := by
  subst hp
  have hrow : Row w A g n cap e 4 (rvals l) := hT.ok i _ hi
  have hlen : l.length = n := hrow.factsR.2.1
  have hn : 0 < n := by omega
  have hc := hrow.there (j := J * 4 + k) (by omega)
  obtain ⟨u, hu⟩ := Option.isSome_iff_exists.1 hc
  refine ⟨(), _, run_store1 hsz rfl hu (hrow.free hn _), trivial, ?_⟩
  have := hT.rowSet hi hn (J * 4 + k) (.int .i64 v)
  rw [rvals_set hJ hk he] at this
  exact this
theorem store_rectR {w0 w : World} {T : List Ent} (hT : Tab w0 w T) {t e : TypeId} {A : Option Addr} {i g n cap J : Nat} {l : List Rect} {own : Bool} (r : Rect) (hi : T[i]? = some (.gen (rowE A g n cap e 4 (rvals l) own))) (hsz : (P.info? t).map (·.size) = some 4) (hJ : J < l.length) :
    ∃ (x : Unit) (w' : World), (Instr.storeAt t (.pointer (some ⟨g, J * 4, none⟩)) (.agg #[.int .i64 r.x0, .int .i64 r.y0, .int .i64 r.x1, .int .i64 r.y1])).run P w = .ok () w' ∧ True ∧ Tab w0 w' (T.set i (.gen (rowE A g n cap e 4 (rvals (l.set J r)) own))) := by
  have hrow : Row w A g n cap e 4 (rvals l) := hT.ok i _ hi
  have hlen : l.length = n := hrow.factsR.2.1
  have hn : 0 < n := by omega
  refine ⟨(), _, run_storeAt_cells (vs := rcells r) rfl hsz (fun u hu => rvals_one [r] u (by simpa [rvals] using hu)) w (fun j hj => hrow.there (by simp [rcells] at hj; omega)) (fun j hj => hrow.free hn _), trivial, ?_⟩
  have := Tab.rowSets hn (rcells r) (J * 4) (rvals l) w T hT hi
  rw [setV_rect r hJ] at this
  exact this
theorem Row.shrink {w : World} {A : Option Addr} {g n cap : Nat} {e : TypeId} {sz : Nat} {vals : List Value} (h : Row w A g n cap e sz vals) {k : Nat} (hk : k ≤ n) : Row w A g k cap e sz (vals.take (k * sz)) := by
  have hl := h.own.1
  have hkn : k * sz ≤ n * sz := Nat.mul_le_mul_right _ hk
  refine ⟨⟨by rw [List.length_take]; omega, ?_⟩, fun h0 => h.at_ (by omega), h.spot⟩
  rcases h.own.2 with ⟨h1, h2⟩ | ⟨g', cap', cur, hv, hg, hh, hle, hcm, hcs, htk⟩
  · cases h1
    exact .inl ⟨by rw [show k = 0 by omega], by omega⟩
  · cases hv
    exact .inr ⟨g', cap, cur, rfl, hg, hh, by omega, hcm, hcs, by rw [← htk, List.take_take, Nat.min_eq_left hkn]⟩
theorem Tab.shrink {w0 w : World} {T : List Ent} (hT : Tab w0 w T) {i : Nat} {A : Option Addr} {g n cap e sz : Nat} {vals vals' : List Value} {own : Bool} (h : T[i]? = some (.gen (rowE A g n cap e sz vals own))) {k : Nat} (hk : k ≤ n) (hv : vals.take (k * sz) = vals') :
    Tab w0 w (T.set i (.gen (rowE A g k cap e sz vals' own))) := by
  subst hv
  have hrow : Row w A g n cap e sz vals := hT.ok i _ h
  exact hT.replace (e := .gen (rowE A g n cap e sz vals own)) (e' := .gen (rowE A g k cap e sz _ own)) h rfl rfl id (fun k hk => .inl hk) (fun k _ hk _ => hk) rfl rfl rfl (Nat.le_refl _) (fun _ _ _ => rfl) (hrow.shrink hk)
theorem rvals_take {l : List Rect} {k : Nat} : (rvals l).take (k * 4) = rvals (l.take k) := by
  induction l generalizing k with
  | nil => simp [rvals]
  | cons r l ih =>
    cases k with
    | zero => simp [rvals]
    | succ k =>
      rw [show (k + 1) * 4 = k * 4 + 4 by omega]
      show rcells r ++ (rvals l).take (k * 4) = _
      rw [ih]; rfl
theorem ivals_take {q : IntKind} {l : List Int} {k : Nat} : (ivals q l).take (k * 1) = ivals q (l.take k) := by simp [ivals, List.map_take]
theorem run_sliceLo {t e : TypeId} {g o n cap sz : Nat} {kl : IntKind} {l : Int} (ln : Nat) (hu : P.underlying t = some (.slice e)) (hi : (P.info? e).map (·.size) = some sz) (h0 : 0 ≤ l) (h1 : l ≤ (n : Int)) (h2 : n ≤ cap) (hl : l.toNat = ln) (w : World) :
    (Instr.sliceAt t (.slice (some ⟨g, o, none⟩) n cap) (some (.int kl l)) none none).run P w = .ok (.slice (sliceA g o ln cap sz) (n - ln) (cap - ln)) w := by
  subst hl
  obtain ⟨i, hi1, hi2⟩ := Option.map_eq_some_iff.1 hi
  have ha : (⟨g, o, none⟩ : Addr).add (l.toNat * sz) = ⟨g, o + l.toNat * sz, none⟩ := by unfold Addr.add; split <;> simp_all
  simp only [Instr.sliceAt, Instr.slice, Instr.sliceBounds, Instr.sliceBound, asIntOf]
  simp [Sem.run_bind, run_underlying hu, h0, h1, show (n : Int) ≤ cap by omega, sizeOf, typeInfo, hi1, hi2, ha, sliceA]
theorem run_sliceHi {t e : TypeId} {g o n cap sz : Nat} {kh : IntKind} {h : Int} (hn : Nat) (hu : P.underlying t = some (.slice e)) (hi : (P.info? e).map (·.size) = some sz) (h0 : 0 ≤ h) (h2 : h ≤ (cap : Int)) (hh : h.toNat = hn) (w : World) :
    (Instr.sliceAt t (.slice (some ⟨g, o, none⟩) n cap) none (some (.int kh h)) none).run P w = .ok (.slice (some ⟨g, o, none⟩) hn cap) w := by
  subst hh
  obtain ⟨i, hi1, hi2⟩ := Option.map_eq_some_iff.1 hi
  have ha : (⟨g, o, none⟩ : Addr).add 0 = ⟨g, o, none⟩ := by unfold Addr.add; split <;> simp_all
  simp only [Instr.sliceAt, Instr.slice, Instr.sliceBounds, Instr.sliceBound, asIntOf]
  simp [Sem.run_bind, run_underlying hu, h0, h2, sizeOf, typeInfo, hi1, hi2, ha]
theorem rvals_rep (m : Nat) : rvals (List.replicate m ⟨0, 0, 0, 0⟩) = List.replicate (m * 4) (.int .i64 0) := by
  induction m with
  | zero => rfl
  | succ m ih =>
    rw [List.replicate_succ, rvals, ih, show (m + 1) * 4 = m * 4 + 4 by omega]
    rfl
theorem clear_rowR {w0 w : World} {T : List Ent} (hT : Tab w0 w T) {t ty e : TypeId} {i g n cap J m c : Nat} {a : Addr} {A : Option Addr} {l : List Rect} {own : Bool} (hi : T[i]? = some (.gen (rowE A g n cap e 4 (rvals l) own)))
    (ht : P.underlying t = some (.slice e)) (hz : (P.info? e).map (fun i => i.zero) = some (some (.agg #[.int .i64 0, .int .i64 0, .int .i64 0, .int .i64 0]))) (hA : 0 < m → a = ⟨g, J * 4, none⟩) (hJ : J + m ≤ n) {l' : List Rect} (hl' : l.take J ++ List.replicate m ⟨0, 0, 0, 0⟩ ++ l.drop (J + m) = l') :
    ∃ (x : Unit) (w' : World), (∃ v, (Builtin.clear_ #[t] ty #[.slice (some a) m c]).run P w = .ok v w') ∧ True ∧ Tab w0 w' (T.set i (.gen (rowE A g n cap e 4 (rvals l') own))) := by
  subst hl'
  have hrow : Row w A g n cap e 4 (rvals l) := hT.ok i _ hi
  have hlen : l.length = n := hrow.factsR.2.1
  obtain ⟨inf, hinf, hz⟩ := Option.map_eq_some_iff.1 hz
  have hzv : (zeroValue e).run P w = .ok (.agg #[.int .i64 0, .int .i64 0, .int .i64 0, .int .i64 0]) w := by
    simp [zeroValue, typeInfo, Sem.run_bind, hinf, hz]
  have hzc : (Builtin.zeroCells (Value.agg #[.int .i64 0, .int .i64 0, .int .i64 0, .int .i64 0]).cells m).toList = List.replicate (m * 4) (.int .i64 0) := by
    show (Builtin.zeroCells #[.int .i64 0, .int .i64 0, .int .i64 0, .int .i64 0] m).toList = _
    apply List.ext_getElem?
    intro j
    simp only [Builtin.zeroCells, Array.toList_map, Array.toList_range, List.getElem?_map, List.getElem?_replicate]
    by_cases hj : j < m * 4
    · rw [if_pos hj, List.getElem?_range (by simpa using hj)]
      simp only [Option.map_some, Option.some.injEq]
      have : j % 4 < 4 := Nat.mod_lt _ (by omega)
      show #[Value.int .i64 0, .int .i64 0, .int .i64 0, .int .i64 0][j % 4]! = _
      generalize j % 4 = q at this
      match q, this with
      | 0, _ => rfl
      | 1, _ => rfl
      | 2, _ => rfl
      | 3, _ => rfl
    · rw [if_neg hj, List.getElem?_eq_none (by simpa using hj)]; rfl
  by_cases hm : m = 0
  · subst hm
    refine ⟨(), w, ⟨.tuple #[], ?_⟩, trivial, ?_⟩
    · rw [Nat.zero_mul, List.replicate_zero] at hzc
      simp [Builtin.clear_, run_underlying ht, hzv, Sem.run_bind]
    · rw [List.replicate_zero, List.append_nil, Nat.add_zero, List.take_append_drop]
      have : T.set i (.gen (rowE A g n cap e 4 (rvals l) own)) = T := by
        obtain ⟨hlt, he⟩ := List.getElem?_eq_some_iff.1 hi
        rw [← he]
        exact List.set_getElem_self hlt
      rw [this]; exact hT
  · have hn : 0 < n := by omega
    have ha := hA (by omega)
    subst ha
    have hst := run_storeCells_cells (P := P) g (J * 4) (List.replicate (m * 4) (.int .i64 0)) 0 w (fun j hj => by rw [Nat.add_zero]; exact hrow.there (by rw [List.length_replicate] at hj; omega)) (fun j hj => hrow.free hn _) (fun v hv => by rw [List.eq_of_mem_replicate hv]; rfl)
    rw [Nat.add_zero] at hst
    refine ⟨(), w.setCells g (J * 4) (List.replicate (m * 4) (.int .i64 0)), ⟨.tuple #[], ?_⟩, trivial, ?_⟩
    · obtain ⟨m', rfl⟩ : ∃ m', m = m' + 1 := ⟨m - 1, by omega⟩
      simp [Builtin.clear_, run_underlying ht, hzv, Sem.run_bind, hzc, hst]
    · have h := Tab.rowSets hn (List.replicate (m * 4) (.int .i64 0)) (J * 4) (rvals l) w T hT hi
      have e : rvals l = rvals (l.take J) ++ rvals ((l.drop J).take m) ++ rvals (l.drop (J + m)) := by
        rw [rvals_append, rvals_append, ← List.drop_drop, List.append_assoc, List.take_append_drop, List.take_append_drop]
      have hlJ : (rvals (l.take J)).length = J * 4 := by rw [rvals_length, List.length_take]; omega
      have e2 : setV (rvals l) (J * 4) (List.replicate (m * 4) (.int .i64 0)) = rvals (l.take J ++ List.replicate m ⟨0, 0, 0, 0⟩ ++ l.drop (J + m)) := by
        conv => lhs; rw [e, ← hlJ]
        rw [setV_append _ _ _ _ (by rw [List.length_replicate, rvals_length, List.length_take, List.length_drop]; omega), ← rvals_rep, rvals_append, rvals_append]
      rw [e2] at h
      exact h
theorem Tab.nilR {w0 w : World} {T : List Ent} (hT : Tab w0 w T) (e : TypeId) (sz : Nat) : Tab w0 w (.gen (rowE none 0 0 0 e sz [] true) :: T) :=
  hT.fresh _ (show Row w none 0 0 0 e sz [] from ⟨⟨by simp, .inl ⟨rfl, rfl⟩⟩, fun h => by omega, fun a ha => by cases ha⟩) (fun k hk => hk.2 rfl)
end
theorem fR {dfs : List Deferred} {K : Act → World → Prop} {n : Nat} {w0 : World} {L : List (Tmp × Value)} {T : List Ent} (i m : Nat) (A : Option Addr) (g c : Nat) (l : List Rect) {e : TypeId} {own : Bool} (hi : T[i]? = some (.gen (rowE A g m c e 4 (rvals l) own))) (hk : (0 < m → A = some ⟨g, 0, none⟩) → l.length = m → m ≤ c → c ≤ 2 ^ 63 - 1 → Cont dfs K n w0 L T) : Cont dfs K n w0 L T :=
  cont_fact (fun w hT => Row.factsR (show Row w A g m c e 4 (rvals l) from hT.ok i _ hi)) (fun h => hk h.1 h.2.1 h.2.2.1 h.2.2.2)
end Go.Proofs.Ytlfahohbkgdabaa
namespace Go.Proofs.Ytlfahohbkgdabaa
open Go Go.RowKit Go.Sort
theorem heap_putRow {enc : Int → Value} {w : World} {g : Nat} {ys : Array Int} {k : Nat} (h : k ≠ g) : (putRow enc w g 0 ys).heap[k]? = w.heap[k]? := by
  simp only [putRow, mapBlock, Array.getElem?_modify, if_neg (Ne.symm h)]
theorem heap_putRow_same {enc : Int → Value} {w : World} {g : Nat} {ys : Array Int} {cur : Array Value} {e : TypeId} {fr : Nat × Nat} (h : w.heap[g]? = some (.cells cur e fr)) : (putRow enc w g 0 ys).heap[g]? = some (.cells (putCells enc 0 ys cur) e fr) := by
  simp only [putRow, mapBlock, Array.getElem?_modify, if_true, h, Option.map_some, onCells]
theorem Tab.putRow {w0 w : World} {T : List Ent} (hT : Tab w0 w T) {i g n cap e q : Nat} {xs ys : List Int} {own : Bool} (os : Array Obj) (h : T[i]? = some (.gen (rowE (some ⟨g, 0, none⟩) g n cap e 1 (ivals .i64 xs) own))) (hy : ys.length = n) :
    Tab w0 (grow (Go.Sort.putRow (Value.int .i64) (Sort.ahead w q) g 0 ys.toArray) os) (T.set i (.gen (rowE (some ⟨g, 0, none⟩) g n cap e 1 (ivals .i64 ys) own))) := by
  have hrow : Row w (some ⟨g, 0, none⟩) g n cap e 1 (ivals .i64 xs) := hT.ok i _ h
  rcases hrow.own.2 with ⟨h1, _⟩ | ⟨g', cap', cur, hv, _, hh, hle, hcm, hcs, htk⟩
  · cases h1
  cases hv
  have hlt : g < w.heap.size := (Array.getElem?_eq_some_iff.1 hh).1
  refine hT.replace (e := .gen (rowE (some ⟨g, 0, none⟩) g n cap e 1 (ivals .i64 xs) own)) (e' := .gen (rowE (some ⟨g, 0, none⟩) g n cap e 1 (ivals .i64 ys) own)) h rfl rfl id (fun k hk => .inl hk) (fun k _ hk _ => hk) rfl rfl rfl (by simp) (fun k hk hne => ?_) ?_
  · rw [heap_grow_old _ _ (by simpa using hk), heap_putRow (fun hk' => hne ⟨hk', by simp⟩)]; rfl
  · refine ⟨⟨by rw [ivals_length]; omega, .inr ⟨g, cap, _, rfl, Nat.zero_le _, (heap_grow_old _ _ (by simpa using hlt)).trans (heap_putRow_same (w := Sort.ahead w q) hh), hle, hcm, by simpa [putCells] using hcs, ?_⟩⟩, fun _ => rfl, fun a ha => by cases ha; rfl⟩
    apply List.ext_getElem?
    intro j
    rw [List.getElem?_take]
    by_cases hj : j < n * 1
    · have hjn : j < n := by omega
      have hjc : j < cur.size := by omega
      rw [if_pos hj]
      simp only [putCells, Array.getElem?_toList, Array.getElem?_mapIdx, Array.getElem?_eq_getElem hjc, Option.map_some]
      rw [if_pos (by simp; omega), Nat.sub_zero, arr_get]
      exact (ivals_get (by omega)).symm
    · rw [if_neg hj]
      exact (List.getElem?_eq_none (by rw [ivals_length]; omega)).symm
theorem Row.holds {w : World} {g n cap : Nat} {e : TypeId} {xs : List Int} (h : Row w (some ⟨g, 0, none⟩) g n cap e 1 (ivals .i64 xs)) : Holds (Value.int .i64) w g 0 xs.toArray := by
  intro j hj
  have hjl : j < xs.length := by simpa using hj
  have hn : 0 < n := by have := h.facts; omega
  rw [Nat.zero_add, arr_get]
  exact ⟨h.cell j _ (ivals_get hjl), h.free hn j⟩
theorem sortRow (A : Option Addr) (g n cap : Nat) (xs : List Int) (w : World) (hT : Tab w w [.gen (rowE A g n cap 3 1 (ivals .i64 xs) false)]) (hbig : n ≤ 1000000000) :
    Calls Try.prog 116 #[.slice A n cap] w fun e w' => e = .returned (.tuple #[]) ∧ Tab w w' [.gen (rowE A g n cap 3 1 (ivals .i64 (sortL xs)) false)] := by
  have hrow : Row w A g n cap 3 1 (ivals .i64 xs) := hT.ok 0 _ rfl
  obtain ⟨f1, f2, f3, f4⟩ := hrow.facts
  by_cases hn : n = 0
  · subst hn
    refine (Try.slices_Sort_int_none A cap w).mono ?_
    rintro e w' ⟨he, rfl⟩
    have : xs = [] := List.length_eq_zero_iff.1 f2
    subst this
    rw [show sortL [] = [] by simp [sortL]]
    exact ⟨he, hT⟩
  · have hA := f1 (by omega)
    subst hA
    have hb : g < w.heap.size := (rowE (some ⟨g, 0, none⟩) g n cap 3 1 (ivals .i64 xs) false).inb w g hrow ⟨rfl, by simp⟩
    have hs := Try.slices_Sort_int g 0 cap xs w hrow.holds hb (by omega)
    rw [f2] at hs
    refine hs.mono ?_
    rintro e w' ⟨he, q, os, rfl⟩
    refine ⟨he, ?_⟩
    have := hT.putRow (i := 0) (q := q) (ys := sortL xs) os rfl (by rw [sortL_length]; exact f2)
    exact this
theorem compactRow (A : Option Addr) (g n cap : Nat) (xs : List Int) (w : World) (hT : Tab w w [.gen (rowE A g n cap 3 1 (ivals .i64 xs) false)]) :
    Calls Try.prog 117 #[.slice A n cap] w fun e w' => e = .returned (.slice A (Lib.compact xs).length cap) ∧ Tab w w' [.gen (rowE A g (Lib.compact xs).length cap 3 1 (ivals .i64 (Lib.compact xs)) false)] := by
  have hrow : Row w A g n cap 3 1 (ivals .i64 xs) := hT.ok 0 _ rfl
  obtain ⟨f1, f2, f3, f4⟩ := hrow.facts
  have hcl := compact_length xs
  by_cases hn : n = 0
  · subst hn
    refine (Try.slices_Compact_int_empty A cap w).mono ?_
    rintro e w' ⟨he, rfl⟩
    have : xs = [] := List.length_eq_zero_iff.1 f2
    subst this
    exact ⟨he, hT⟩
  · have hA := f1 (by omega)
    subst hA
    have hb : g < w.heap.size := (rowE (some ⟨g, 0, none⟩) g n cap 3 1 (ivals .i64 xs) false).inb w g hrow ⟨rfl, by simp⟩
    have hs := Try.slices_Compact_int g 0 cap xs w hrow.holds (by unfold maxLen at f4; omega) (by omega)
    rw [f2] at hs
    refine hs.mono ?_
    rintro e w' ⟨he, q, rfl⟩
    refine ⟨he, ?_⟩
    have h1 := hT.putRow (i := 0) (q := q) (ys := Lib.compact xs ++ List.replicate (n - (Lib.compact xs).length) 0) #[] rfl (by rw [List.length_append, List.length_replicate]; omega)
    rw [grow_empty] at h1
    have h2 := h1.shrink (i := 0) rfl (k := (Lib.compact xs).length) (by omega) (vals' := ivals .i64 (Lib.compact xs)) (by rw [ivals_take, List.take_left'] ; rfl)
    exact h2
end Go.Proofs.Ytlfahohbkgdabaa
namespace Go.Proofs.Ytlfahohbkgdabaa
open Go Go.RowKit
variable {dfs : List Deferred}
def Enters (P : Program) (f : FuncId) : Prop := ∀ args, semPure P (callFunc f args) = some (.enter f args)
theorem call_pureF {P : Program} {Q : Exit → Act → World → Prop} {n : Nat} {w0 : World} {L : List (Nat × Value)} {T : List Ent} {ops : Array Oper} {i : Nat} {K : Act → World → Prop} {d : Tmp} {f : FuncId} {args : Array Value} (v : Value) (H : opS ops n i L = some (some d, callFunc f args)) (hE : Enters P f)
    (hc : ∀ w, Tab w0 w T → Calls P f args w fun e w' => e = .returned v ∧ Below w.heap.size w w') (hk : Cont dfs K n w0 ((d, v) :: L) T) : Cont dfs (wpOp P ops Q i K) n w0 L T := by
  intro a w ha hf hT
  obtain ⟨o, ho, hdst, hd, hw, he⟩ := opS_core H hf
  unfold wpOp
  simp only [ho, hw, if_true]
  refine .inl ?_
  unfold Oper.wp
  rw [he, semPure_sound P _ _ (hE args) w]
  refine (hc w hT).mono ?_
  rintro e w' ⟨rfl, hb⟩
  show K (a.put o.dst v) w'
  rw [hdst]
  exact hk _ _ (by rw [put_defers]; exact ha) (frok_putD hf hd) (hT.below hb)
theorem run_eqNil {P : Program} {t e : TypeId} {x y : Operand} {A : Option Addr} {n c : Nat} (ht : P.underlying t = some (.slice e)) (w : World) : (bopS .eql t x y (.slice A n c) (.slice none 0 0)).run P w = .ok (.bool A.isNone) w := by
  have h := Lib.run_eql_slice_nil (P := P) w t e A n c 0 0 ht
  unfold bopS
  rw [Sem.run_bind]
  have g : (eqGuard .eql t x y (.slice A n c) (.slice none 0 0)).run P w = .ok () w := by
    simp [eqGuard]
  rw [g]
  exact h
theorem take_succ_rget {l : List Rect} {i : Nat} (h : i < l.length) : l.take (i + 1) = l.take i ++ [rget l i] := by
  rw [List.take_add_one, List.getElem?_eq_getElem h]
  simp [rget, List.getD_eq_getElem?_getD, List.getElem?_eq_getElem h]
theorem rget_mem {l : List Rect} {i : Nat} (h : i < l.length) : rget l i ∈ l := by
  unfold rget
  rw [List.getD_eq_getElem?_getD, List.getElem?_eq_getElem h]; simp
theorem acrossB_true {y : Int} {r : Rect} (h : r.y0 ≤ y ∧ y < r.y1 ∧ r.x0 < r.x1) : acrossB y r = true := by
  simp only [acrossB, Bool.and_eq_true, decide_eq_true_eq]; omega
theorem acrossB_false {y : Int} {r : Rect} (h : ¬ (r.y0 ≤ y ∧ y < r.y1 ∧ r.x0 < r.x1)) : acrossB y r = false := by
  cases e : acrossB y r with
  | false => rfl
  | true => simp only [acrossB, Bool.and_eq_true, decide_eq_true_eq] at e; omega
theorem across_put {l : List Rect} {i : Nat} {y : Int} (h : i < l.length) (hb : (rget l i).y0 ≤ y ∧ y < (rget l i).y1 ∧ (rget l i).x0 < (rget l i).x1) : acrossL (l.take i) y ++ [rget l i] = acrossL (l.take (i + 1)) y := by
  rw [take_succ_rget h, acrossL, acrossL, List.filter_append, List.filter_cons, acrossB_true hb]; rfl
theorem across_skip {l : List Rect} {i : Nat} {y : Int} (h : i < l.length) (hb : ¬ ((rget l i).y0 ≤ y ∧ y < (rget l i).y1 ∧ (rget l i).x0 < (rget l i).x1)) : acrossL (l.take i) y = acrossL (l.take (i + 1)) y := by
  rw [take_succ_rget h, acrossL, acrossL, List.filter_append, List.filter_cons, acrossB_false hb]; simp
def evG (p q : Rect → Int) (l : List Rect) : List Int := l.flatMap fun r => [p r, q r]
theorem evG_put {p q : Rect → Int} {l : List Rect} {i : Nat} (base : List Int) (h : i < l.length) : (base ++ evG p q (l.take i)) ++ [p (rget l i), q (rget l i)] = base ++ evG p q (l.take (i + 1)) := by
  rw [take_succ_rget h]; simp [evG, List.append_assoc]
theorem evG_zero {p q : Rect → Int} {l : List Rect} (base : List Int) : base = base ++ evG p q (l.take 0) := by simp [evG]
theorem ownL_skip {f : Int → Bool} {y y' : Int} {xs : List Int} {i : Nat} (h : f (xs.getD i 0) = false) : ownL f y y' xs i = ownL f y y' xs (i + 1) := by
  rw [ownL, h]; rfl
theorem ownL_put {f : Int → Bool} {y y' : Int} {xs : List Int} {i J : Nat} (h : f (xs.getD i 0) = true) (hJ : J + 1 = (ownL f y y' xs i).length) (he : (rget (ownL f y y' xs i) J).x1 = xs.getD i 0) :
    (ownL f y y' xs i).set J { rget (ownL f y y' xs i) J with x1 := xs.getD (i + 1) 0 } = ownL f y y' xs (i + 1) := by
  rw [ownL, h, if_pos rfl, putX, show (ownL f y y' xs i).length - 1 = J by omega, if_pos ⟨by omega, he⟩]
theorem ownL_new {f : Int → Bool} {y y' : Int} {xs : List Int} {i : Nat} (h : f (xs.getD i 0) = true) (hn : ∀ J, J + 1 = (ownL f y y' xs i).length → (rget (ownL f y y' xs i) J).x1 ≠ xs.getD i 0) :
    ownL f y y' xs i ++ [⟨xs.getD i 0, y, xs.getD (i + 1) 0, y'⟩] = ownL f y y' xs (i + 1) := by
  rw [ownL, h, if_pos rfl, putX, if_neg (fun hc => hn _ (by omega) hc.2)]
def mgG (al : List Rect → List Rect → Int → Bool) (own : Int → Int → List Rect) (ys : List Int) (i : Nat) : List Rect × List Rect := mgSt al (fun i => own (ys.getD i 0) (ys.getD (i + 1) 0)) ys i
theorem mgG_on {al : List Rect → List Rect → Int → Bool} {own : Int → Int → List Rect} {ys : List Int} {i : Nat} (h : al (mgG al own ys i).2 (own (ys.getD i 0) (ys.getD (i + 1) 0)) (ys.getD i 0) = true) :
    (mgG al own ys i).1 = (mgG al own ys (i + 1)).1 ∧ setY1 (ys.getD (i + 1) 0) (mgG al own ys i).2 = (mgG al own ys (i + 1)).2 := by
  have e : mgG al own ys (i + 1) = ((mgG al own ys i).1, setY1 (ys.getD (i + 1) 0) (mgG al own ys i).2) := by
    conv => lhs; unfold mgG; rw [mgSt]
    exact if_pos h
  rw [e]; exact ⟨rfl, rfl⟩
theorem mgG_off {al : List Rect → List Rect → Int → Bool} {own : Int → Int → List Rect} {ys : List Int} {i : Nat} (h : al (mgG al own ys i).2 (own (ys.getD i 0) (ys.getD (i + 1) 0)) (ys.getD i 0) = false) :
    (mgG al own ys i).1 ++ (mgG al own ys i).2 = (mgG al own ys (i + 1)).1 ∧ own (ys.getD i 0) (ys.getD (i + 1) 0) = (mgG al own ys (i + 1)).2 := by
  have e : mgG al own ys (i + 1) = ((mgG al own ys i).1 ++ (mgG al own ys i).2, own (ys.getD i 0) (ys.getD (i + 1) 0)) := by
    conv => lhs; unfold mgG; rw [mgSt]
    exact if_neg (by rw [show (mgSt al (fun i => own (ys.getD i 0) (ys.getD (i + 1) 0)) ys i).2 = (mgG al own ys i).2 from rfl, h]; simp)
  rw [e]; exact ⟨rfl, rfl⟩
theorem mgG_bound {al : List Rect → List Rect → Int → Bool} {own : Int → Int → List Rect} {ys : List Int} {m i : Nat} (h : ∀ a b, (own a b).length ≤ m) (hm : m ≤ 524288) (hi : i ≤ 524288) : (mgG al own ys i).1.length + (mgG al own ys i).2.length ≤ 274877906944 ∧ (mgG al own ys i).2.length ≤ m := by
  have := mgSt_length (al := al) (own := fun i => own (ys.getD i 0) (ys.getD (i + 1) 0)) (ys := ys) (m := m) (fun i => h _ _) i
  have h2 : i * m ≤ 524288 * 524288 := Nat.mul_le_mul hi hm
  unfold mgG; omega
theorem setY1_step {l : List Rect} {v : Int} {j : Nat} (h : j < l.length) : (setY1 v (l.take j) ++ l.drop j).set j { rget (setY1 v (l.take j) ++ l.drop j) j with y1 := v } = setY1 v (l.take (j + 1)) ++ l.drop (j + 1) := by
  have hl : (setY1 v (l.take j)).length = j := by simp [setY1]; omega
  have hd : l.drop j = rget l j :: l.drop (j + 1) := by
    rw [List.drop_eq_getElem_cons h]
    simp [rget, List.getD_eq_getElem?_getD, List.getElem?_eq_getElem h]
  have hg : rget (setY1 v (l.take j) ++ l.drop j) j = rget l j := by
    unfold rget
    rw [List.getD_eq_getElem?_getD, List.getElem?_append_right (by omega), hl, Nat.sub_self, hd, List.getD_eq_getElem?_getD]
    simp [rget, List.getD_eq_getElem?_getD]
  rw [hg, List.set_append_right _ _ (by omega), hl, Nat.sub_self, hd, take_succ_rget h]
  simp [setY1]
theorem setY1_zero {l : List Rect} {v : Int} : l = setY1 v (l.take 0) ++ l.drop 0 := by simp [setY1]
theorem setY1_done {l : List Rect} {v : Int} {j : Nat} (h : l.length ≤ j) : setY1 v (l.take j) ++ l.drop j = setY1 v l := by rw [List.take_of_length_le h, List.drop_of_length_le h, List.append_nil]
theorem eqF_len {f : Rect → Rect → Bool} : ∀ {a b : List Rect}, a.length ≠ b.length → eqF f a b = false := by
  intro a
  induction a with
  | nil => intro b h; cases b with
    | nil => exact absurd rfl h
    | cons _ _ => rfl
  | cons x a ih => intro b h; cases b with
    | nil => rfl
    | cons y b => rw [eqF, ih (by simpa using h), Bool.and_false]
theorem eqF_all {f : Rect → Rect → Bool} : ∀ {a b : List Rect}, a.length = b.length → (∀ j, j < a.length → f (rget a j) (rget b j) = true) → eqF f a b = true := by
  intro a
  induction a with
  | nil => intro b h _; cases b with
    | nil => rfl
    | cons _ _ => simp at h
  | cons x a ih => intro b h hj; cases b with
    | nil => simp at h
    | cons y b =>
      rw [eqF, ih (by simpa using h) (fun j hj' => by have := hj (j + 1) (by simpa using hj'); rwa [rget_succ, rget_succ] at this)]
      have := hj 0 (by simp)
      rw [rget_zero, rget_zero] at this
      rw [this]; rfl
theorem eqF_no {f : Rect → Rect → Bool} : ∀ {a b : List Rect} {j : Nat}, j < a.length → j < b.length → f (rget a j) (rget b j) = false → eqF f a b = false := by
  intro a
  induction a with
  | nil => intro b j h; simp at h
  | cons x a ih => intro b j h hb hf; cases b with
    | nil => simp at hb
    | cons y b =>
      cases j with
      | zero => rw [rget_zero, rget_zero] at hf; rw [eqF, hf]; rfl
      | succ j =>
        rw [rget_succ, rget_succ] at hf
        rw [eqF, ih (by simpa using h) (by simpa using hb) hf, Bool.and_false]
def idxR (p : Rect → Bool) (l : List Rect) : Int := if l.any p then (l.findIdx p : Nat) else -1
theorem rget_eq {l : List Rect} {i : Nat} (h : i < l.length) : l[i] = rget l i := by
  simp [rget, List.getD_eq_getElem?_getD, List.getElem?_eq_getElem h]
theorem idxR_none {p : Rect → Bool} {l : List Rect} (h : ∀ j, j < l.length → p (rget l j) = false) : idxR p l = -1 := by
  unfold idxR
  rw [if_neg]
  rw [List.any_eq_true]
  rintro ⟨x, hx, hp⟩
  obtain ⟨i, hi, e⟩ := List.mem_iff_getElem.1 hx
  have := h i hi
  rw [← rget_eq hi, e, hp] at this
  cases this
theorem idxR_some {p : Rect → Bool} {l : List Rect} {i : Nat} (hi : i < l.length) (h : ∀ j, j < i → p (rget l j) = false) (hp : p (rget l i) = true) : idxR p l = i := by
  unfold idxR
  rw [if_pos (List.any_eq_true.2 ⟨rget l i, rget_mem hi, hp⟩)]
  congr 1
  rw [List.findIdx_eq hi]
  exact ⟨by rw [rget_eq hi]; exact hp, fun j hj => by rw [rget_eq (by omega), h j hj]⟩
theorem idxR_ge (p : Rect → Bool) (l : List Rect) : decide (idxR p l ≥ 0) = l.any p := by
  unfold idxR
  cases h : l.any p with
  | true => simp only [if_true]; exact decide_eq_true (by omega)
  | false => simp only [Bool.false_eq_true, if_false]; rfl
def keptL (p : Rect → Bool) (l : List Rect) : List Rect := l.filter fun r => !p r
theorem keptL_length (p : Rect → Bool) (l : List Rect) : (keptL p l).length ≤ l.length := List.length_filter_le _ _
theorem keptL_none {p : Rect → Bool} {l : List Rect} (h : idxR p l = -1) : l = keptL p l := by
  unfold keptL
  symm
  rw [List.filter_eq_self]
  intro r hr
  unfold idxR at h
  cases ha : l.any p with
  | true => rw [ha, if_pos rfl] at h; omega
  | false => rw [List.any_eq_false] at ha; simpa using ha r hr
theorem keptL_start {p : Rect → Bool} {l : List Rect} {i : Nat} (h : idxR p l = i) : i < l.length ∧ l = keptL p (l.take (i + 1)) ++ l.drop (keptL p (l.take (i + 1))).length ∧ (keptL p (l.take (i + 1))).length = i := by
  unfold idxR at h
  cases ha : l.any p with
  | false => rw [ha] at h; simp at h
  | true =>
    rw [ha, if_pos rfl] at h
    have hi : l.findIdx p = i := by omega
    have hlt : i < l.length := by
      rw [← hi]
      exact List.findIdx_lt_length_of_exists (by rw [List.any_eq_true] at ha; exact ha)
    obtain ⟨h1, h2⟩ := (List.findIdx_eq hlt).1 hi
    have hk : keptL p (l.take (i + 1)) = l.take i := by
      rw [take_succ_rget hlt, keptL, List.filter_append, List.filter_cons]
      rw [← rget_eq hlt, h1]
      simp only [Bool.not_true, Bool.false_eq_true, if_false, List.filter_nil, List.append_nil]
      rw [List.filter_eq_self]
      intro r hr
      obtain ⟨j, hj, e⟩ := List.mem_iff_getElem.1 hr
      have hj2 : j < i := by rw [List.length_take] at hj; omega
      rw [List.getElem_take] at e
      rw [← e, h2 j hj2]; rfl
    refine ⟨hlt, ?_, ?_⟩
    · rw [hk, List.length_take, Nat.min_eq_left (by omega), List.take_append_drop]
    · rw [hk, List.length_take]; omega
theorem kept_get {K l : List Rect} {j : Nat} (h : K.length ≤ j) : rget (K ++ l.drop K.length) j = rget l j := by
  unfold rget
  rw [List.getD_eq_getElem?_getD, List.getElem?_append_right h, List.getElem?_drop, show K.length + (j - K.length) = j by omega, ← List.getD_eq_getElem?_getD]
theorem kept_set {K l : List Rect} {i : Nat} (v : Rect) (hi : K.length = i) (h : i < l.length) : (K ++ l.drop K.length).set i v = (K ++ [v]) ++ l.drop (K ++ [v]).length := by
  subst hi
  rw [List.set_append_right _ _ (Nat.le_refl _), Nat.sub_self, List.drop_eq_getElem_cons h]
  show K ++ (v :: l.drop (K.length + 1)) = _
  rw [List.length_append, List.append_assoc]; rfl
theorem keptL_put {p : Rect → Bool} {l : List Rect} {j : Nat} (h : j < l.length) (hp : p (rget l j) = false) : keptL p (l.take j) ++ [rget l j] = keptL p (l.take (j + 1)) := by
  rw [take_succ_rget h, keptL, keptL, List.filter_append, List.filter_cons, hp]; rfl
theorem keptL_skip {p : Rect → Bool} {l : List Rect} {j : Nat} (h : j < l.length) (hp : p (rget l j) = true) : keptL p (l.take j) = keptL p (l.take (j + 1)) := by
  rw [take_succ_rget h, keptL, keptL, List.filter_append, List.filter_cons, hp]; simp
theorem take_clear {K D R X : List Rect} {i : Nat} (h : K.length = i) : ((K ++ D).take i ++ R ++ X).take i = K := by
  rw [List.take_left' h, List.append_assoc, List.take_left' h]
def orB (a b : Bool) : Bool := a || b
def andB (a b : Bool) : Bool := a && b
def lessB (a b : Bool) : Bool := a && !b
def fstB (a _b : Bool) : Bool := a
def canR (l : List Rect) : List Rect := regM orB l []
theorem hasL_nil (x y : Int) : hasL [] x y = false := rfl
theorem canR_isReg (l : List Rect) : IsReg (canR l) (hasL l) := (regM_isReg (kf := orB) rfl l []).congr (fun x y => by simp [keepF, orB, hasL_nil])
theorem hasL_kept (l : List Rect) (x y : Int) : hasL (keptL emptyR l) x y = hasL l x y := by
  rw [Bool.eq_iff_iff, hasL_true, hasL_true]
  constructor
  · rintro ⟨r, hm, h⟩; exact ⟨r, (List.mem_filter.1 hm).1, h⟩
  · rintro ⟨r, hm, h⟩
    refine ⟨r, List.mem_filter.2 ⟨hm, ?_⟩, h⟩
    rw [show emptyR r = false from emptyB_false.2 ⟨by omega, by omega⟩]; rfl
theorem of_eq (l : List Rect) : regM fstB (keptL emptyR l) [] = canR l :=
  ((regM_isReg (kf := fstB) rfl _ _).congr (fun x y => by simp only [keepF, fstB]; exact hasL_kept l x y)).unique (canR_isReg l)
theorem regM_length {kf : Bool → Bool → Bool} {a b : List Rect} (h : a.length + b.length ≤ 262144) : (regM kf a b).length ≤ 274877906944 := by
  have := ysP_length a b
  have h2 := mgSt_length (al := fun a b _ => alikeL a b) (own := fun i => bandP kf a b ((ysP a b).getD i 0) ((ysP a b).getD (i + 1) 0)) (ys := ysP a b) (m := 2 * (a.length + b.length)) (fun i => bandP_length kf a b _ _) ((ysP a b).length - 1)
  have h3 : ((ysP a b).length - 1) * (2 * (a.length + b.length)) ≤ 524288 * 524288 := Nat.mul_le_mul (by omega) (by omega)
  unfold regM mgL
  rw [List.length_append]
  omega
end Go.Proofs.Ytlfahohbkgdabaa
namespace Go.Proofs.Ytlfahohbkgdabaa
open Go Go.RowKit
set_option maxRecDepth 100000
set_option maxHeartbeats 8000000
theorem sideY (a b c d : Int) (w : World) :
    Calls Try.prog 106 #[.agg #[iQ a, iQ b, iQ c, iQ d]] w fun e w' => e = .returned (.tuple #[iQ b, iQ d]) ∧ Below w.heap.size w w' := by
 refine eN [(0, .agg #[iq a, iq b, iq c, iq d])] Try.func106 Try.ntmps106 rfl (Tab.start w) ?_
 refine zSR 3 <| bW [0, 0, 0] 3 0 (fun b1 => [(1, .pointer (pB b1))]) (fun b1 => [.cells b1 [iq a, iq b, iq c, iq d] 53 true]) [1] fun b1 => ?_
 refine zDNS <| drawn_enter 6 [] rfl (by kernel_rfl) ?_
 refine tD 0 [] [(0, 0), (2, 0), (1, 0), (3, 0), (4, 0), (5, 0)] 0 [5, 4, 3, 1, 2, 0] [(2, iq b), (3, iq d)] [4, 5, 6, 7] <| dD <| zN <| cont_ret ?_
 refine rB rfl 0 0 (iq b) (iq d) fun w hT => ?_
 exact ⟨rfl, hT.post rfl⟩
theorem sideX (a b c d : Int) (w : World) :
    Calls Try.prog 119 #[.agg #[iQ a, iQ b, iQ c, iQ d]] w fun e w' => e = .returned (.tuple #[iQ a, iQ c]) ∧ Below w.heap.size w w' := by
 refine eN [(0, .agg #[iq a, iq b, iq c, iq d])] Try.func119 Try.ntmps119 rfl (Tab.start w) ?_
 refine zSR 3 <| bW [0, 0, 0] 3 0 (fun b1 => [(1, .pointer (pB b1))]) (fun b1 => [.cells b1 [iq a, iq b, iq c, iq d] 53 true]) [1] fun b1 => ?_
 refine zDNS <| drawn_enter 6 [] rfl (by kernel_rfl) ?_
 refine tD 0 [] [(0, 0), (2, 0), (1, 0), (3, 0), (4, 0), (5, 0)] 0 [5, 4, 3, 1, 2, 0] [(2, iq a), (3, iq c)] [4, 5, 6, 7] <| dD <| zN <| cont_ret ?_
 refine rB rfl 0 0 (iq a) (iq c) fun w hT => ?_
 exact ⟨rfl, hT.post rfl⟩
theorem regEdges (fk : FuncId) (p q : Rect → Int) (bl : Nat) (A : Option Addr) (g o n cap : Nat) (xs : List Rect) (A' : Option Addr) (g' o' n' cap' : Nat) (xs' : List Rect) (w : World) (hT0 : Tab w w [.ro bl [.slice A n cap, .slice A' n' cap'] 58, rD (A) g o n 4 (rvals xs), rD (A') g' o' n' 4 (rvals xs')]) (hE : Enters Try.prog fk) (hf : ∀ (r : Rect) (w : World), Calls Try.prog fk #[.agg #[iQ r.x0, iQ r.y0, iQ r.x1, iQ r.y1]] w fun e w' => e = .returned (.tuple #[iQ (p r), iQ (q r)]) ∧ Below w.heap.size w w') (hn : n + n' ≤ 262144) :
    Calls Try.prog 105 #[.func (.func fk) #[] #[], sL bl 2 2] w fun e w' => ∃ (A_ : Option Addr) (g_ k_ cp_ : Nat), e = .returned (.slice A_ k_ cp_) ∧ Tab w w' [.gen (rowE (A_) g_ k_ cp_ 3 1 (iV (gridL (evG p q xs ++ evG p q xs'))) true)] := by
 obtain ⟨hra, hrl⟩ := Rd.factsR (hT0.ok 1 _ rfl)
 obtain ⟨hra', hrl'⟩ := Rd.factsR (hT0.ok 2 _ rfl)
 refine eN [(0, .func (.func fk) #[] #[]), (1, .slice (pB bl) 2 2)] Try.func105 Try.ntmps105 rfl hT0 ?_
 refine zSR 1 <| bD [0] 1 0 [] [4] <| zDNSR 1 <| bD [0] 1 0 [(5, .slice none 0 0)] [] <| zDNSSR 3 <| bD [0, 0, 0] 3 0 [(12, .slice (pB bl) 2 2), (13, iq 2), (14, iq 0)] [] <| zDNB <| cont_rounds 3 ?_
 refine cont_round 3 2 rfl ?_
 refine zSR 1 <| bD [0] 1 0 [(15, .bool true)] [] <| zDNSTKNSBSR 3 <| bD [0, 0, 0] 3 0 [(7, .slice A n cap)] [16, 17] <| zDNSR 3 <| bD [0, 0, 0] 3 0 [(18, .slice A n cap), (19, iq (n : Int)), (20, iq 0)] [] <| zDNB <| cont_nilrow 3 1 ?_
 refine cont_rowEq (k := .i64) 0 ([]) ([] ++ evG p q (xs.take 0)) rfl (evG_zero _) ?_
 refine cL (α := Nat × Nat × Option Addr × Nat × Nat) (fun x_ : Nat × Nat × Option Addr × Nat × Nat => x_.1 ≤ n ∧ x_.2.1 = 0 + 2 * x_.1) (fun x_ : Nat × Nat × Option Addr × Nat × Nat => [(0, .func (.func fk) #[] #[]), (5, .slice x_.2.2.1 x_.2.1 x_.2.2.2.2), (12, .slice (pB bl) 2 2), (13, iq 2), (14, iq 0), (18, .slice A n cap), (19, iq (n : Int)), (20, iq (x_.1 : Int))]) (fun x_ : Nat × Nat × Option Addr × Nat × Nat => [.gen (rowE (x_.2.2.1) x_.2.2.2.1 x_.2.1 x_.2.2.2.2 3 1 (iV ([] ++ evG p q (xs.take x_.1))) true), .ro bl [.slice A n cap, .slice A' n' cap'] 58, rD (A) g o n 4 (rvals xs), rD (A') g' o' n' 4 (rvals xs')]) (fun x_ : Nat × Nat × Option Addr × Nat × Nat => n - x_.1) (0, 0, none, 0, 0) (show (0) ≤ n ∧ (0) = 0 + 2 * (0) from ⟨by omega, by omega⟩) ?_
 rintro ⟨i, k, Aq, gq, cq⟩ hinv2_
 replace hinv2_ : i ≤ n ∧ k = 0 + 2 * i := hinv2_
 obtain ⟨hi, hk⟩ := hinv2_
 refine zSR 1 <| bD [0] 1 0 [(21, .bool (decide ((i : Int) < (n : Int))))] [] <| zDNS <| sD 21 rfl (fun c3_ => ?_) fun c3_ => ?_
 ·
  refine zTKNSBSR 4 <| pS 1 3 <| rC 18 (.slice (some ⟨g, o, none⟩) n cap) rfl (by rw [hra (by omega)]) <| sS 22 (Instr.indexAt 58 (.slice (some ⟨g, o, none⟩) n cap) (iq (i : Int))) (.pointer (some ⟨g, o + i * 4, none⟩)) (fun w hT => rI 53 4 w) <| pS 2 2 <| sS 23 (Instr.loadAt 53 (.pointer (some ⟨g, o + i * 4, none⟩))) (.agg #[iq ((rget xs i).x0), iq ((rget xs i).y0), iq ((rget xs i).x1), iq ((rget xs i).y1)]) (fun w hT => rM 4 (rcells (rget xs i)) (Rd.rect (hT.ok 2 _ rfl) (by omega))) <| bW [0, 0] 4 0 (fun b4 => [(0, .func (.func fk) #[] #[]), (5, .slice Aq k cq), (9, .pointer (pB b4)), (12, .slice (pB bl) 2 2), (13, iq 2), (14, iq 0), (18, .slice (some ⟨g, o, none⟩) n cap), (19, iq (n : Int)), (20, iq (i : Int))]) (fun b4 => [.cells b4 [iq ((rget xs i).x0), iq ((rget xs i).y0), iq ((rget xs i).x1), iq ((rget xs i).y1)] 53 true, .gen (rowE (Aq) gq k cq 3 1 (iV ([] ++ evG p q (xs.take i))) true), .ro bl [.slice A n cap, .slice A' n' cap'] 58, rD (A) g o n 4 (rvals xs), rD (A') g' o' n' 4 (rvals xs')]) [0, 5, 9, 12, 13, 14, 18, 19, 20] fun b4 => ?_
  refine zDNSR 8 <| bD [0, 0] 2 6 [(25, .func (.func fk) #[] #[]), (26, .agg #[iq ((rget xs i).x0), iq ((rget xs i).y0), iq ((rget xs i).x1), iq ((rget xs i).y1)])] [] <| fG 0 <| pS 3 5 <| call_pureF (d := 27) (.tuple #[iq (p (rget xs i)), iq (q (rget xs i))]) (by kernel_rfl) hE (fun w hT => hf (rget xs i) w) ?_
  refine bD [0, 0, 0, 0, 0] 8 0 [(10, iq (p (rget xs i))), (11, iq (q (rget xs i)))] [24, 28, 29] <| zDNR 6 <| bW [0, 0, 0, 0] 4 2 (fun b5 => [(0, .func (.func fk) #[] #[]), (12, .slice (pB bl) 2 2), (13, iq 2), (14, iq 0), (18, .slice (some ⟨g, o, none⟩) n cap), (19, iq (n : Int)), (20, iq (i : Int)), (30, .slice Aq k cq), (33, .slice (pB b5) 2 2)]) (fun b5 => [.cells b5 [iq (p (rget xs i)), iq (q (rget xs i))] 3 true, .gen (rowE (Aq) gq k cq 3 1 (iV ([] ++ evG p q (xs.take i))) true), .ro bl [.slice A n cap, .slice A' n' cap'] 58, rD (A) g o n 4 (rvals xs), rD (A') g' o' n' 4 (rvals xs')]) [0, 12, 13, 14, 18, 19, 20, 30, 33] fun b5 => ?_
  refine pS 5 1 <| sSW (α := Option Addr × Nat × Nat) 34 (Builtin.append_ #[34, 34] 34 #[.slice Aq k cq, .slice (pB b5) 2 2]) (fun x_ => .slice x_.1 (k + 2) x_.2.2) (fun x_ => [.cells b5 [iq (p (rget xs i)), iq (q (rget xs i))] 3 true, .gen (rowE (x_.1) x_.2.1 (k + 2) x_.2.2 3 1 (iV (([] ++ evG p q (xs.take i)) ++ [p (rget xs i), q (rget xs i)])) true), .ro bl [.slice A n cap, .slice A' n' cap'] 58, rD (A) g o n 4 (rvals xs), rD (A') g' o' n' 4 (rvals xs')]) (fun _ => True) (by kernel_rfl) (fun w hT => append_own (n' := (k + 2)) (z := iq 0) hT (i := 1) (bytes := 8) rfl (by kernel_rfl) (by kernel_rfl) rfl (by decide) (by decide) (Rd.ofCells (vals := ivals .i64 [p (rget xs i), q (rget xs i)]) (hT.ok 0 _ rfl) rfl rfl) (ivals_one .i64 [p (rget xs i), q (rget xs i)]) (by omega) (ivals_append .i64 ([] ++ evG p q (xs.take i)) [p (rget xs i), q (rget xs i)]) rfl) ?_
  rintro ⟨A6, g6, cp6⟩ -
  refine fI 1 (k + 2) A6 g6 cp6 (([] ++ evG p q (xs.take i)) ++ [p (rget xs i), q (rget xs i)]) rfl fun hr7_a hr7_l hr7_c hr7_m => ?_
  refine bD [0] 6 0 [(5, .slice A6 (k + 2) cp6)] [] <| fG 0 <| zDbNR 2 <| bD [0] 1 1 [(35, iq (IntKind.i64.wrap ((i : Int) + 1)))] [] <| wI 35 ((i : Int) + 1) <| bD [0] 2 0 [(20, iq ((i : Int) + 1))] [] <| zDN <| rC 18 (.slice A n cap) rfl (by rw [hra (by omega)]) <| cont_rowEq (k := .i64) 0 (([] ++ evG p q (xs.take i)) ++ [p (rget xs i), q (rget xs i)]) ([] ++ evG p q (xs.take (i + 1))) rfl (evG_put [] (by omega)) ?_
  refine cA (i + 1, (k + 2), A6, g6, cp6) (show (i + 1) ≤ n ∧ ((k + 2)) = 0 + 2 * (i + 1) from ⟨by omega, by omega⟩)
 refine cFa rfl <| cont_exit <| then_exit <| then_exit <| blk_exit <| blk_normal <| zN <| cRg 2 rfl <| bD [0, 0] 2 0 [(14, iq 1)] [36] <| zDN <| cont_round 2 1 rfl ?_
 refine zSR 1 <| bD [0] 1 0 [(15, .bool true)] [] <| zDNSTKNSBSR 3 <| bD [0, 1, 0] 3 0 [(7, .slice A' n' cap')] [16, 17] <| zDNSR 3 <| bD [0, 0, 0] 3 0 [(18, .slice A' n' cap'), (19, iq ((n' : Nat) : Int)), (20, iq 0)] [] <| zDNB <| cont_rowEq (k := .i64) 0 ([] ++ evG p q (xs.take i)) ([] ++ evG p q (xs.take n)) rfl (by rw [show i = n by omega]) ?_
 refine cont_rowEq (k := .i64) 0 ([] ++ evG p q (xs.take n)) (([] ++ evG p q (xs.take n)) ++ evG p q (xs'.take 0)) rfl (evG_zero _) ?_
 refine cL (α := Nat × Nat × Option Addr × Nat × Nat) (fun x_ : Nat × Nat × Option Addr × Nat × Nat => x_.1 ≤ n' ∧ x_.2.1 = 2 * n + 2 * x_.1) (fun x_ : Nat × Nat × Option Addr × Nat × Nat => [(0, .func (.func fk) #[] #[]), (5, .slice x_.2.2.1 x_.2.1 x_.2.2.2.2), (12, .slice (pB bl) 2 2), (13, iq 2), (14, iq 1), (18, .slice A' n' cap'), (19, iq ((n' : Nat) : Int)), (20, iq (x_.1 : Int))]) (fun x_ : Nat × Nat × Option Addr × Nat × Nat => [.gen (rowE (x_.2.2.1) x_.2.2.2.1 x_.2.1 x_.2.2.2.2 3 1 (iV (([] ++ evG p q (xs.take n)) ++ evG p q (xs'.take x_.1))) true), .ro bl [.slice A n cap, .slice A' n' cap'] 58, rD (A) g o n 4 (rvals xs), rD (A') g' o' n' 4 (rvals xs')]) (fun x_ : Nat × Nat × Option Addr × Nat × Nat => n' - x_.1) (0, k, Aq, gq, cq) (show (0) ≤ n' ∧ (k) = 2 * n + 2 * (0) from ⟨by omega, by omega⟩) ?_
 rintro ⟨i', k', Aq', gq', cq'⟩ hinv8_
 replace hinv8_ : i' ≤ n' ∧ k' = 2 * n + 2 * i' := hinv8_
 obtain ⟨hi', hk'⟩ := hinv8_
 refine zSR 1 <| bD [0] 1 0 [(21, .bool (decide ((i' : Int) < ((n' : Nat) : Int))))] [] <| zDNS <| sD 21 rfl (fun c9_ => ?_) fun c9_ => ?_
 ·
  refine zTKNSBSR 4 <| pS 1 3 <| rC 18 (.slice (some ⟨g', o', none⟩) n' cap') rfl (by rw [hra' (by omega)]) <| sS 22 (Instr.indexAt 58 (.slice (some ⟨g', o', none⟩) n' cap') (iq (i' : Int))) (.pointer (some ⟨g', o' + i' * 4, none⟩)) (fun w hT => rI 53 4 w) <| pS 2 2 <| sS 23 (Instr.loadAt 53 (.pointer (some ⟨g', o' + i' * 4, none⟩))) (.agg #[iq ((rget xs' i').x0), iq ((rget xs' i').y0), iq ((rget xs' i').x1), iq ((rget xs' i').y1)]) (fun w hT => rM 4 (rcells (rget xs' i')) (Rd.rect (hT.ok 3 _ rfl) (by omega))) <| bW [0, 0] 4 0 (fun b10 => [(0, .func (.func fk) #[] #[]), (5, .slice Aq' k' cq'), (9, .pointer (pB b10)), (12, .slice (pB bl) 2 2), (13, iq 2), (14, iq 1), (18, .slice (some ⟨g', o', none⟩) n' cap'), (19, iq ((n' : Nat) : Int)), (20, iq (i' : Int))]) (fun b10 => [.cells b10 [iq ((rget xs' i').x0), iq ((rget xs' i').y0), iq ((rget xs' i').x1), iq ((rget xs' i').y1)] 53 true, .gen (rowE (Aq') gq' k' cq' 3 1 (iV (([] ++ evG p q (xs.take n)) ++ evG p q (xs'.take i'))) true), .ro bl [.slice A n cap, .slice A' n' cap'] 58, rD (A) g o n 4 (rvals xs), rD (A') g' o' n' 4 (rvals xs')]) [0, 5, 9, 12, 13, 14, 18, 19, 20] fun b10 => ?_
  refine zDNSR 8 <| bD [0, 0] 2 6 [(25, .func (.func fk) #[] #[]), (26, .agg #[iq ((rget xs' i').x0), iq ((rget xs' i').y0), iq ((rget xs' i').x1), iq ((rget xs' i').y1)])] [] <| fG 0 <| pS 3 5 <| call_pureF (d := 27) (.tuple #[iq (p (rget xs' i')), iq (q (rget xs' i'))]) (by kernel_rfl) hE (fun w hT => hf (rget xs' i') w) ?_
  refine bD [0, 0, 0, 0, 0] 8 0 [(10, iq (p (rget xs' i'))), (11, iq (q (rget xs' i')))] [24, 28, 29] <| zDNR 6 <| bW [0, 0, 0, 0] 4 2 (fun b11 => [(0, .func (.func fk) #[] #[]), (12, .slice (pB bl) 2 2), (13, iq 2), (14, iq 1), (18, .slice (some ⟨g', o', none⟩) n' cap'), (19, iq ((n' : Nat) : Int)), (20, iq (i' : Int)), (30, .slice Aq' k' cq'), (33, .slice (pB b11) 2 2)]) (fun b11 => [.cells b11 [iq (p (rget xs' i')), iq (q (rget xs' i'))] 3 true, .gen (rowE (Aq') gq' k' cq' 3 1 (iV (([] ++ evG p q (xs.take n)) ++ evG p q (xs'.take i'))) true), .ro bl [.slice A n cap, .slice A' n' cap'] 58, rD (A) g o n 4 (rvals xs), rD (A') g' o' n' 4 (rvals xs')]) [0, 12, 13, 14, 18, 19, 20, 30, 33] fun b11 => ?_
  refine pS 5 1 <| sSW (α := Option Addr × Nat × Nat) 34 (Builtin.append_ #[34, 34] 34 #[.slice Aq' k' cq', .slice (pB b11) 2 2]) (fun x_ => .slice x_.1 (k' + 2) x_.2.2) (fun x_ => [.cells b11 [iq (p (rget xs' i')), iq (q (rget xs' i'))] 3 true, .gen (rowE (x_.1) x_.2.1 (k' + 2) x_.2.2 3 1 (iV ((([] ++ evG p q (xs.take n)) ++ evG p q (xs'.take i')) ++ [p (rget xs' i'), q (rget xs' i')])) true), .ro bl [.slice A n cap, .slice A' n' cap'] 58, rD (A) g o n 4 (rvals xs), rD (A') g' o' n' 4 (rvals xs')]) (fun _ => True) (by kernel_rfl) (fun w hT => append_own (n' := (k' + 2)) (z := iq 0) hT (i := 1) (bytes := 8) rfl (by kernel_rfl) (by kernel_rfl) rfl (by decide) (by decide) (Rd.ofCells (vals := ivals .i64 [p (rget xs' i'), q (rget xs' i')]) (hT.ok 0 _ rfl) rfl rfl) (ivals_one .i64 [p (rget xs' i'), q (rget xs' i')]) (by omega) (ivals_append .i64 (([] ++ evG p q (xs.take n)) ++ evG p q (xs'.take i')) [p (rget xs' i'), q (rget xs' i')]) rfl) ?_
  rintro ⟨A12, g12, cp12⟩ -
  refine fI 1 (k' + 2) A12 g12 cp12 ((([] ++ evG p q (xs.take n)) ++ evG p q (xs'.take i')) ++ [p (rget xs' i'), q (rget xs' i')]) rfl fun hr13_a hr13_l hr13_c hr13_m => ?_
  refine bD [0] 6 0 [(5, .slice A12 (k' + 2) cp12)] [] <| fG 0 <| zDbNR 2 <| bD [0] 1 1 [(35, iq (IntKind.i64.wrap ((i' : Int) + 1)))] [] <| wI 35 ((i' : Int) + 1) <| bD [0] 2 0 [(20, iq ((i' : Int) + 1))] [] <| zDN <| rC 18 (.slice A' n' cap') rfl (by rw [hra' (by omega)]) <| cont_rowEq (k := .i64) 0 ((([] ++ evG p q (xs.take n)) ++ evG p q (xs'.take i')) ++ [p (rget xs' i'), q (rget xs' i')]) (([] ++ evG p q (xs.take n)) ++ evG p q (xs'.take (i' + 1))) rfl (evG_put ([] ++ evG p q (xs.take n)) (by omega)) ?_
  refine cA (i' + 1, (k' + 2), A12, g12, cp12) (show (i' + 1) ≤ n' ∧ ((k' + 2)) = 2 * n + 2 * (i' + 1) from ⟨by omega, by omega⟩)
 refine cFa rfl <| cont_exit <| then_exit <| then_exit <| blk_exit <| blk_normal <| zN <| cRg 2 rfl <| bD [0, 0] 2 0 [(14, iq 2)] [36] <| zDN <| cont_round 1 0 rfl ?_
 refine zSR 1 <| bD [0] 1 0 [(15, .bool false)] [] <| zDNS <| zFXxxeNSR 2 <| cont_rowEq (k := .i64) 0 (([] ++ evG p q (xs.take n)) ++ evG p q (xs'.take i')) (evG p q xs ++ evG p q xs') rfl (by rw [show i' = n' by omega, List.take_of_length_le (show xs.length ≤ n by omega), List.take_of_length_le (show xs'.length ≤ n' by omega)]; rfl) ?_
 refine bD [0] 1 1 [(37, .slice Aq' k' cq')] [] <| pS 2 0 <| cG (d := 38) (α := Unit) (fun _ => .tuple #[]) (fun _ => [.gen (rowE (Aq') gq' k' cq' 3 1 (iV (sortL (evG p q xs ++ evG p q xs'))) true), .ro bl [.slice A n cap, .slice A' n' cap'] 58, rD (A) g o n 4 (rvals xs), rD (A') g' o' n' 4 (rvals xs')]) (fun _ => True) (fun w hT => (sortRow Aq' gq' k' cq' (evG p q xs ++ evG p q xs') w (hT.view (.cons (i := 0) rfl Vw.row .nil) (by decide)) (by omega)).mono fun e w' ⟨he_, ht_⟩ => ⟨(), he_, trivial, hT.merge (N := []) (s := [0]) ht_ (.cons (i := 0) rfl Mg.row .nil) (by decide) (fun i e h => by simp at h)⟩) (fun _ _ => ?_)
 refine zDNSR 3 <| bS [0] 1 2 [(39, .slice Aq' k' cq')] <| pS 2 1 <| cG (d := 40) (α := Unit) (fun _ => .slice Aq' ((Lib.compact (sortL (evG p q xs ++ evG p q xs'))).length) cq') (fun _ => [.gen (rowE (Aq') gq' ((Lib.compact (sortL (evG p q xs ++ evG p q xs'))).length) cq' 3 1 (iV (Lib.compact (sortL (evG p q xs ++ evG p q xs')))) true), .ro bl [.slice A n cap, .slice A' n' cap'] 58, rD (A) g o n 4 (rvals xs), rD (A') g' o' n' 4 (rvals xs')]) (fun _ => True) (fun w hT => (compactRow Aq' gq' k' cq' (sortL (evG p q xs ++ evG p q xs')) w (hT.view (.cons (i := 0) rfl Vw.row .nil) (by decide))).mono fun e w' ⟨he_, ht_⟩ => ⟨(), he_, trivial, hT.merge (N := []) (s := [0]) ht_ (.cons (i := 0) rfl Mg.row .nil) (by decide) (fun i e h => by simp at h)⟩) (fun _ _ => ?_)
 refine bS [0] 3 0 [(4, .slice Aq' ((Lib.compact (sortL (evG p q xs ++ evG p q xs'))).length) cq')] <| zDNr <| rA rfl 0 (.slice Aq' ((Lib.compact (sortL (evG p q xs ++ evG p q xs'))).length) cq') fun w hT => ?_
 replace hT := hT.erase 3 (fun e h hw => by cases h; first | rfl | cases hw)
 replace hT := hT.erase 2 (fun e h hw => by cases h; first | rfl | cases hw)
 replace hT := hT.erase 1 (fun e h hw => by cases h; first | rfl | cases hw)
 exact ⟨_, _, _, _, rfl, hT⟩
theorem regAcross (A : Option Addr) (g o n cap : Nat) (xs : List Rect) (y : Int) (w : World) (hT0 : Tab w w [rD (A) g o n 4 (rvals xs)]) (hn : n ≤ 262144) :
    Calls Try.prog 118 #[.slice A n cap, iQ y] w fun e w' => ∃ (A_ : Option Addr) (g_ k_ cp_ : Nat), e = .returned (.slice A_ k_ cp_) ∧ Tab w w' [.gen (rowE (A_) g_ k_ cp_ 53 4 (rvals (acrossL xs y)) true)] := by
 obtain ⟨hra, hrl⟩ := Rd.factsR (hT0.ok 0 _ rfl)
 refine eN [(0, .slice A n cap), (1, iq y)] Try.func118 Try.ntmps118 rfl hT0 ?_
 refine zSR 1 <| bD [0] 1 0 [] [4] <| zDNSR 1 <| bD [0] 1 0 [(5, .slice none 0 0)] [] <| zDNSSR 3 <| bD [0, 0, 0] 3 0 [(8, .slice A n cap), (9, iq (n : Int)), (10, iq 0)] [] <| zDNB <| cont_nilrow 53 4 ?_
 refine cont_rowEqR 0 ([]) (acrossL (xs.take 0) y) rfl (by simp [acrossL]) ?_
 refine cL (α := Nat × Nat × Option Addr × Nat × Nat) (fun x_ : Nat × Nat × Option Addr × Nat × Nat => x_.1 ≤ n ∧ x_.2.1 ≤ x_.1) (fun x_ : Nat × Nat × Option Addr × Nat × Nat => [(1, iq y), (5, .slice x_.2.2.1 x_.2.1 x_.2.2.2.2), (8, .slice A n cap), (9, iq (n : Int)), (10, iq (x_.1 : Int))]) (fun x_ : Nat × Nat × Option Addr × Nat × Nat => [.gen (rowE (x_.2.2.1) x_.2.2.2.1 x_.2.1 x_.2.2.2.2 53 4 (rvals (acrossL (xs.take x_.1) y)) true), rD (A) g o n 4 (rvals xs)]) (fun x_ : Nat × Nat × Option Addr × Nat × Nat => n - x_.1) (0, 0, none, 0, 0) (show (0) ≤ n ∧ (0) ≤ (0) from ⟨by omega, by omega⟩) ?_
 rintro ⟨i, k, Aq, gq, cq⟩ hinv2_
 replace hinv2_ : i ≤ n ∧ k ≤ i := hinv2_
 obtain ⟨hi, hk⟩ := hinv2_
 refine zSR 1 <| bD [0] 1 0 [(11, .bool (decide ((i : Int) < (n : Int))))] [] <| zDNS <| sD 11 rfl (fun c3_ => ?_) fun c3_ => ?_
 ·
  refine zTKNSBSR 4 <| pS 1 3 <| rC 8 (.slice (some ⟨g, o, none⟩) n cap) rfl (by rw [hra (by omega)]) <| sS 12 (Instr.indexAt 58 (.slice (some ⟨g, o, none⟩) n cap) (iq (i : Int))) (.pointer (some ⟨g, o + i * 4, none⟩)) (fun w hT => rI 53 4 w) <| pS 2 2 <| sS 13 (Instr.loadAt 53 (.pointer (some ⟨g, o + i * 4, none⟩))) (.agg #[iq ((rget xs i).x0), iq ((rget xs i).y0), iq ((rget xs i).x1), iq ((rget xs i).y1)]) (fun w hT => rM 4 (rcells (rget xs i)) (Rd.rect (hT.ok 1 _ rfl) (by omega))) <| bW [0, 0] 4 0 (fun b4 => [(1, iq y), (5, .slice Aq k cq), (7, .pointer (pB b4)), (8, .slice (some ⟨g, o, none⟩) n cap), (9, iq (n : Int)), (10, iq (i : Int))]) (fun b4 => [.cells b4 [iq ((rget xs i).x0), iq ((rget xs i).y0), iq ((rget xs i).x1), iq ((rget xs i).y1)] 53 true, .gen (rowE (Aq) gq k cq 53 4 (rvals (acrossL (xs.take i) y)) true), rD (A) g o n 4 (rvals xs)]) [1, 5, 7, 8, 9, 10] fun b4 => ?_
  refine zDNSR 17 <| bD [0, 0, 0, 0, 0] 5 12 [(18, .bool (decide (((rget xs i).y0) ≤ y)))] [14, 15, 16, 17] <| sD 18 rfl (fun c5_ => ?_) fun c5_ => ?_
  ·
   refine bD [0, 0, 0, 0, 0, 0] 11 6 [(19, iq y), (20, .pointer (some ⟨b4, 3, none⟩)), (21, iq ((rget xs i).y1)), (22, .bool (decide (y < ((rget xs i).y1)))), (24, .bool (decide (y < ((rget xs i).y1))))] [23] <| cSp 24 _ rfl (fun c6_ => ?_) fun c6_ => ?_
   ·
    refine rC 22 (.bool true) rfl (congrArg Value.bool c6_) ?_
    replace c6_ := of_decide_eq_true c6_
    refine bD [0, 0, 0, 0, 0, 0] 17 0 [(25, .pointer (pB b4)), (26, iq ((rget xs i).x0)), (27, .pointer (some ⟨b4, 2, none⟩)), (28, iq ((rget xs i).x1)), (29, .bool (decide (((rget xs i).x0) < ((rget xs i).x1)))), (30, .bool (decide (((rget xs i).x0) < ((rget xs i).x1))))] [] <| zDN <| cSp 30 _ rfl (fun c7_ => ?_) fun c7_ => ?_
    ·
     refine rC 29 (.bool true) rfl (congrArg Value.bool c7_) ?_
     replace c7_ := of_decide_eq_true c7_
     refine cTr rfl <| cRg 5 rfl ?_
     refine bW [0, 0, 0] 3 2 (fun b8 => [(1, iq y), (8, .slice (some ⟨g, o, none⟩) n cap), (9, iq (n : Int)), (10, iq (i : Int)), (19, iq y), (20, .pointer (some ⟨b4, 3, none⟩)), (21, iq ((rget xs i).y1)), (22, .bool true), (25, .pointer (pB b4)), (26, iq ((rget xs i).x0)), (27, .pointer (some ⟨b4, 2, none⟩)), (28, iq ((rget xs i).x1)), (29, .bool true), (31, .slice Aq k cq), (33, .slice (pB b8) 1 1)]) (fun b8 => [.cells b8 [iq ((rget xs i).x0), iq ((rget xs i).y0), iq ((rget xs i).x1), iq ((rget xs i).y1)] 53 true, .cells b4 [iq ((rget xs i).x0), iq ((rget xs i).y0), iq ((rget xs i).x1), iq ((rget xs i).y1)] 53 true, .gen (rowE (Aq) gq k cq 53 4 (rvals (acrossL (xs.take i) y)) true), rD (A) g o n 4 (rvals xs)]) [1, 8, 9, 10, 19, 20, 21, 22, 25, 26, 27, 28, 29, 31, 33] fun b8 => ?_
     refine pS 4 1 <| sSW (α := Option Addr × Nat × Nat) 34 (Builtin.append_ #[58, 58] 58 #[.slice Aq k cq, .slice (pB b8) 1 1]) (fun x_ => .slice x_.1 (k + 1) x_.2.2) (fun x_ => [.cells b8 [iq ((rget xs i).x0), iq ((rget xs i).y0), iq ((rget xs i).x1), iq ((rget xs i).y1)] 53 true, .cells b4 [iq ((rget xs i).x0), iq ((rget xs i).y0), iq ((rget xs i).x1), iq ((rget xs i).y1)] 53 true, .gen (rowE (x_.1) x_.2.1 (k + 1) x_.2.2 53 4 (rvals ((acrossL (xs.take i) y) ++ [(⟨(rget xs i).x0, (rget xs i).y0, (rget xs i).x1, (rget xs i).y1⟩ : Rect)])) true), rD (A) g o n 4 (rvals xs)]) (fun _ => True) (by kernel_rfl) (fun w hT => append_own (n' := (k + 1)) (z := .agg #[iq 0, iq 0, iq 0, iq 0]) hT (i := 2) (bytes := 32) rfl (by kernel_rfl) (by kernel_rfl) rfl (by decide) (by decide) (Rd.ofCells (vals := rvals [(⟨(rget xs i).x0, (rget xs i).y0, (rget xs i).x1, (rget xs i).y1⟩ : Rect)]) (hT.ok 0 _ rfl) rfl rfl) (rvals_one [(⟨(rget xs i).x0, (rget xs i).y0, (rget xs i).x1, (rget xs i).y1⟩ : Rect)]) (by omega) (rvals_append (acrossL (xs.take i) y) [(⟨(rget xs i).x0, (rget xs i).y0, (rget xs i).x1, (rget xs i).y1⟩ : Rect)]) rfl) ?_
     rintro ⟨A9, g9, cp9⟩ -
     refine fR 2 (k + 1) A9 g9 cp9 ((acrossL (xs.take i) y) ++ [(⟨(rget xs i).x0, (rget xs i).y0, (rget xs i).x1, (rget xs i).y1⟩ : Rect)]) rfl fun hr10_a hr10_l hr10_c hr10_m => ?_
     refine bD [0] 5 0 [(5, .slice A9 (k + 1) cp9)] [] <| fG 0 <| zDbNR 2 <| bD [0] 1 1 [(35, iq (IntKind.i64.wrap ((i : Int) + 1)))] [] <| wI 35 ((i : Int) + 1) <| bD [0] 2 0 [(10, iq ((i : Int) + 1))] [] <| zDN <| rC 8 (.slice A n cap) rfl (by rw [hra (by omega)]) <| fG 0 <| cont_rowEqR 0 ((acrossL (xs.take i) y) ++ [(⟨(rget xs i).x0, (rget xs i).y0, (rget xs i).x1, (rget xs i).y1⟩ : Rect)]) (acrossL (xs.take (i + 1)) y) rfl (across_put (by omega) (by omega)) ?_
     refine cA (i + 1, (k + 1), A9, g9, cp9) (show (i + 1) ≤ n ∧ ((k + 1)) ≤ (i + 1) from ⟨by omega, by omega⟩)
    refine rC 29 (.bool false) rfl (congrArg Value.bool c7_) ?_
    replace c7_ := of_decide_eq_false c7_
    refine zFKbNR 2 <| bD [0] 1 1 [(35, iq (IntKind.i64.wrap ((i : Int) + 1)))] [] <| wI 35 ((i : Int) + 1) <| bD [0] 2 0 [(10, iq ((i : Int) + 1))] [] <| zDN <| rC 8 (.slice A n cap) rfl (by rw [hra (by omega)]) <| fG 0 <| cont_rowEqR 0 (acrossL (xs.take i) y) (acrossL (xs.take (i + 1)) y) rfl (across_skip (by omega) (by omega)) ?_
    refine cA (i + 1, k, Aq, gq, cq) (show (i + 1) ≤ n ∧ (k) ≤ (i + 1) from ⟨by omega, by omega⟩)
   refine rC 22 (.bool false) rfl (congrArg Value.bool c6_) ?_
   replace c6_ := of_decide_eq_false c6_
   refine bD [0, 0, 0, 0, 0, 0] 17 0 [(25, undef), (26, undef), (27, undef), (28, undef), (29, undef), (30, .bool false)] [] <| zDN <| zFKbNR 2 <| bD [0] 1 1 [(35, iq (IntKind.i64.wrap ((i : Int) + 1)))] [] <| wI 35 ((i : Int) + 1) <| bD [0] 2 0 [(10, iq ((i : Int) + 1))] [] <| zDN <| rC 8 (.slice A n cap) rfl (by rw [hra (by omega)]) <| fG 0 <| cont_rowEqR 0 (acrossL (xs.take i) y) (acrossL (xs.take (i + 1)) y) rfl (across_skip (by omega) (by omega)) ?_
   refine cA (i + 1, k, Aq, gq, cq) (show (i + 1) ≤ n ∧ (k) ≤ (i + 1) from ⟨by omega, by omega⟩)
  refine bD [0, 0, 0, 0, 0, 0, 0, 0, 0, 0, 0, 0] 17 0 [(19, undef), (20, undef), (21, undef), (22, undef), (25, undef), (26, undef), (27, undef), (28, undef), (29, undef), (30, .bool false)] [23, 24] <| zDN <| zFKbNR 2 <| bD [0] 1 1 [(35, iq (IntKind.i64.wrap ((i : Int) + 1)))] [] <| wI 35 ((i : Int) + 1) <| fG 0 <| bD [0] 2 0 [(10, iq ((i : Int) + 1))] [] <| zDN <| rC 8 (.slice A n cap) rfl (by rw [hra (by omega)]) <| cont_rowEqR 0 (acrossL (xs.take i) y) (acrossL (xs.take (i + 1)) y) rfl (across_skip (by omega) (by omega)) ?_
  refine cA (i + 1, k, Aq, gq, cq) (show (i + 1) ≤ n ∧ (k) ≤ (i + 1) from ⟨by omega, by omega⟩)
 refine zFXxxeNSR 2 <| bS [0, 0] 2 0 [(4, .slice Aq k cq)] <| zDNr <| rA rfl 0 (.slice Aq k cq) fun w hT => ?_
 replace hT := hT.erase 1 (fun e h hw => by cases h; first | rfl | cases hw)
 rw [show i = n by omega, List.take_of_length_le (show xs.length ≤ n by omega)] at hT
 exact ⟨_, _, _, _, rfl, hT⟩
theorem idxFuncR0 (A : Option Addr) (g o n cap : Nat) (xs : List Rect) (fk : FuncId) (p : Rect → Bool) (w : World) (hT0 : Tab w w [rD (A) g o n 4 (rvals xs)]) (hE : Enters Try.prog fk) (hf : ∀ (r : Rect) (w : World), Calls Try.prog fk #[.agg #[iQ r.x0, iQ r.y0, iQ r.x1, iQ r.y1]] w fun e w' => e = .returned (.bool (p r)) ∧ Below w.heap.size w w') (hn : n ≤ 1000000000000) :
    Calls Try.prog 109 #[.slice A n cap, .func (.func fk) #[] #[]] w fun e w' => e = .returned (iQ (idxR p xs)) ∧ Below w.heap.size w w' := by
 obtain ⟨hra, hrl⟩ := Rd.factsR (hT0.ok 0 _ rfl)
 refine eN [(0, .slice A n cap), (1, .func (.func fk) #[] #[])] Try.func109 Try.ntmps109 rfl hT0 ?_
 refine zSR 1 <| bD [0] 1 0 [] [4] <| zDNSSR 3 <| bD [0, 0, 0] 3 0 [(7, iq (n : Int)), (8, iq 0)] [6] <| zDNB <| cL (α := Nat) (fun x_ : Nat => x_ ≤ n ∧ ∀ j, j < x_ → p (rget xs j) = false) (fun x_ : Nat => [(0, .slice A n cap), (1, .func (.func fk) #[] #[]), (7, iq (n : Int)), (8, iq (x_ : Int))]) (fun x_ : Nat => [rD (A) g o n 4 (rvals xs)]) (fun x_ : Nat => n - x_) 0 (⟨by omega, fun j hj => by omega⟩) ?_
 rintro i hinv1_
 replace hinv1_ : i ≤ n ∧ ∀ j, j < i → p (rget xs j) = false := hinv1_
 obtain ⟨hi, hns⟩ := hinv1_
 refine zSR 1 <| bD [0] 1 0 [(9, .bool (decide ((i : Int) < (n : Int))))] [] <| zDNS <| sD 9 rfl (fun c2_ => ?_) fun c2_ => ?_
 ·
  refine zTKNSBSR 2 <| bD [0, 0] 2 0 [(5, iq (i : Int))] [10] <| zDNSR 6 <| bD [0, 0, 0] 3 3 [(11, .func (.func fk) #[] #[]), (12, .slice A n cap), (13, iq (i : Int))] [] <| pS 4 2 <| rC 12 (.slice (some ⟨g, o, none⟩) n cap) rfl (by rw [hra (by omega)]) <| sS 14 (Instr.indexAt 58 (.slice (some ⟨g, o, none⟩) n cap) (iq (i : Int))) (.pointer (some ⟨g, o + i * 4, none⟩)) (fun w hT => rI 53 4 w) <| pS 5 1 <| sS 15 (Instr.loadAt 53 (.pointer (some ⟨g, o + i * 4, none⟩))) (.agg #[iq ((rget xs i).x0), iq ((rget xs i).y0), iq ((rget xs i).x1), iq ((rget xs i).y1)]) (fun w hT => rM 4 (rcells (rget xs i)) (Rd.rect (hT.ok 0 _ rfl) (by omega))) <| pS 6 0 <| call_pureF (d := 16) (.bool (p (rget xs i))) (by kernel_rfl) hE (fun w hT => hf (rget xs i) w) ?_
  refine zDN <| cSp 16 _ rfl (fun c3_ => ?_) fun c3_ => ?_
  ·
   refine zTSR 2 <| bS [0, 0] 2 0 [(4, iq (i : Int))] <| zDNruttut <| rA rfl 0 (iq (i : Int)) fun w hT => ?_
   exact ⟨ret_int (idxR_some (by omega) hns ‹_›).symm, hT.post rfl⟩
  refine zFKbNR 2 <| bD [0] 1 1 [(18, iq (IntKind.i64.wrap ((i : Int) + 1)))] [] <| wI 18 ((i : Int) + 1) <| bD [0] 2 0 [(8, iq ((i : Int) + 1))] [] <| zDN <| cA (i + 1) (show (i + 1) ≤ n ∧ ∀ j, j < (i + 1) → p (rget xs j) = false from ⟨by omega, fun j hj => by rcases Nat.lt_succ_iff_lt_or_eq.1 hj with h_ | h_; exact hns j h_; subst h_; assumption⟩)
 refine zFXxxeNSR 1 <| bS [0] 1 0 [(4, iq (-1))] <| zDNr <| rA rfl 0 (iq (-1)) fun w hT => ?_
 exact ⟨ret_int (idxR_none (fun j hj => hns j (by omega))).symm, hT.post rfl⟩
theorem idxFuncR1 (A : Option Addr) (g o n cap : Nat) (xs : List Rect) (fk : FuncId) (p : Rect → Bool) (bc1 : Nat) (cc1 : Int) (w : World) (hT0 : Tab w w [rD (A) g o n 4 (rvals xs), .ro bc1 [iQ cc1] 3]) (hE : Enters Try.prog fk) (hf : ∀ (r : Rect) (w : World), Tab w w [.ro bc1 [iQ cc1] 3] → Calls Try.prog fk #[.agg #[iQ r.x0, iQ r.y0, iQ r.x1, iQ r.y1], pT bc1] w fun e w' => e = .returned (.bool (p r)) ∧ Below w.heap.size w w') (hn : n ≤ 1000000000000) :
    Calls Try.prog 109 #[.slice A n cap, .func (.func fk) #[] #[pT bc1]] w fun e w' => e = .returned (iQ (idxR p xs)) ∧ Below w.heap.size w w' := by
 obtain ⟨hra, hrl⟩ := Rd.factsR (hT0.ok 0 _ rfl)
 refine eN [(0, .slice A n cap), (1, .func (.func fk) #[] #[.pointer (pB bc1)])] Try.func109 Try.ntmps109 rfl hT0 ?_
 refine zSR 1 <| bD [0] 1 0 [] [4] <| zDNSSR 3 <| bD [0, 0, 0] 3 0 [(7, iq (n : Int)), (8, iq 0)] [6] <| zDNB <| cL (α := Nat) (fun x_ : Nat => x_ ≤ n ∧ ∀ j, j < x_ → p (rget xs j) = false) (fun x_ : Nat => [(0, .slice A n cap), (1, .func (.func fk) #[] #[.pointer (pB bc1)]), (7, iq (n : Int)), (8, iq (x_ : Int))]) (fun x_ : Nat => [rD (A) g o n 4 (rvals xs), .ro bc1 [iq cc1] 3]) (fun x_ : Nat => n - x_) 0 (⟨by omega, fun j hj => by omega⟩) ?_
 rintro i hinv1_
 replace hinv1_ : i ≤ n ∧ ∀ j, j < i → p (rget xs j) = false := hinv1_
 obtain ⟨hi, hns⟩ := hinv1_
 refine zSR 1 <| bD [0] 1 0 [(9, .bool (decide ((i : Int) < (n : Int))))] [] <| zDNS <| sD 9 rfl (fun c2_ => ?_) fun c2_ => ?_
 ·
  refine zTKNSBSR 2 <| bD [0, 0] 2 0 [(5, iq (i : Int))] [10] <| zDNSR 6 <| bD [0, 0, 0] 3 3 [(11, .func (.func fk) #[] #[.pointer (pB bc1)]), (12, .slice A n cap), (13, iq (i : Int))] [] <| pS 4 2 <| rC 12 (.slice (some ⟨g, o, none⟩) n cap) rfl (by rw [hra (by omega)]) <| sS 14 (Instr.indexAt 58 (.slice (some ⟨g, o, none⟩) n cap) (iq (i : Int))) (.pointer (some ⟨g, o + i * 4, none⟩)) (fun w hT => rI 53 4 w) <| pS 5 1 <| sS 15 (Instr.loadAt 53 (.pointer (some ⟨g, o + i * 4, none⟩))) (.agg #[iq ((rget xs i).x0), iq ((rget xs i).y0), iq ((rget xs i).x1), iq ((rget xs i).y1)]) (fun w hT => rM 4 (rcells (rget xs i)) (Rd.rect (hT.ok 0 _ rfl) (by omega))) <| pS 6 0 <| call_pureF (d := 16) (.bool (p (rget xs i))) (by kernel_rfl) hE (fun w hT => hf (rget xs i) w (hT.viewRo (.cons (i := 1) rfl Vw.ro .nil) rfl)) ?_
  refine zDN <| cSp 16 _ rfl (fun c3_ => ?_) fun c3_ => ?_
  ·
   refine zTSR 2 <| bS [0, 0] 2 0 [(4, iq (i : Int))] <| zDNruttut <| rA rfl 0 (iq (i : Int)) fun w hT => ?_
   exact ⟨ret_int (idxR_some (by omega) hns ‹_›).symm, hT.post rfl⟩
  refine zFKbNR 2 <| bD [0] 1 1 [(18, iq (IntKind.i64.wrap ((i : Int) + 1)))] [] <| wI 18 ((i : Int) + 1) <| bD [0] 2 0 [(8, iq ((i : Int) + 1))] [] <| zDN <| cA (i + 1) (show (i + 1) ≤ n ∧ ∀ j, j < (i + 1) → p (rget xs j) = false from ⟨by omega, fun j hj => by rcases Nat.lt_succ_iff_lt_or_eq.1 hj with h_ | h_; exact hns j h_; subst h_; assumption⟩)
 refine zFXxxeNSR 1 <| bS [0] 1 0 [(4, iq (-1))] <| zDNr <| rA rfl 0 (iq (-1)) fun w hT => ?_
 exact ⟨ret_int (idxR_none (fun j hj => hns j (by omega))).symm, hT.post rfl⟩
theorem conFuncR1 (A : Option Addr) (g o n cap : Nat) (xs : List Rect) (fk : FuncId) (p : Rect → Bool) (bc1 : Nat) (cc1 : Int) (w : World) (hT0 : Tab w w [rD (A) g o n 4 (rvals xs), .ro bc1 [iQ cc1] 3]) (hE : Enters Try.prog fk) (hf : ∀ (r : Rect) (w : World), Tab w w [.ro bc1 [iQ cc1] 3] → Calls Try.prog fk #[.agg #[iQ r.x0, iQ r.y0, iQ r.x1, iQ r.y1], pT bc1] w fun e w' => e = .returned (.bool (p r)) ∧ Below w.heap.size w w') (hn : n ≤ 1000000000000) :
    Calls Try.prog 128 #[.slice A n cap, .func (.func fk) #[] #[pT bc1]] w fun e w' => e = .returned (.bool (xs.any p)) ∧ Below w.heap.size w w' := by
 obtain ⟨hra, hrl⟩ := Rd.factsR (hT0.ok 0 _ rfl)
 refine eN [(0, .slice A n cap), (1, .func (.func fk) #[] #[.pointer (pB bc1)])] Try.func128 Try.ntmps128 rfl hT0 ?_
 refine zSR 1 <| bD [0] 1 0 [] [4] <| zDNSR 5 <| bS [0, 0] 2 3 [(5, .slice A n cap), (6, .func (.func fk) #[] #[.pointer (pB bc1)])] <| pS 3 2 <| cP 7 (iq (idxR p xs)) (fun w hT => idxFuncR1 A g o n cap xs fk p bc1 cc1 w (hT.viewRo (.cons (i := 0) rfl Vw.rd (.cons (i := 1) rfl Vw.ro .nil)) rfl) hE hf (by omega)) <| bS [0, 0] 5 0 [(4, .bool (decide ((idxR p xs) ≥ 0)))] <| zDNr <| rA rfl 0 (.bool (decide ((idxR p xs) ≥ 0))) fun w hT => ?_
 exact ⟨ret_bool (idxR_ge p xs), hT.post rfl⟩
theorem has1 (a b c d : Int) (bc1 : Nat) (cc1 : Int) (w : World) (hT0 : Tab w w [.ro bc1 [iQ cc1] 3]) :
    Calls Try.prog 129 #[.agg #[iQ a, iQ b, iQ c, iQ d], pT bc1] w fun e w' => e = .returned (.bool (decide (a ≤ cc1) && decide (cc1 < c))) ∧ Below w.heap.size w w' := by
 refine eN [(0, .agg #[iq a, iq b, iq c, iq d]), (1, .pointer (pB bc1))] Try.func129 Try.ntmps129 rfl hT0 ?_
 refine zSR 2 <| bW [0, 0] 2 0 (fun b1 => [(1, .pointer (pB bc1)), (2, .pointer (pB b1))]) (fun b1 => [.cells b1 [iq a, iq b, iq c, iq d] 53 true, .ro bc1 [iq cc1] 3]) [1, 2] fun b1 => ?_
 refine zDNSR 11 <| bD [0, 0, 1, 0, 0] 5 6 [(8, .bool (decide (a ≤ cc1)))] [4, 5, 6, 7] <| sD 8 rfl (fun c2_ => ?_) fun c2_ => ?_
 ·
  refine bS [1, 0, 0, 0, 0, 0] 11 0 [(3, .bool (decide (cc1 < c)))] <| fG 0 <| zDNr <| rA rfl 0 (.bool (decide (cc1 < c))) fun w hT => ?_
  exact ⟨ret_bool (by simp [*] <;> omega), hT.post rfl⟩
 refine bS [0, 0, 0, 0, 0, 0] 11 0 [(3, .bool false)] <| fG 0 <| zDNr <| rA rfl 0 (.bool false) fun w hT => ?_
 exact ⟨ret_bool (by simp [*] <;> omega), hT.post rfl⟩
theorem regHasX (A : Option Addr) (g o n cap : Nat) (xs : List Rect) (x : Int) (w : World) (hT0 : Tab w w [rD (A) g o n 4 (rvals xs)]) (hn : n ≤ 1000000000000) :
    Calls Try.prog 120 #[.slice A n cap, iQ x] w fun e w' => e = .returned (.bool (hasXL xs x)) ∧ Below w.heap.size w w' := by
 obtain ⟨hra, hrl⟩ := Rd.factsR (hT0.ok 0 _ rfl)
 refine eN [(0, .slice A n cap), (1, iq x)] Try.func120 Try.ntmps120 rfl hT0 ?_
 refine zSR 2 <| bW [0, 0] 2 0 (fun b1 => [(0, .slice A n cap), (3, .pointer (pB b1))]) (fun b1 => [.cells b1 [iq x] 3 true, rD (A) g o n 4 (rvals xs)]) [0, 3] fun b1 => ?_
 refine zDNSR 4 <| bS [0, 0] 2 2 [(5, .slice A n cap), (6, .func (.func 129) #[] #[.pointer (pB b1)])] <| pS 3 1 <| cP 7 (.bool (xs.any (fun r : Rect => decide (r.x0 ≤ x) && decide (x < r.x1)))) (fun w hT => conFuncR1 A g o n cap xs 129 (fun r : Rect => decide (r.x0 ≤ x) && decide (x < r.x1)) b1 x w (hT.viewRo (.cons (i := 1) rfl Vw.rd (.cons (i := 0) rfl Vw.roc .nil)) rfl) (fun _ => by kernel_rfl) (fun r w hT => has1 r.x0 r.y0 r.x1 r.y1 b1 x w hT) (by omega)) <| bS [0] 4 0 [(4, .bool (xs.any (fun r : Rect => decide (r.x0 ≤ x) && decide (x < r.x1))))] <| fG 0 <| zDNr <| rA rfl 0 (.bool (xs.any (fun r : Rect => decide (r.x0 ≤ x) && decide (x < r.x1)))) fun w hT => ?_
 exact ⟨rfl, hT.post rfl⟩
end Go.Proofs.Ytlfahohbkgdabaa
namespace Go.Proofs.Ytlfahohbkgdabaa
open Go Go.RowKit
set_option maxRecDepth 100000
set_option maxHeartbeats 8000000
theorem regBand (A : Option Addr) (g o n cap : Nat) (xs : List Rect) (A' : Option Addr) (g' o' n' cap' : Nat) (xs' : List Rect) (y y' : Int) (fk : FuncId) (kf : Bool → Bool → Bool) (w : World) (hT0 : Tab w w [rD (A) g o n 4 (rvals xs), rD (A') g' o' n' 4 (rvals xs')]) (hE : Enters Try.prog fk) (hf : ∀ (p q : Bool) (w : World), Calls Try.prog fk #[.bool p, .bool q] w fun e w' => e = .returned (.bool (kf p q)) ∧ Below w.heap.size w w') (hn : n + n' ≤ 262144) :
    Calls Try.prog 107 #[.slice A n cap, .slice A' n' cap', iQ y, iQ y', .func (.func fk) #[] #[]] w fun e w' => ∃ (A_ : Option Addr) (g_ k_ cp_ : Nat), e = .returned (.slice A_ k_ cp_) ∧ Tab w w' [.gen (rowE (A_) g_ k_ cp_ 53 4 (rvals (bandP kf xs xs' y y')) true)] := by
 obtain ⟨hra, hrl⟩ := Rd.factsR (hT0.ok 0 _ rfl)
 obtain ⟨hra', hrl'⟩ := Rd.factsR (hT0.ok 1 _ rfl)
 refine eN [(0, .slice A n cap), (1, .slice A' n' cap'), (2, iq y), (3, iq y'), (4, .func (.func fk) #[] #[])] Try.func107 Try.ntmps107 rfl hT0 ?_
 refine zSR 1 <| bD [0] 1 0 [] [10] <| zDNSR 8 <| bD [0, 0] 2 6 [(15, .slice A n cap), (16, iq y)] [] <| pS 3 5 <| cG (d := 17) (α := Option Addr × Nat × Nat × Nat) (fun x_ => .slice x_.1 x_.2.2.1 x_.2.2.2) (fun x_ => [.gen (rowE (x_.1) x_.2.1 x_.2.2.1 x_.2.2.2 53 4 (rvals (acrossL xs y)) true), rD (A) g o n 4 (rvals xs), rD (A') g' o' n' 4 (rvals xs')]) (fun x_ => True) (fun w hT => (regAcross A g o n cap xs y w (hT.viewRo (.cons (i := 0) rfl Vw.rd .nil) rfl) (by omega)).mono fun e w' ⟨A1, g2, k3, cp4, he_, ht_⟩ => ⟨(A1, g2, k3, cp4), he_, trivial, hT.news ht_ rfl⟩) ?_
 rintro ⟨A1, g2, k3, cp4⟩ hf5_
 refine cM ?_
 refine fR 0 k3 A1 g2 cp4 (acrossL xs y) rfl fun hr6_a hr6_l hr6_c hr6_m => ?_
 refine bD [0, 0] 5 3 [(18, .slice A' n' cap'), (19, iq y)] [] <| pS 6 2 <| cG (d := 20) (α := Option Addr × Nat × Nat × Nat) (fun x_ => .slice x_.1 x_.2.2.1 x_.2.2.2) (fun x_ => [.gen (rowE (x_.1) x_.2.1 x_.2.2.1 x_.2.2.2 53 4 (rvals (acrossL xs' y)) true), .gen (rowE (A1) g2 k3 cp4 53 4 (rvals (acrossL xs y)) true), rD (A) g o n 4 (rvals xs), rD (A') g' o' n' 4 (rvals xs')]) (fun x_ => True) (fun w hT => (regAcross A' g' o' n' cap' xs' y w (hT.viewRo (.cons (i := 2) rfl Vw.rd .nil) rfl) (by omega)).mono fun e w' ⟨A7, g8, k9, cp10, he_, ht_⟩ => ⟨(A7, g8, k9, cp10), he_, trivial, hT.news ht_ rfl⟩) ?_
 rintro ⟨A7, g8, k9, cp10⟩ hf11_
 refine cM ?_
 refine fR 0 k9 A7 g8 cp10 (acrossL xs' y) rfl fun hr12_a hr12_l hr12_c hr12_m => ?_
 refine bD [0, 0] 8 0 [(0, .slice A1 k3 cp4), (1, .slice A7 k9 cp10)] [] <| zDNSR 5 ?_
 obtain ⟨AA, hAA⟩ : ∃ y_ : List Rect, y_ = (acrossL xs y) := ⟨_, rfl⟩
 refine cont_rowEqR 1 (acrossL xs y) (AA) rfl hAA.symm ?_
 refine fR 1 k3 A1 g2 cp4 AA rfl fun hr13_a hr13_l hr13_c hr13_m => ?_
 obtain ⟨BB, hBB⟩ : ∃ y_ : List Rect, y_ = (acrossL xs' y) := ⟨_, rfl⟩
 refine cont_rowEqR 0 (acrossL xs' y) (BB) rfl hBB.symm ?_
 refine fR 0 k9 A7 g8 cp10 BB rfl fun hr14_a hr14_l hr14_c hr14_m => ?_
 have hbA := acrossL_length xs y
 have hbB := acrossL_length xs' y
 refine bW [0, 0, 0] 3 2 (fun b15 => [(0, .slice A1 k3 cp4), (1, .slice A7 k9 cp10), (2, iq y), (3, iq y'), (4, .func (.func fk) #[] #[]), (23, .slice (pB b15) 2 2)]) (fun b15 => [.cells b15 [.slice A1 k3 cp4, .slice A7 k9 cp10] 58 true, .gen (rowE (A7) g8 k9 cp10 53 4 (rvals BB) true), .gen (rowE (A1) g2 k3 cp4 53 4 (rvals AA) true), rD (A) g o n 4 (rvals xs), rD (A') g' o' n' 4 (rvals xs')]) [0, 1, 2, 3, 4, 23] fun b15 => ?_
 refine pS 4 1 <| cG (d := 24) (α := Option Addr × Nat × Nat × Nat) (fun x_ => .slice x_.1 x_.2.2.1 x_.2.2.2) (fun x_ => [.gen (rowE (x_.1) x_.2.1 x_.2.2.1 x_.2.2.2 3 1 (iV (gridL (evX AA ++ evX BB))) true), .cells b15 [.slice A1 k3 cp4, .slice A7 k9 cp10] 58 true, .gen (rowE (A7) g8 k9 cp10 53 4 (rvals BB) true), .gen (rowE (A1) g2 k3 cp4 53 4 (rvals AA) true), rD (A) g o n 4 (rvals xs), rD (A') g' o' n' 4 (rvals xs')]) (fun x_ => True) (fun w hT => (regEdges 119 (fun r : Rect => r.x0) (fun r : Rect => r.x1) b15 A1 g2 0 k3 cp4 AA A7 g8 0 k9 cp10 BB w (hT.viewRo (.cons (i := 0) rfl Vw.roc (.cons (i := 2) rfl Vw.rowRd (.cons (i := 1) rfl Vw.rowRd .nil))) rfl) (fun _ => by kernel_rfl) (fun r w => sideX r.x0 r.y0 r.x1 r.y1 w) (by omega)).mono fun e w' ⟨A16, g17, k18, cp19, he_, ht_⟩ => ⟨(A16, g17, k18, cp19), he_, trivial, hT.news ht_ rfl⟩) ?_
 rintro ⟨A16, g17, k18, cp19⟩ hf20_
 refine cM ?_
 refine fI 0 k18 A16 g17 cp19 (gridL (evX AA ++ evX BB)) rfl fun hr21_a hr21_l hr21_c hr21_m => ?_
 refine bD [0] 5 0 [(11, .slice A16 k18 cp19)] [] <| fG 1 <| zDNSR 1 ?_
 obtain ⟨XS, hXS⟩ : ∃ y_ : List Int, y_ = (gridL (evX AA ++ evX BB)) := ⟨_, rfl⟩
 refine cont_rowEq (k := .i64) 0 (gridL (evX AA ++ evX BB)) (XS) rfl hXS.symm ?_
 refine fI 0 k18 A16 g17 cp19 XS rfl fun hr22_a hr22_l hr22_c hr22_m => ?_
 have hbX : XS.length ≤ 2 * (n + n') := by have := xsP_length xs xs' y; rw [hXS, hAA, hBB]; unfold xsP at this; omega
 refine bD [0] 1 0 [(12, .slice none 0 0)] [] <| zDNSSR 5 <| bD [0, 0, 0] 3 2 [(27, iq (IntKind.i64.wrap ((k18 : Int) - 1)))] [25, 26] <| wI 27 ((k18 : Int) - 1) <| bD [0, 0] 5 0 [(28, iq (mx ((k18 : Int) - 1) 0)), (29, iq 0)] [] <| zDNB <| rC 28 (iq ((XS.length - 1 : Nat) : Int)) rfl (congrArg (Value.int .i64) (by unfold mx; omega)) <| cont_nilrow 53 4 ?_
 refine cM ?_
 refine cont_rowEqR 0 ([]) (ownL (bandF kf AA BB) y y' XS 0) rfl rfl ?_
 refine cL (α := Nat × Nat × Option Addr × Nat × Nat) (fun x_ : Nat × Nat × Option Addr × Nat × Nat => x_.1 ≤ XS.length - 1 ∧ x_.2.1 ≤ x_.1) (fun x_ : Nat × Nat × Option Addr × Nat × Nat => [(0, .slice A1 k3 cp4), (1, .slice A7 k9 cp10), (2, iq y), (3, iq y'), (4, .func (.func fk) #[] #[]), (11, .slice A16 k18 cp19), (12, .slice x_.2.2.1 x_.2.1 x_.2.2.2.2), (28, iq ((XS.length - 1 : Nat) : Int)), (29, iq (x_.1 : Int))]) (fun x_ : Nat × Nat × Option Addr × Nat × Nat => [.gen (rowE (x_.2.2.1) x_.2.2.2.1 x_.2.1 x_.2.2.2.2 53 4 (rvals (ownL (bandF kf AA BB) y y' XS x_.1)) true), .gen (rowE (A16) g17 k18 cp19 3 1 (iV XS) true), .gen (rowE (A7) g8 k9 cp10 53 4 (rvals BB) true), .gen (rowE (A1) g2 k3 cp4 53 4 (rvals AA) true), rD (A) g o n 4 (rvals xs), rD (A') g' o' n' 4 (rvals xs')]) (fun x_ : Nat × Nat × Option Addr × Nat × Nat => XS.length - 1 - x_.1) (0, 0, none, 0, 0) (show (0) ≤ XS.length - 1 ∧ (0) ≤ (0) from ⟨by omega, by omega⟩) ?_
 rintro ⟨i, kq, Aq, gq, cq⟩ hinv24_
 replace hinv24_ : i ≤ XS.length - 1 ∧ kq ≤ i := hinv24_
 refine cM ?_
 obtain ⟨hi, hk⟩ := hinv24_
 refine zSR 1 <| bD [0] 1 0 [(30, .bool (decide ((i : Int) < ((XS.length - 1 : Nat) : Int))))] [] <| zDNS <| sD 30 rfl (fun c25_ => ?_) fun c25_ => ?_
 ·
  refine zTKNSBSR 2 <| bD [0, 0] 2 0 [(13, iq (i : Int))] [31] <| zDNS <| cSq <| drawn_enter 15 [] rfl (by kernel_rfl) ?_
  refine tD 0 [] [(0, 0), (1, 0), (2, 0), (3, 0), (7, 0), (8, 0), (9, 0)] 8 [9, 8, 7, 3, 2, 1, 0] [(32, .func (.func fk) #[] #[]), (33, .slice A1 k3 cp4), (34, .slice A16 k18 cp19), (35, iq (i : Int)), (39, .slice A7 k9 cp10), (40, .slice A16 k18 cp19), (41, iq (i : Int))] [] <| rC 34 (.slice (pB g17) k18 cp19) rfl (by rw [hr22_a (by omega)]) <| sT 0 [] 4 7 36 (Instr.indexAt 34 (.slice (pB g17) k18 cp19) (iq (i : Int))) (.pointer (some ⟨g17, i, none⟩)) (fun w hT => rI 3 1 w) <| sT 0 [] 5 6 37 (Instr.loadAt 3 (.pointer (some ⟨g17, i, none⟩))) (iq (XS.getD i 0)) (fun w hT => rL (Row.cell (hT 1 _ rfl) (i) _ (ivals_get (by omega)))) <| rC 40 (.slice (pB g17) k18 cp19) rfl (by rw [hr22_a (by omega)]) <| sT 0 [] 10 5 42 (Instr.indexAt 34 (.slice (pB g17) k18 cp19) (iq (i : Int))) (.pointer (some ⟨g17, i, none⟩)) (fun w hT => rI 3 1 w) <| sT 0 [] 11 4 43 (Instr.loadAt 3 (.pointer (some ⟨g17, i, none⟩))) (iq (XS.getD i 0)) (fun w hT => rL (Row.cell (hT 1 _ rfl) (i) _ (ivals_get (by omega)))) <| dO 6 3 <| cP 38 (.bool (hasXL AA (XS.getD i 0))) (fun w hT => regHasX A1 g2 0 k3 cp4 AA (XS.getD i 0) w (hT.viewRo (.cons (i := 3) rfl Vw.rowRd .nil) rfl) (by omega)) <| dX 0 [] <| dO 12 2 <| cP 44 (.bool (hasXL BB (XS.getD i 0))) (fun w hT => regHasX A7 g8 0 k9 cp10 BB (XS.getD i 0) w (hT.viewRo (.cons (i := 2) rfl Vw.rowRd .nil) rfl) (by omega)) <| dX 0 [] <| dO 13 1 <| call_pureF (d := 45) (.bool (kf (hasXL AA (XS.getD i 0)) (hasXL BB (XS.getD i 0)))) (by kernel_rfl) hE (fun w hT => hf (hasXL AA (XS.getD i 0)) (hasXL BB (XS.getD i 0)) w) ?_
  refine dX 0 [] <| tD 0 [] [(14, 0)] 0 [14, 13, 12, 6, 11, 10, 5, 4, 9, 8, 7, 3, 2, 1, 0] [(46, .bool (!(kf (hasXL AA (XS.getD i 0)) (hasXL BB (XS.getD i 0)))))] [] <| dD <| zN <| cSp 46 _ rfl (fun c26_ => ?_) fun c26_ => ?_
  ·
   replace c26_ : (kf (hasXL AA (XS.getD i 0)) (hasXL BB (XS.getD i 0))) = false := by simpa using c26_
   have hkeep_ : kf (hasXL AA (XS.getD i 0)) (hasXL BB (XS.getD i 0)) = false := c26_
   refine cTr rfl <| cont_exit <| then_exit <| blk_exit <| zN <| cRg 2 rfl <| bD [0] 1 1 [(88, iq (IntKind.i64.wrap ((i : Int) + 1)))] [] <| wI 88 ((i : Int) + 1) <| bD [0] 2 0 [(29, iq ((i : Int) + 1))] [] <| zDN <| cont_rowEqR 0 (ownL (bandF kf AA BB) y y' XS i) (ownL (bandF kf AA BB) y y' XS (i + 1)) rfl (ownL_skip (f := bandF kf AA BB) hkeep_) ?_
   refine cA (i + 1, kq, Aq, gq, cq) (show (i + 1) ≤ XS.length - 1 ∧ (kq) ≤ (i + 1) from ⟨by omega, by omega⟩)
  replace c26_ : (kf (hasXL AA (XS.getD i 0)) (hasXL BB (XS.getD i 0))) = true := by simpa using c26_
  have hkeep_ : kf (hasXL AA (XS.getD i 0)) (hasXL BB (XS.getD i 0)) = true := c26_
  refine zFKNSSR 4 <| fR 0 kq Aq gq cq (ownL (bandF kf AA BB) y y' XS i) rfl fun hr27_a hr27_l hr27_c hr27_m => ?_
  refine bD [0, 0, 0] 3 1 [(49, iq (IntKind.i64.wrap ((kq : Int) - 1)))] [47, 48] <| wI 49 ((kq : Int) - 1) <| bD [0] 4 0 [(14, iq ((kq : Int) - 1))] [] <| zDNS <| drawn_enter 14 [] rfl (by kernel_rfl) ?_
  refine tD 0 [] [(0, 0), (1, 0), (2, 0)] 11 [2, 1, 0] [(52, .bool (decide (((kq : Int) - 1) ≥ 0)))] [50, 51] <| sD 52 rfl (fun c28_ => ?_) fun c28_ => ?_
  ·
   refine tD 0 [] [(3, 0), (4, 0), (8, 0), (9, 0)] 7 [9, 8, 4, 3, 2, 1, 0] [(53, .slice Aq kq cq), (54, iq ((kq : Int) - 1)), (58, .slice A16 k18 cp19), (59, iq (i : Int))] [] <| rC 53 (.slice (pB gq) kq cq) rfl (by rw [hr27_a (by omega)]) <| sT 0 [] 5 6 55 (Instr.indexAt 58 (.slice (pB gq) kq cq) (iq ((kq : Int) - 1))) (.pointer (some ⟨gq, (Int.toNat ((kq : Int) - 1)) * 4, none⟩)) (fun w hT => rI 53 4 w) <| tD 0 [] [(6, 0)] 5 [6, 5, 9, 8, 4, 3, 2, 1, 0] [(56, .pointer (some ⟨gq, (Int.toNat ((kq : Int) - 1)) * 4 + 2, none⟩))] [] <| sT 0 [] 7 4 57 (Instr.loadAt 3 (.pointer (some ⟨gq, (Int.toNat ((kq : Int) - 1)) * 4 + 2, none⟩))) (iq ((rget (ownL (bandF kf AA BB) y y' XS i) (Int.toNat ((kq : Int) - 1))).x1)) (fun w hT => rL (Rd.cellF0 (Row.rd (hT 0 _ rfl)) (Int.toNat ((kq : Int) - 1)) 2 _ (by omega) rfl)) <| rC 58 (.slice (pB g17) k18 cp19) rfl (by rw [hr22_a (by omega)]) <| sT 0 [] 10 3 60 (Instr.indexAt 34 (.slice (pB g17) k18 cp19) (iq (i : Int))) (.pointer (some ⟨g17, i, none⟩)) (fun w hT => rI 3 1 w) <| sT 0 [] 11 2 61 (Instr.loadAt 3 (.pointer (some ⟨g17, i, none⟩))) (iq (XS.getD i 0)) (fun w hT => rL (Row.cell (hT 1 _ rfl) (i) _ (ivals_get (by omega)))) <| tD 0 [] [(12, 0), (13, 0)] 0 [13, 12, 11, 10, 7, 6, 5, 9, 8, 4, 3, 2, 1, 0] [(62, .bool (((rget (ownL (bandF kf AA BB) y y' XS i) (Int.toNat ((kq : Int) - 1))).x1) == (XS.getD i 0))), (63, .bool (((rget (ownL (bandF kf AA BB) y y' XS i) (Int.toNat ((kq : Int) - 1))).x1) == (XS.getD i 0)))] [] <| dD <| zN <| cSp 63 _ rfl (fun c29_ => ?_) fun c29_ => ?_
   ·
    refine rC 62 (.bool true) rfl (congrArg Value.bool c29_) ?_
    replace c29_ := eq_of_beqt c29_
    refine zTSR 10 <| bD [0, 0, 0, 0, 0] 5 5 [(64, .slice Aq kq cq), (65, iq ((kq : Int) - 1)), (66, .slice A16 k18 cp19), (68, iq (IntKind.i64.wrap ((i : Int) + 1)))] [67] <| rC 68 (iq ((i + 1 : Nat) : Int)) rfl (by rw [show (((i + 1 : Nat) : Int)) = (i : Int) + 1 by omega]; exact wrapI (by omega) (by omega)) <| pS 6 4 <| rC 66 (.slice (pB g17) k18 cp19) rfl (by rw [hr22_a (by omega)]) <| sS 69 (Instr.indexAt 34 (.slice (pB g17) k18 cp19) (iq ((i + 1 : Nat) : Int))) (.pointer (some ⟨g17, (i + 1 : Nat), none⟩)) (fun w hT => rI 3 1 w) <| pS 7 3 <| sS 70 (Instr.loadAt 3 (.pointer (some ⟨g17, (i + 1 : Nat), none⟩))) (iq (XS.getD (i + 1 : Nat) 0)) (fun w hT => rL (Row.cell (hT.ok 1 _ rfl) ((i + 1 : Nat)) _ (ivals_get (by omega)))) <| pS 8 2 <| rC 64 (.slice (pB gq) kq cq) rfl (by rw [hr27_a (by omega)]) <| sS 71 (Instr.indexAt 58 (.slice (pB gq) kq cq) (iq ((kq : Int) - 1))) (.pointer (some ⟨gq, (Int.toNat ((kq : Int) - 1)) * 4, none⟩)) (fun w hT => rI 53 4 w) <| bD [0] 9 1 [(72, .pointer (some ⟨gq, (Int.toNat ((kq : Int) - 1)) * 4 + 2, none⟩))] [] <| pS 10 0 <| sem_stepU (Instr.storeAt 3 (.pointer (some ⟨gq, (Int.toNat ((kq : Int) - 1)) * 4 + 2, none⟩)) (iq (XS.getD (i + 1 : Nat) 0))) (fun _ => [.gen (rowE (Aq) gq kq cq 53 4 (rvals ((ownL (bandF kf AA BB) y y' XS i).set (Int.toNat ((kq : Int) - 1)) { rget (ownL (bandF kf AA BB) y y' XS i) (Int.toNat ((kq : Int) - 1)) with x1 := XS.getD (i + 1 : Nat) 0 })) true), .gen (rowE (A16) g17 k18 cp19 3 1 (iV XS) true), .gen (rowE (A7) g8 k9 cp10 53 4 (rvals BB) true), .gen (rowE (A1) g2 k3 cp4 53 4 (rvals AA) true), rD (A) g o n 4 (rvals xs), rD (A') g' o' n' 4 (rvals xs')]) (fun _ => True) (by kernel_rfl) (fun w hT => store_fieldR hT (i := 0) (J := Int.toNat ((kq : Int) - 1)) (k := 2) { rget (ownL (bandF kf AA BB) y y' XS i) (Int.toNat ((kq : Int) - 1)) with x1 := XS.getD (i + 1 : Nat) 0 } rfl (by kernel_rfl) (by omega) (by decide) (by omega) rfl) (fun _ _ => ?_)
    refine zDN <| cont_exit <| then_exit <| blk_exit <| zN <| cRg 2 rfl <| bD [0] 1 1 [(88, iq (IntKind.i64.wrap ((i : Int) + 1)))] [] <| wI 88 ((i : Int) + 1) <| bS [0] 2 0 [(0, .slice A1 k3 cp4), (1, .slice A7 k9 cp10), (2, iq y), (3, iq y'), (4, .func (.func fk) #[] #[]), (11, .slice A16 k18 cp19), (12, .slice Aq kq cq), (28, iq ((XS.length - 1 : Nat) : Int)), (29, iq ((i : Int) + 1)), (53, .slice (pB gq) kq cq), (54, iq ((kq : Int) - 1)), (55, .pointer (some ⟨gq, (Int.toNat ((kq : Int) - 1)) * 4, none⟩)), (56, .pointer (some ⟨gq, (Int.toNat ((kq : Int) - 1)) * 4 + 2, none⟩)), (57, iq ((rget (ownL (bandF kf AA BB) y y' XS i) (Int.toNat ((kq : Int) - 1))).x1)), (58, .slice (pB g17) k18 cp19), (59, iq (i : Int)), (60, .pointer (some ⟨g17, i, none⟩)), (61, iq (XS.getD i 0)), (62, .bool true)] <| zDN <| cont_rowEqR 0 ((ownL (bandF kf AA BB) y y' XS i).set (Int.toNat ((kq : Int) - 1)) { rget (ownL (bandF kf AA BB) y y' XS i) (Int.toNat ((kq : Int) - 1)) with x1 := XS.getD (i + 1 : Nat) 0 }) (ownL (bandF kf AA BB) y y' XS (i + 1)) rfl (ownL_put (f := bandF kf AA BB) hkeep_ (by omega) c29_) ?_
    refine cA (i + 1, kq, Aq, gq, cq) (show (i + 1) ≤ XS.length - 1 ∧ (kq) ≤ (i + 1) from ⟨by omega, by omega⟩)
   refine rC 62 (.bool false) rfl (congrArg Value.bool c29_) ?_
   replace c29_ := ne_of_beqf c29_
   refine cFa rfl <| cont_skip <| zN <| drawn_enter 16 [0] rfl (by kernel_rfl) ?_
   refine tD 0 [0] [(0, 0), (1, 0), (2, 0), (5, 0), (6, 0), (7, 0), (11, 0)] 9 [11, 7, 6, 5, 2, 1, 0] [(73, .slice Aq kq cq), (74, .slice A16 k18 cp19), (75, iq (i : Int)), (78, iq y), (79, .slice A16 k18 cp19), (80, iq (i : Int)), (84, iq y')] [] <| rC 74 (.slice (pB g17) k18 cp19) rfl (by rw [hr22_a (by omega)]) <| sT 0 [0] 3 8 76 (Instr.indexAt 34 (.slice (pB g17) k18 cp19) (iq (i : Int))) (.pointer (some ⟨g17, i, none⟩)) (fun w hT => rI 3 1 w) <| sT 0 [0] 4 7 77 (Instr.loadAt 3 (.pointer (some ⟨g17, i, none⟩))) (iq (XS.getD i 0)) (fun w hT => rL (Row.cell (hT 1 _ rfl) (i) _ (ivals_get (by omega)))) <| tD 0 [0] [(8, 0)] 6 [8, 4, 3, 11, 7, 6, 5, 2, 1, 0] [(81, iq (IntKind.i64.wrap ((i : Int) + 1)))] [] <| rC 81 (iq ((i + 1 : Nat) : Int)) rfl (by rw [show (((i + 1 : Nat) : Int)) = (i : Int) + 1 by omega]; exact wrapI (by omega) (by omega)) <| rC 79 (.slice (pB g17) k18 cp19) rfl (by rw [hr22_a (by omega)]) <| sT 0 [0] 9 5 82 (Instr.indexAt 34 (.slice (pB g17) k18 cp19) (iq ((i + 1 : Nat) : Int))) (.pointer (some ⟨g17, (i + 1 : Nat), none⟩)) (fun w hT => rI 3 1 w) <| sT 0 [0] 10 4 83 (Instr.loadAt 3 (.pointer (some ⟨g17, (i + 1 : Nat), none⟩))) (iq (XS.getD (i + 1 : Nat) 0)) (fun w hT => rL (Row.cell (hT 1 _ rfl) ((i + 1 : Nat)) _ (ivals_get (by omega)))) <| tD 0 [0] [(12, 0)] 3 [12, 10, 9, 8, 4, 3, 11, 7, 6, 5, 2, 1, 0] [(85, .agg #[iq (XS.getD i 0), iq y, iq (XS.getD (i + 1 : Nat) 0), iq y'])] [] <| dO 13 2 <| one_step1 0 (fun b30 => [(0, .slice A1 k3 cp4), (1, .slice A7 k9 cp10), (2, iq y), (3, iq y'), (4, .func (.func fk) #[] #[]), (11, .slice A16 k18 cp19), (12, .slice Aq kq cq), (28, iq ((XS.length - 1 : Nat) : Int)), (29, iq (i : Int)), (53, .slice (pB gq) kq cq), (54, iq ((kq : Int) - 1)), (55, .pointer (some ⟨gq, (Int.toNat ((kq : Int) - 1)) * 4, none⟩)), (56, .pointer (some ⟨gq, (Int.toNat ((kq : Int) - 1)) * 4 + 2, none⟩)), (57, iq ((rget (ownL (bandF kf AA BB) y y' XS i) (Int.toNat ((kq : Int) - 1))).x1)), (58, .slice (pB g17) k18 cp19), (59, iq (i : Int)), (60, .pointer (some ⟨g17, i, none⟩)), (61, iq (XS.getD i 0)), (62, .bool false), (73, .slice Aq kq cq), (86, .slice (pB b30) 1 1)]) (fun b30 => [.cells b30 [iq (XS.getD i 0), iq y, iq (XS.getD (i + 1 : Nat) 0), iq y'] 53 true, .gen (rowE (Aq) gq kq cq 53 4 (rvals (ownL (bandF kf AA BB) y y' XS i)) true), .gen (rowE (A16) g17 k18 cp19 3 1 (iV XS) true), .gen (rowE (A7) g8 k9 cp10 53 4 (rvals BB) true), .gen (rowE (A1) g2 k3 cp4 53 4 (rvals AA) true), rD (A) g o n 4 (rvals xs), rD (A') g' o' n' 4 (rvals xs')]) (fun b30 => by kernel_rfl) (fun b30 => by kernel_rfl) (fun b30 => ?_)
   refine dX 1 [0] <| dO 14 1 <| sSW (α := Option Addr × Nat × Nat) 87 (Builtin.append_ #[58, 58] 58 #[.slice Aq kq cq, .slice (pB b30) 1 1]) (fun x_ => .slice x_.1 (kq + 1) x_.2.2) (fun x_ => [.cells b30 [iq (XS.getD i 0), iq y, iq (XS.getD (i + 1 : Nat) 0), iq y'] 53 true, .gen (rowE (x_.1) x_.2.1 (kq + 1) x_.2.2 53 4 (rvals ((ownL (bandF kf AA BB) y y' XS i) ++ [(⟨XS.getD i 0, y, XS.getD (i + 1 : Nat) 0, y'⟩ : Rect)])) true), .gen (rowE (A16) g17 k18 cp19 3 1 (iV XS) true), .gen (rowE (A7) g8 k9 cp10 53 4 (rvals BB) true), .gen (rowE (A1) g2 k3 cp4 53 4 (rvals AA) true), rD (A) g o n 4 (rvals xs), rD (A') g' o' n' 4 (rvals xs')]) (fun _ => True) (by kernel_rfl) (fun w hT => append_own (n' := (kq + 1)) (z := .agg #[iq 0, iq 0, iq 0, iq 0]) hT (i := 1) (bytes := 32) rfl (by kernel_rfl) (by kernel_rfl) rfl (by decide) (by decide) (Rd.ofCells (vals := rvals [(⟨XS.getD i 0, y, XS.getD (i + 1 : Nat) 0, y'⟩ : Rect)]) (hT.ok 0 _ rfl) rfl rfl) (rvals_one [(⟨XS.getD i 0, y, XS.getD (i + 1 : Nat) 0, y'⟩ : Rect)]) (by omega) (rvals_append (ownL (bandF kf AA BB) y y' XS i) [(⟨XS.getD i 0, y, XS.getD (i + 1 : Nat) 0, y'⟩ : Rect)]) rfl) ?_
   rintro ⟨A31, g31, cp31⟩ -
   refine nL [(0, .slice A1 k3 cp4), (1, .slice A7 k9 cp10), (2, iq y), (3, iq y'), (4, .func (.func fk) #[] #[]), (11, .slice A16 k18 cp19), (12, .slice Aq kq cq), (28, iq ((XS.length - 1 : Nat) : Int)), (29, iq (i : Int)), (53, .slice (pB gq) kq cq), (54, iq ((kq : Int) - 1)), (55, .pointer (some ⟨gq, (Int.toNat ((kq : Int) - 1)) * 4, none⟩)), (56, .pointer (some ⟨gq, (Int.toNat ((kq : Int) - 1)) * 4 + 2, none⟩)), (57, iq ((rget (ownL (bandF kf AA BB) y y' XS i) (Int.toNat ((kq : Int) - 1))).x1)), (58, .slice (pB g17) k18 cp19), (59, iq (i : Int)), (60, .pointer (some ⟨g17, i, none⟩)), (61, iq (XS.getD i 0)), (62, .bool false), (73, .slice Aq kq cq), (86, .slice (pB b30) 1 1), (87, .slice A31 (kq + 1) cp31)] ?_
   refine fR 1 (kq + 1) A31 g31 cp31 ((ownL (bandF kf AA BB) y y' XS i) ++ [(⟨XS.getD i 0, y, XS.getD (i + 1 : Nat) 0, y'⟩ : Rect)]) rfl fun hr32_a hr32_l hr32_c hr32_m => ?_
   refine dX 1 [0] <| tD 1 [0] [(15, 0)] 0 [15, 14, 13, 12, 10, 9, 8, 4, 3, 11, 7, 6, 5, 2, 1, 0] [(12, .slice A31 (kq + 1) cp31)] [] <| dD <| blk_normal <| zN <| cRg 2 rfl <| bD [0] 1 1 [(88, iq (IntKind.i64.wrap ((i : Int) + 1)))] [] <| wI 88 ((i : Int) + 1) <| fG 0 <| bD [0] 2 0 [(29, iq ((i : Int) + 1))] [] <| zDN <| cont_rowEqR 0 ((ownL (bandF kf AA BB) y y' XS i) ++ [(⟨XS.getD i 0, y, XS.getD (i + 1 : Nat) 0, y'⟩ : Rect)]) (ownL (bandF kf AA BB) y y' XS (i + 1)) rfl (ownL_new (f := bandF kf AA BB) hkeep_ (fun J hJ he_ => by have hJ2 : J = Int.toNat ((kq : Int) - 1) := (by omega); subst hJ2; exact c29_ he_)) ?_
   refine cA (i + 1, (kq + 1), A31, g31, cp31) (show (i + 1) ≤ XS.length - 1 ∧ ((kq + 1)) ≤ (i + 1) from ⟨by omega, by omega⟩)
  refine tD 0 [] [(3, 0), (4, 0), (8, 0), (9, 0), (5, 0), (10, 0), (6, 0), (11, 0), (7, 0), (12, 0), (13, 0)] 0 [13, 12, 7, 11, 6, 10, 5, 9, 8, 4, 3, 2, 1, 0] [(53, undef), (54, undef), (55, undef), (56, undef), (57, undef), (58, undef), (59, undef), (60, undef), (61, undef), (62, undef), (63, .bool false)] [] <| dD <| zN <| cFa rfl <| cont_skip <| zN <| drawn_enter 16 [0] rfl (by kernel_rfl) ?_
  refine tD 0 [0] [(0, 0), (1, 0), (2, 0), (5, 0), (6, 0), (7, 0), (11, 0)] 9 [11, 7, 6, 5, 2, 1, 0] [(73, .slice Aq kq cq), (74, .slice A16 k18 cp19), (75, iq (i : Int)), (78, iq y), (79, .slice A16 k18 cp19), (80, iq (i : Int)), (84, iq y')] [] <| rC 74 (.slice (pB g17) k18 cp19) rfl (by rw [hr22_a (by omega)]) <| sT 0 [0] 3 8 76 (Instr.indexAt 34 (.slice (pB g17) k18 cp19) (iq (i : Int))) (.pointer (some ⟨g17, i, none⟩)) (fun w hT => rI 3 1 w) <| sT 0 [0] 4 7 77 (Instr.loadAt 3 (.pointer (some ⟨g17, i, none⟩))) (iq (XS.getD i 0)) (fun w hT => rL (Row.cell (hT 1 _ rfl) (i) _ (ivals_get (by omega)))) <| tD 0 [0] [(8, 0)] 6 [8, 4, 3, 11, 7, 6, 5, 2, 1, 0] [(81, iq (IntKind.i64.wrap ((i : Int) + 1)))] [] <| rC 81 (iq ((i + 1 : Nat) : Int)) rfl (by rw [show (((i + 1 : Nat) : Int)) = (i : Int) + 1 by omega]; exact wrapI (by omega) (by omega)) <| rC 79 (.slice (pB g17) k18 cp19) rfl (by rw [hr22_a (by omega)]) <| sT 0 [0] 9 5 82 (Instr.indexAt 34 (.slice (pB g17) k18 cp19) (iq ((i + 1 : Nat) : Int))) (.pointer (some ⟨g17, (i + 1 : Nat), none⟩)) (fun w hT => rI 3 1 w) <| sT 0 [0] 10 4 83 (Instr.loadAt 3 (.pointer (some ⟨g17, (i + 1 : Nat), none⟩))) (iq (XS.getD (i + 1 : Nat) 0)) (fun w hT => rL (Row.cell (hT 1 _ rfl) ((i + 1 : Nat)) _ (ivals_get (by omega)))) <| tD 0 [0] [(12, 0)] 3 [12, 10, 9, 8, 4, 3, 11, 7, 6, 5, 2, 1, 0] [(85, .agg #[iq (XS.getD i 0), iq y, iq (XS.getD (i + 1 : Nat) 0), iq y'])] [] <| dO 13 2 <| one_step1 0 (fun b33 => [(0, .slice A1 k3 cp4), (1, .slice A7 k9 cp10), (2, iq y), (3, iq y'), (4, .func (.func fk) #[] #[]), (11, .slice A16 k18 cp19), (12, .slice Aq kq cq), (28, iq ((XS.length - 1 : Nat) : Int)), (29, iq (i : Int)), (53, undef), (54, undef), (55, undef), (56, undef), (57, undef), (58, undef), (59, undef), (60, undef), (61, undef), (62, undef), (73, .slice Aq kq cq), (86, .slice (pB b33) 1 1)]) (fun b33 => [.cells b33 [iq (XS.getD i 0), iq y, iq (XS.getD (i + 1 : Nat) 0), iq y'] 53 true, .gen (rowE (Aq) gq kq cq 53 4 (rvals (ownL (bandF kf AA BB) y y' XS i)) true), .gen (rowE (A16) g17 k18 cp19 3 1 (iV XS) true), .gen (rowE (A7) g8 k9 cp10 53 4 (rvals BB) true), .gen (rowE (A1) g2 k3 cp4 53 4 (rvals AA) true), rD (A) g o n 4 (rvals xs), rD (A') g' o' n' 4 (rvals xs')]) (fun b33 => by kernel_rfl) (fun b33 => by kernel_rfl) (fun b33 => ?_)
  refine dX 1 [0] <| dO 14 1 <| sSW (α := Option Addr × Nat × Nat) 87 (Builtin.append_ #[58, 58] 58 #[.slice Aq kq cq, .slice (pB b33) 1 1]) (fun x_ => .slice x_.1 (kq + 1) x_.2.2) (fun x_ => [.cells b33 [iq (XS.getD i 0), iq y, iq (XS.getD (i + 1 : Nat) 0), iq y'] 53 true, .gen (rowE (x_.1) x_.2.1 (kq + 1) x_.2.2 53 4 (rvals ((ownL (bandF kf AA BB) y y' XS i) ++ [(⟨XS.getD i 0, y, XS.getD (i + 1 : Nat) 0, y'⟩ : Rect)])) true), .gen (rowE (A16) g17 k18 cp19 3 1 (iV XS) true), .gen (rowE (A7) g8 k9 cp10 53 4 (rvals BB) true), .gen (rowE (A1) g2 k3 cp4 53 4 (rvals AA) true), rD (A) g o n 4 (rvals xs), rD (A') g' o' n' 4 (rvals xs')]) (fun _ => True) (by kernel_rfl) (fun w hT => append_own (n' := (kq + 1)) (z := .agg #[iq 0, iq 0, iq 0, iq 0]) hT (i := 1) (bytes := 32) rfl (by kernel_rfl) (by kernel_rfl) rfl (by decide) (by decide) (Rd.ofCells (vals := rvals [(⟨XS.getD i 0, y, XS.getD (i + 1 : Nat) 0, y'⟩ : Rect)]) (hT.ok 0 _ rfl) rfl rfl) (rvals_one [(⟨XS.getD i 0, y, XS.getD (i + 1 : Nat) 0, y'⟩ : Rect)]) (by omega) (rvals_append (ownL (bandF kf AA BB) y y' XS i) [(⟨XS.getD i 0, y, XS.getD (i + 1 : Nat) 0, y'⟩ : Rect)]) rfl) ?_
  rintro ⟨A34, g34, cp34⟩ -
  refine cM ?_
  refine fR 1 (kq + 1) A34 g34 cp34 ((ownL (bandF kf AA BB) y y' XS i) ++ [(⟨XS.getD i 0, y, XS.getD (i + 1 : Nat) 0, y'⟩ : Rect)]) rfl fun hr35_a hr35_l hr35_c hr35_m => ?_
  refine dX 1 [0] <| tD 1 [0] [(15, 0)] 0 [15, 14, 13, 12, 10, 9, 8, 4, 3, 11, 7, 6, 5, 2, 1, 0] [(12, .slice A34 (kq + 1) cp34)] [] <| dD <| blk_normal <| zN <| cRg 2 rfl <| bS [0] 1 1 [(0, .slice A1 k3 cp4), (1, .slice A7 k9 cp10), (2, iq y), (3, iq y'), (4, .func (.func fk) #[] #[]), (11, .slice A16 k18 cp19), (12, .slice A34 (kq + 1) cp34), (28, iq ((XS.length - 1 : Nat) : Int)), (53, undef), (54, undef), (55, undef), (56, undef), (57, undef), (58, undef), (59, undef), (60, undef), (61, undef), (62, undef), (88, iq (IntKind.i64.wrap ((i : Int) + 1)))] <| wI 88 ((i : Int) + 1) <| fG 0 <| bD [0] 2 0 [(29, iq ((i : Int) + 1))] [] <| zDN <| cont_rowEqR 0 ((ownL (bandF kf AA BB) y y' XS i) ++ [(⟨XS.getD i 0, y, XS.getD (i + 1 : Nat) 0, y'⟩ : Rect)]) (ownL (bandF kf AA BB) y y' XS (i + 1)) rfl (ownL_new (f := bandF kf AA BB) hkeep_ (fun J hJ he_ => by omega)) ?_
  refine cA (i + 1, (kq + 1), A34, g34, cp34) (show (i + 1) ≤ XS.length - 1 ∧ ((kq + 1)) ≤ (i + 1) from ⟨by omega, by omega⟩)
 refine zFXxxeNSR 2 <| bS [0, 0] 2 0 [(10, .slice Aq kq cq)] <| zDNr <| rA rfl 0 (.slice Aq kq cq) fun w hT => ?_
 replace hT := hT.erase 5 (fun e h hw => by cases h; first | rfl | cases hw)
 replace hT := hT.erase 4 (fun e h hw => by cases h; first | rfl | cases hw)
 replace hT := hT.erase 3 (fun e h hw => by cases h; first | rfl | cases hw)
 replace hT := hT.erase 2 (fun e h hw => by cases h; first | rfl | cases hw)
 replace hT := hT.erase 1 (fun e h hw => by cases h; first | rfl | cases hw)
 have hi2 : i = XS.length - 1 := by omega
 subst hi2
 subst hXS
 subst hAA
 subst hBB
 exact ⟨_, _, _, _, rfl, hT⟩
theorem eqFuncR (A : Option Addr) (g o n cap : Nat) (xs : List Rect) (A' : Option Addr) (g' o' n' cap' : Nat) (xs' : List Rect) (fk : FuncId) (p : Rect → Rect → Bool) (w : World) (hT0 : Tab w w [rD (A) g o n 4 (rvals xs), rD (A') g' o' n' 4 (rvals xs')]) (hE : Enters Try.prog fk) (hf : ∀ (r q : Rect) (w : World), Calls Try.prog fk #[.agg #[iQ r.x0, iQ r.y0, iQ r.x1, iQ r.y1], .agg #[iQ q.x0, iQ q.y0, iQ q.x1, iQ q.y1]] w fun e w' => e = .returned (.bool (p r q)) ∧ Below w.heap.size w w') (hn : n ≤ 1000000000000) :
    Calls Try.prog 121 #[.slice A n cap, .slice A' n' cap', .func (.func fk) #[] #[]] w fun e w' => e = .returned (.bool (eqF p xs xs')) ∧ Below w.heap.size w w' := by
 obtain ⟨hra, hrl⟩ := Rd.factsR (hT0.ok 0 _ rfl)
 obtain ⟨hra', hrl'⟩ := Rd.factsR (hT0.ok 1 _ rfl)
 refine eN [(0, .slice A n cap), (1, .slice A' n' cap'), (2, .func (.func fk) #[] #[])] Try.func121 Try.ntmps121 rfl hT0 ?_
 refine zSR 1 <| bD [0] 1 0 [] [6] <| zDNSSR 5 <| bD [0, 0, 0, 0, 0] 5 0 [(14, .bool ((n : Int) != ((n' : Nat) : Int)))] [10, 11, 12, 13] <| zDN <| sN 14 rfl (fun c1_ => ?_) fun c1_ => ?_
 ·
  refine zTSR 1 <| bS [0] 1 0 [(6, .bool false)] <| zDNrt <| rA rfl 0 (.bool false) fun w hT => ?_
  exact ⟨ret_bool (by first | exact (eqF_no (j := i) (by omega) (by omega) ‹_›).symm | exact (eqF_len (by omega)).symm), hT.post rfl⟩
 refine zFKNSSR 3 <| bD [0, 0, 0] 3 0 [(15, .slice A n cap), (16, iq (n : Int)), (17, iq 0)] [] <| zDNB <| cL (α := Nat) (fun x_ : Nat => x_ ≤ n ∧ ∀ j, j < x_ → p (rget xs j) (rget xs' j) = true) (fun x_ : Nat => [(1, .slice A' n' cap'), (2, .func (.func fk) #[] #[]), (15, .slice A n cap), (16, iq (n : Int)), (17, iq (x_ : Int))]) (fun x_ : Nat => [rD (A) g o n 4 (rvals xs), rD (A') g' o' n' 4 (rvals xs')]) (fun x_ : Nat => n - x_) 0 (⟨by omega, fun j hj => by omega⟩) ?_
 rintro i hinv2_
 replace hinv2_ : i ≤ n ∧ ∀ j, j < i → p (rget xs j) (rget xs' j) = true := hinv2_
 obtain ⟨hi, hns⟩ := hinv2_
 refine zSR 1 <| bD [0] 1 0 [(18, .bool (decide ((i : Int) < (n : Int))))] [] <| zDNS <| sD 18 rfl (fun c3_ => ?_) fun c3_ => ?_
 ·
  refine zTKNSBSR 6 <| bD [0] 1 5 [(19, iq (i : Int))] [] <| pS 2 4 <| rC 15 (.slice (some ⟨g, o, none⟩) n cap) rfl (by rw [hra (by omega)]) <| sS 20 (Instr.indexAt 58 (.slice (some ⟨g, o, none⟩) n cap) (iq (i : Int))) (.pointer (some ⟨g, o + i * 4, none⟩)) (fun w hT => rI 53 4 w) <| pS 3 3 <| sS 21 (Instr.loadAt 53 (.pointer (some ⟨g, o + i * 4, none⟩))) (.agg #[iq ((rget xs i).x0), iq ((rget xs i).y0), iq ((rget xs i).x1), iq ((rget xs i).y1)]) (fun w hT => rM 4 (rcells (rget xs i)) (Rd.rect (hT.ok 0 _ rfl) (by omega))) <| bW [0, 0, 0] 6 0 (fun b4 => [(1, .slice A' n' cap'), (2, .func (.func fk) #[] #[]), (7, iq (i : Int)), (8, .pointer (pB b4)), (15, .slice (some ⟨g, o, none⟩) n cap), (16, iq (n : Int)), (17, iq (i : Int))]) (fun b4 => [.cells b4 [iq ((rget xs i).x0), iq ((rget xs i).y0), iq ((rget xs i).x1), iq ((rget xs i).y1)] 53 true, rD (A) g o n 4 (rvals xs), rD (A') g' o' n' 4 (rvals xs')]) [1, 2, 7, 8, 15, 16, 17] fun b4 => ?_
  refine zDNSR 6 <| bD [0, 0] 2 4 [(22, .slice A' n' cap'), (23, iq (i : Int))] [] <| pS 3 3 <| rC 22 (.slice (some ⟨g', o', none⟩) n' cap') rfl (by rw [hra' (by omega)]) <| sS 24 (Instr.indexAt 58 (.slice (some ⟨g', o', none⟩) n' cap') (iq (i : Int))) (.pointer (some ⟨g', o' + i * 4, none⟩)) (fun w hT => rI 53 4 w) <| pS 4 2 <| sS 25 (Instr.loadAt 53 (.pointer (some ⟨g', o' + i * 4, none⟩))) (.agg #[iq ((rget xs' i).x0), iq ((rget xs' i).y0), iq ((rget xs' i).x1), iq ((rget xs' i).y1)]) (fun w hT => rM 4 (rcells (rget xs' i)) (Rd.rect (hT.ok 2 _ rfl) (by omega))) <| bW [0, 0] 6 0 (fun b5 => [(1, .slice A' n' cap'), (2, .func (.func fk) #[] #[]), (8, .pointer (pB b4)), (9, .pointer (pB b5)), (15, .slice (some ⟨g, o, none⟩) n cap), (16, iq (n : Int)), (17, iq (i : Int))]) (fun b5 => [.cells b5 [iq ((rget xs' i).x0), iq ((rget xs' i).y0), iq ((rget xs' i).x1), iq ((rget xs' i).y1)] 53 true, .cells b4 [iq ((rget xs i).x0), iq ((rget xs i).y0), iq ((rget xs i).x1), iq ((rget xs i).y1)] 53 true, rD (A) g o n 4 (rvals xs), rD (A') g' o' n' 4 (rvals xs')]) [1, 2, 8, 9, 15, 16, 17] fun b5 => ?_
  refine zDNSR 5 <| bD [0, 1, 0] 3 2 [(26, .func (.func fk) #[] #[]), (27, .agg #[iq ((rget xs i).x0), iq ((rget xs i).y0), iq ((rget xs i).x1), iq ((rget xs i).y1)]), (28, .agg #[iq ((rget xs' i).x0), iq ((rget xs' i).y0), iq ((rget xs' i).x1), iq ((rget xs' i).y1)])] [] <| fG 0 <| fG 0 <| pS 4 1 <| call_pureF (d := 29) (.bool (p (rget xs i) (rget xs' i))) (by kernel_rfl) hE (fun w hT => hf (rget xs i) (rget xs' i) w) ?_
  refine bD [0] 5 0 [(30, .bool (!(p (rget xs i) (rget xs' i))))] [] <| zDN <| cSp 30 _ rfl (fun c6_ => ?_) fun c6_ => ?_
  ·
   replace c6_ : (p (rget xs i) (rget xs' i)) = false := by simpa using c6_
   refine zTSR 1 <| bS [0] 1 0 [(6, .bool false)] <| zDNruttut <| rA rfl 0 (.bool false) fun w hT => ?_
   exact ⟨ret_bool (by first | exact (eqF_no (j := i) (by omega) (by omega) ‹_›).symm | exact (eqF_len (by omega)).symm), hT.post rfl⟩
  replace c6_ : (p (rget xs i) (rget xs' i)) = true := by simpa using c6_
  refine zFKbNR 2 <| bD [0] 1 1 [(31, iq (IntKind.i64.wrap ((i : Int) + 1)))] [] <| wI 31 ((i : Int) + 1) <| bD [0] 2 0 [(17, iq ((i : Int) + 1))] [] <| zDN <| rC 15 (.slice A n cap) rfl (by rw [hra (by omega)]) <| cA (i + 1) (show (i + 1) ≤ n ∧ ∀ j, j < (i + 1) → p (rget xs j) (rget xs' j) = true from ⟨by omega, fun j hj => by rcases Nat.lt_succ_iff_lt_or_eq.1 hj with h_ | h_; exact hns j h_; subst h_; assumption⟩)
 refine zFXxxeNSR 1 <| bS [0] 1 0 [(6, .bool true)] <| zDNr <| rA rfl 0 (.bool true) fun w hT => ?_
 exact ⟨ret_bool (eqF_all (by omega) (fun j hj => hns j (by omega))).symm, hT.post rfl⟩
theorem alike1W (r q : Rect) (w : World) :
    Calls Try.prog 122 #[.agg #[iQ r.x0, iQ r.y0, iQ r.x1, iQ r.y1], .agg #[iQ q.x0, iQ q.y0, iQ q.x1, iQ q.y1]] w fun e w' => e = .returned (.bool (alike1 r q)) ∧ Below w.heap.size w w' := by
 refine eN [(0, .agg #[iq r.x0, iq r.y0, iq r.x1, iq r.y1]), (1, .agg #[iq q.x0, iq q.y0, iq q.x1, iq q.y1])] Try.func122 Try.ntmps122 rfl (Tab.start w) ?_
 refine zSR 3 <| batch2 [0, 0, 0] 3 0 (fun b1 b2 => [(2, .pointer (pB b1)), (3, .pointer (pB b2))]) (fun b1 b2 => [.cells b2 [iq q.x0, iq q.y0, iq q.x1, iq q.y1] 53 true, .cells b1 [iq r.x0, iq r.y0, iq r.x1, iq r.y1] 53 true]) rfl rfl [2, 3] (fun _ _ => rfl) (fun b1 b2 => by kernel_rfl) (fun b1 b2 => by kernel_rfl) (fun b1 b2 => ?_)
 refine zDNSR 20 <| bD [0, 1, 0, 0, 0, 0] 6 14 [(10, .bool (r.x0 == q.x0))] [5, 6, 7, 8, 9] <| sE 10 rfl (fun c3_ => ?_) fun c3_ => ?_
 ·
  refine bD [0, 1, 0, 0, 0, 0, 0] 13 7 [(17, .bool (r.x1 == q.x1))] [11, 12, 13, 14, 15, 16] <| sE 17 rfl (fun c4_ => ?_) fun c4_ => ?_
  ·
   refine bS [0, 1, 0, 0, 0, 0, 0] 20 0 [(4, .bool (r.y1 == q.y0))] <| fG 0 <| fG 0 <| zDNr <| rA rfl 0 (.bool (r.y1 == q.y0)) fun w hT => ?_
   exact ⟨ret_bool (by unfold alike1; rw [Bool.eq_iff_iff]; simp_all), hT.post rfl⟩
  refine bS [0, 0, 0, 0, 0, 0, 0] 20 0 [(4, .bool false)] <| fG 0 <| fG 0 <| zDNr <| rA rfl 0 (.bool false) fun w hT => ?_
  exact ⟨ret_bool (by unfold alike1; rw [Bool.eq_iff_iff]; simp_all), hT.post rfl⟩
 refine bS [0, 0, 0, 0, 0, 0, 0, 0, 0, 0, 0, 0, 0, 0] 20 0 [(4, .bool false)] <| fG 0 <| fG 0 <| zDNr <| rA rfl 0 (.bool false) fun w hT => ?_
 exact ⟨ret_bool (by unfold alike1; rw [Bool.eq_iff_iff]; simp_all), hT.post rfl⟩
theorem regAlike (A : Option Addr) (g o n cap : Nat) (xs : List Rect) (A' : Option Addr) (g' o' n' cap' : Nat) (xs' : List Rect) (w : World) (hT0 : Tab w w [rD (A) g o n 4 (rvals xs), rD (A') g' o' n' 4 (rvals xs')]) (hn : n ≤ 1000000000000) :
    Calls Try.prog 108 #[.slice A n cap, .slice A' n' cap'] w fun e w' => e = .returned (.bool (alikeL xs xs')) ∧ Below w.heap.size w w' := by
 obtain ⟨hra, hrl⟩ := Rd.factsR (hT0.ok 0 _ rfl)
 obtain ⟨hra', hrl'⟩ := Rd.factsR (hT0.ok 1 _ rfl)
 refine eN [(0, .slice A n cap), (1, .slice A' n' cap')] Try.func108 Try.ntmps108 rfl hT0 ?_
 refine zSR 1 <| bD [0] 1 0 [] [4] <| zDNSR 9 <| bD [0, 0, 0, 0] 4 5 [(8, .bool (decide ((n : Int) > 0)))] [5, 6, 7] <| sD 8 rfl (fun c1_ => ?_) fun c1_ => ?_
 ·
  refine bD [0, 0] 6 3 [(9, .slice A n cap), (10, .slice A' n' cap')] [] <| pS 7 2 <| cP 11 (.bool (eqF alike1 xs xs')) (fun w hT => eqFuncR A g o n cap xs A' g' o' n' cap' xs' 122 alike1 w (hT.viewRo (.cons (i := 0) rfl Vw.rd (.cons (i := 1) rfl Vw.rd .nil)) rfl) (fun _ => by kernel_rfl) (fun r q w => alike1W r q w) (by omega)) <| bS [0, 0] 9 0 [(4, .bool (eqF alike1 xs xs'))] <| zDNr <| rA rfl 0 (.bool (eqF alike1 xs xs')) fun w hT => ?_
  exact ⟨ret_bool (by unfold alikeL; rw [decide_eq_true (show 0 < xs.length by omega)]; rfl), hT.post rfl⟩
 refine bS [0, 0, 0, 0, 0] 9 0 [(4, .bool false)] <| zDNr <| rA rfl 0 (.bool false) fun w hT => ?_
 exact ⟨ret_bool (by unfold alikeL; rw [decide_eq_false (show ¬ 0 < xs.length by omega)]; rfl), hT.post rfl⟩
theorem regMerge (A : Option Addr) (g o n cap : Nat) (xs : List Rect) (A' : Option Addr) (g' o' n' cap' : Nat) (xs' : List Rect) (fk : FuncId) (kf : Bool → Bool → Bool) (w : World) (hT0 : Tab w w [rD (A) g o n 4 (rvals xs), rD (A') g' o' n' 4 (rvals xs')]) (hE : Enters Try.prog fk) (hf : ∀ (p q : Bool) (w : World), Calls Try.prog fk #[.bool p, .bool q] w fun e w' => e = .returned (.bool (kf p q)) ∧ Below w.heap.size w w') (hn : n + n' ≤ 262144) :
    Calls Try.prog 86 #[.slice A n cap, .slice A' n' cap', .func (.func fk) #[] #[]] w fun e w' => ∃ (A_ : Option Addr) (g_ k_ cp_ : Nat), e = .returned (.slice A_ k_ cp_) ∧ Tab w w' [.gen (rowE (A_) g_ k_ cp_ 53 4 (rvals (regM kf xs xs')) true)] := by
 obtain ⟨hra, hrl⟩ := Rd.factsR (hT0.ok 0 _ rfl)
 obtain ⟨hra', hrl'⟩ := Rd.factsR (hT0.ok 1 _ rfl)
 refine eN [(0, .slice A n cap), (1, .slice A' n' cap'), (2, .func (.func fk) #[] #[])] Try.func86 Try.ntmps86 rfl hT0 ?_
 refine zSR 1 <| bD [0] 1 0 [] [6] <| zDNSR 5 <| bW [0, 0, 0] 3 2 (fun b1 => [(0, .slice A n cap), (1, .slice A' n' cap'), (2, .func (.func fk) #[] #[]), (15, .slice (pB b1) 2 2)]) (fun b1 => [.cells b1 [.slice A n cap, .slice A' n' cap'] 58 true, rD (A) g o n 4 (rvals xs), rD (A') g' o' n' 4 (rvals xs')]) [0, 1, 2, 15] fun b1 => ?_
 refine pS 4 1 <| cG (d := 16) (α := Option Addr × Nat × Nat × Nat) (fun x_ => .slice x_.1 x_.2.2.1 x_.2.2.2) (fun x_ => [.gen (rowE (x_.1) x_.2.1 x_.2.2.1 x_.2.2.2 3 1 (iV (gridL (evY xs ++ evY xs'))) true), .cells b1 [.slice A n cap, .slice A' n' cap'] 58 true, rD (A) g o n 4 (rvals xs), rD (A') g' o' n' 4 (rvals xs')]) (fun x_ => True) (fun w hT => (regEdges 106 (fun r : Rect => r.y0) (fun r : Rect => r.y1) b1 A g o n cap xs A' g' o' n' cap' xs' w (hT.viewRo (.cons (i := 0) rfl Vw.roc (.cons (i := 1) rfl Vw.rd (.cons (i := 2) rfl Vw.rd .nil))) rfl) (fun _ => by kernel_rfl) (fun r w => sideY r.x0 r.y0 r.x1 r.y1 w) (by omega)).mono fun e w' ⟨A2, g3, k4, cp5, he_, ht_⟩ => ⟨(A2, g3, k4, cp5), he_, trivial, hT.news ht_ rfl⟩) ?_
 rintro ⟨A2, g3, k4, cp5⟩ hf6_
 refine cM ?_
 refine fI 0 k4 A2 g3 cp5 (gridL (evY xs ++ evY xs')) rfl fun hr7_a hr7_l hr7_c hr7_m => ?_
 refine bD [0] 5 0 [(7, .slice A2 k4 cp5)] [] <| fG 1 <| zDNSR 2 <| bD [0, 0] 2 0 [(8, .slice none 0 0), (9, .slice none 0 0)] [] <| zDNSSR 5 ?_
 obtain ⟨YS, hYS⟩ : ∃ y_ : List Int, y_ = (gridL (evY xs ++ evY xs')) := ⟨_, rfl⟩
 refine cont_rowEq (k := .i64) 0 (gridL (evY xs ++ evY xs')) (YS) rfl hYS.symm ?_
 refine fI 0 k4 A2 g3 cp5 YS rfl fun hr8_a hr8_l hr8_c hr8_m => ?_
 have hbY : YS.length ≤ 2 * (n + n') := by have := ysP_length xs xs'; rw [hYS]; unfold ysP at this; omega
 refine bD [0, 0, 0] 3 2 [(19, iq (IntKind.i64.wrap ((k4 : Int) - 1)))] [17, 18] <| wI 19 ((k4 : Int) - 1) <| bD [0, 0] 5 0 [(20, iq (mx ((k4 : Int) - 1) 0)), (21, iq 0)] [] <| zDNB <| rC 20 (iq ((YS.length - 1 : Nat) : Int)) rfl (congrArg (Value.int .i64) (by unfold mx; omega)) <| cont_nilrow 53 4 ?_
 refine cM ?_
 refine cont_nilrow 53 4 ?_
 refine cM ?_
 refine cont_rowEqR 0 ([]) ((mgG (fun a b _ => alikeL a b) (bandP kf xs xs') YS 0).1) rfl rfl ?_
 refine cont_rowEqR 1 ([]) ((mgG (fun a b _ => alikeL a b) (bandP kf xs xs') YS 0).2) rfl rfl ?_
 refine cL (α := Nat × Nat × Option Addr × Nat × Nat × Nat × Option Addr × Nat × Nat) (fun x_ : Nat × Nat × Option Addr × Nat × Nat × Nat × Option Addr × Nat × Nat => x_.1 ≤ YS.length - 1) (fun x_ : Nat × Nat × Option Addr × Nat × Nat × Nat × Option Addr × Nat × Nat => [(0, .slice A n cap), (1, .slice A' n' cap'), (2, .func (.func fk) #[] #[]), (7, .slice A2 k4 cp5), (8, .slice x_.2.2.1 x_.2.1 x_.2.2.2.2.1), (9, .slice x_.2.2.2.2.2.2.1 x_.2.2.2.2.2.1 x_.2.2.2.2.2.2.2.2), (20, iq ((YS.length - 1 : Nat) : Int)), (21, iq (x_.1 : Int))]) (fun x_ : Nat × Nat × Option Addr × Nat × Nat × Nat × Option Addr × Nat × Nat => [.gen (rowE (x_.2.2.1) x_.2.2.2.1 x_.2.1 x_.2.2.2.2.1 53 4 (rvals ((mgG (fun a b _ => alikeL a b) (bandP kf xs xs') YS x_.1).1)) true), .gen (rowE (x_.2.2.2.2.2.2.1) x_.2.2.2.2.2.2.2.1 x_.2.2.2.2.2.1 x_.2.2.2.2.2.2.2.2 53 4 (rvals ((mgG (fun a b _ => alikeL a b) (bandP kf xs xs') YS x_.1).2)) true), .gen (rowE (A2) g3 k4 cp5 3 1 (iV YS) true), rD (A) g o n 4 (rvals xs), rD (A') g' o' n' 4 (rvals xs')]) (fun x_ : Nat × Nat × Option Addr × Nat × Nat × Nat × Option Addr × Nat × Nat => YS.length - 1 - x_.1) (0, 0, none, 0, 0, 0, none, 0, 0) (show (0) ≤ YS.length - 1 from (by omega)) ?_
 rintro ⟨i, kq, Aq, gq, cq, kr, Ar, gr, cr⟩ hinv11_
 replace hinv11_ : i ≤ YS.length - 1 := hinv11_
 refine cM ?_
 have hi := hinv11_
 have hmb := mgG_bound (al := (fun a b _ => alikeL a b)) (own := (bandP kf xs xs')) (ys := YS) (m := 2 * (xs.length + xs'.length)) (i := i) (fun a b => bandP_length kf xs xs' a b) (by omega) (by omega)
 refine zSR 1 <| bD [0] 1 0 [(22, .bool (decide ((i : Int) < ((YS.length - 1 : Nat) : Int))))] [] <| zDNS <| sD 22 rfl (fun c12_ => ?_) fun c12_ => ?_
 ·
  refine zTKNSBSR 2 <| fR 0 kq Aq gq cq ((mgG (fun a b _ => alikeL a b) (bandP kf xs xs') YS i).1) rfl fun hr13_a hr13_l hr13_c hr13_m => ?_
  refine fR 1 kr Ar gr cr ((mgG (fun a b _ => alikeL a b) (bandP kf xs xs') YS i).2) rfl fun hr14_a hr14_l hr14_c hr14_m => ?_
  refine bD [0, 0] 2 0 [(10, iq (i : Int))] [23] <| zDNS <| drawn_enter 14 [] rfl (by kernel_rfl) ?_
  refine tD 0 [] [(0, 0), (1, 0), (2, 0), (3, 0), (6, 0), (7, 0), (11, 0)] 7 [11, 7, 6, 3, 2, 1, 0] [(24, .slice A n cap), (25, .slice A' n' cap'), (26, .slice A2 k4 cp5), (27, iq (i : Int)), (30, .slice A2 k4 cp5), (31, iq (i : Int)), (35, .func (.func fk) #[] #[])] [] <| rC 26 (.slice (pB g3) k4 cp5) rfl (by rw [hr8_a (by omega)]) <| sT 0 [] 4 6 28 (Instr.indexAt 34 (.slice (pB g3) k4 cp5) (iq (i : Int))) (.pointer (some ⟨g3, i, none⟩)) (fun w hT => rI 3 1 w) <| sT 0 [] 5 5 29 (Instr.loadAt 3 (.pointer (some ⟨g3, i, none⟩))) (iq (YS.getD i 0)) (fun w hT => rL (Row.cell (hT 2 _ rfl) (i) _ (ivals_get (by omega)))) <| tD 0 [] [(8, 0)] 4 [8, 5, 4, 11, 7, 6, 3, 2, 1, 0] [(32, iq (IntKind.i64.wrap ((i : Int) + 1)))] [] <| rC 32 (iq ((i + 1 : Nat) : Int)) rfl (by rw [show (((i + 1 : Nat) : Int)) = (i : Int) + 1 by omega]; exact wrapI (by omega) (by omega)) <| rC 30 (.slice (pB g3) k4 cp5) rfl (by rw [hr8_a (by omega)]) <| sT 0 [] 9 3 33 (Instr.indexAt 34 (.slice (pB g3) k4 cp5) (iq ((i + 1 : Nat) : Int))) (.pointer (some ⟨g3, (i + 1 : Nat), none⟩)) (fun w hT => rI 3 1 w) <| sT 0 [] 10 2 34 (Instr.loadAt 3 (.pointer (some ⟨g3, (i + 1 : Nat), none⟩))) (iq (YS.getD (i + 1 : Nat) 0)) (fun w hT => rL (Row.cell (hT 2 _ rfl) ((i + 1 : Nat)) _ (ivals_get (by omega)))) <| dO 12 1 <| cG (d := 36) (α := Option Addr × Nat × Nat × Nat) (fun x_ => .slice x_.1 x_.2.2.1 x_.2.2.2) (fun x_ => [.gen (rowE (x_.1) x_.2.1 x_.2.2.1 x_.2.2.2 53 4 (rvals (bandP kf xs xs' (YS.getD i 0) (YS.getD (i + 1 : Nat) 0))) true), .gen (rowE (Aq) gq kq cq 53 4 (rvals ((mgG (fun a b _ => alikeL a b) (bandP kf xs xs') YS i).1)) true), .gen (rowE (Ar) gr kr cr 53 4 (rvals ((mgG (fun a b _ => alikeL a b) (bandP kf xs xs') YS i).2)) true), .gen (rowE (A2) g3 k4 cp5 3 1 (iV YS) true), rD (A) g o n 4 (rvals xs), rD (A') g' o' n' 4 (rvals xs')]) (fun x_ => True) (fun w hT => (regBand A g o n cap xs A' g' o' n' cap' xs' (YS.getD i 0) (YS.getD (i + 1 : Nat) 0) fk kf w (hT.viewRo (.cons (i := 3) rfl Vw.rd (.cons (i := 4) rfl Vw.rd .nil)) rfl) hE hf (by omega)).mono fun e w' ⟨A15, g16, k17, cp18, he_, ht_⟩ => ⟨(A15, g16, k17, cp18), he_, trivial, hT.news ht_ rfl⟩) ?_
  rintro ⟨A15, g16, k17, cp18⟩ hf19_
  refine cM ?_
  refine fR 0 k17 A15 g16 cp18 (bandP kf xs xs' (YS.getD i 0) (YS.getD (i + 1 : Nat) 0)) rfl fun hr20_a hr20_l hr20_c hr20_m => ?_
  refine dX 1 [] <| tD 1 [] [(13, 0)] 0 [13, 12, 10, 9, 8, 5, 4, 11, 7, 6, 3, 2, 1, 0] [(11, .slice A15 k17 cp18)] [] <| dD <| zN <| zSSR 3 <| bD [0, 0] 2 1 [(37, .slice Ar kr cr), (38, .slice A15 k17 cp18)] [] <| pS 3 0 <| cP 39 (.bool (alikeL ((mgG (fun a b _ => alikeL a b) (bandP kf xs xs') YS i).2) (bandP kf xs xs' (YS.getD i 0) (YS.getD (i + 1 : Nat) 0)))) (fun w hT => regAlike Ar gr 0 kr cr ((mgG (fun a b _ => alikeL a b) (bandP kf xs xs') YS i).2) A15 g16 0 k17 cp18 (bandP kf xs xs' (YS.getD i 0) (YS.getD (i + 1 : Nat) 0)) w (hT.viewRo (.cons (i := 2) rfl Vw.rowRd (.cons (i := 0) rfl Vw.rowRd .nil)) rfl) (by omega)) <| zDN <| cSp 39 _ rfl (fun c21_ => ?_) fun c21_ => ?_
  ·
   have hal_ : alikeL (mgG (fun a b _ => alikeL a b) (bandP kf xs xs') YS i).2 (bandP kf xs xs' (YS.getD i 0) (YS.getD (i + 1) 0)) = true := c21_
   refine cTr rfl <| zSSR 3 <| bD [0, 0, 0] 3 0 [(41, iq (kr : Int)), (42, iq 0)] [40] <| zDNB <| cont_rowEqR 2 ((mgG (fun a b _ => alikeL a b) (bandP kf xs xs') YS i).2) (setY1 (YS.getD (i + 1) 0) ((mgG (fun a b _ => alikeL a b) (bandP kf xs xs') YS i).2.take 0) ++ (mgG (fun a b _ => alikeL a b) (bandP kf xs xs') YS i).2.drop 0) rfl setY1_zero ?_
   refine cL (α := Nat) (fun x_ : Nat => x_ ≤ kr) (fun x_ : Nat => [(0, .slice A n cap), (1, .slice A' n' cap'), (2, .func (.func fk) #[] #[]), (7, .slice A2 k4 cp5), (8, .slice Aq kq cq), (9, .slice Ar kr cr), (10, iq (i : Int)), (20, iq ((YS.length - 1 : Nat) : Int)), (21, iq (i : Int)), (41, iq (kr : Int)), (42, iq (x_ : Int))]) (fun x_ : Nat => [.gen (rowE (A15) g16 k17 cp18 53 4 (rvals (bandP kf xs xs' (YS.getD i 0) (YS.getD (i + 1 : Nat) 0))) true), .gen (rowE (Aq) gq kq cq 53 4 (rvals ((mgG (fun a b _ => alikeL a b) (bandP kf xs xs') YS i).1)) true), .gen (rowE (Ar) gr kr cr 53 4 (rvals (setY1 (YS.getD (i + 1) 0) ((mgG (fun a b _ => alikeL a b) (bandP kf xs xs') YS i).2.take x_) ++ (mgG (fun a b _ => alikeL a b) (bandP kf xs xs') YS i).2.drop x_)) true), .gen (rowE (A2) g3 k4 cp5 3 1 (iV YS) true), rD (A) g o n 4 (rvals xs), rD (A') g' o' n' 4 (rvals xs')]) (fun x_ : Nat => kr - x_) 0 (by omega) ?_
   rintro j hinv22_
   replace hinv22_ : j ≤ kr := hinv22_
   refine cM ?_
   have hj := hinv22_
   refine zSR 1 <| bD [0] 1 0 [(43, .bool (decide ((j : Int) < (kr : Int))))] [] <| zDNS <| sD 43 rfl (fun c23_ => ?_) fun c23_ => ?_
   ·
    refine zTKNSBSR 2 <| fR 2 kr Ar gr cr (setY1 (YS.getD (i + 1) 0) ((mgG (fun a b _ => alikeL a b) (bandP kf xs xs') YS i).2.take j) ++ (mgG (fun a b _ => alikeL a b) (bandP kf xs xs') YS i).2.drop j) rfl fun hr24_a hr24_l hr24_c hr24_m => ?_
    refine bD [0, 0] 2 0 [(12, iq (j : Int))] [44] <| zDNR 10 <| bD [0, 0, 0, 0, 0] 5 5 [(45, .slice Ar kr cr), (46, iq (j : Int)), (47, .slice A2 k4 cp5), (49, iq (IntKind.i64.wrap ((i : Int) + 1)))] [48] <| rC 49 (iq ((i + 1 : Nat) : Int)) rfl (by rw [show (((i + 1 : Nat) : Int)) = (i : Int) + 1 by omega]; exact wrapI (by omega) (by omega)) <| pS 6 4 <| rC 47 (.slice (pB g3) k4 cp5) rfl (by rw [hr8_a (by omega)]) <| sS 50 (Instr.indexAt 34 (.slice (pB g3) k4 cp5) (iq ((i + 1 : Nat) : Int))) (.pointer (some ⟨g3, (i + 1 : Nat), none⟩)) (fun w hT => rI 3 1 w) <| pS 7 3 <| sS 51 (Instr.loadAt 3 (.pointer (some ⟨g3, (i + 1 : Nat), none⟩))) (iq (YS.getD (i + 1 : Nat) 0)) (fun w hT => rL (Row.cell (hT.ok 3 _ rfl) ((i + 1 : Nat)) _ (ivals_get (by omega)))) <| pS 8 2 <| rC 45 (.slice (pB gr) kr cr) rfl (by rw [hr24_a (by omega)]) <| sS 52 (Instr.indexAt 58 (.slice (pB gr) kr cr) (iq (j : Int))) (.pointer (some ⟨gr, j * 4, none⟩)) (fun w hT => rI 53 4 w) <| bD [0] 9 1 [(53, .pointer (some ⟨gr, j * 4 + 3, none⟩))] [] <| pS 10 0 <| sem_stepU (Instr.storeAt 3 (.pointer (some ⟨gr, j * 4 + 3, none⟩)) (iq (YS.getD (i + 1 : Nat) 0))) (fun _ => [.gen (rowE (A15) g16 k17 cp18 53 4 (rvals (bandP kf xs xs' (YS.getD i 0) (YS.getD (i + 1 : Nat) 0))) true), .gen (rowE (Aq) gq kq cq 53 4 (rvals ((mgG (fun a b _ => alikeL a b) (bandP kf xs xs') YS i).1)) true), .gen (rowE (Ar) gr kr cr 53 4 (rvals ((setY1 (YS.getD (i + 1) 0) ((mgG (fun a b _ => alikeL a b) (bandP kf xs xs') YS i).2.take j) ++ (mgG (fun a b _ => alikeL a b) (bandP kf xs xs') YS i).2.drop j).set j { rget (setY1 (YS.getD (i + 1) 0) ((mgG (fun a b _ => alikeL a b) (bandP kf xs xs') YS i).2.take j) ++ (mgG (fun a b _ => alikeL a b) (bandP kf xs xs') YS i).2.drop j) j with y1 := YS.getD (i + 1 : Nat) 0 })) true), .gen (rowE (A2) g3 k4 cp5 3 1 (iV YS) true), rD (A) g o n 4 (rvals xs), rD (A') g' o' n' 4 (rvals xs')]) (fun _ => True) (by kernel_rfl) (fun w hT => store_fieldR hT (i := 2) (J := j) (k := 3) { rget (setY1 (YS.getD (i + 1) 0) ((mgG (fun a b _ => alikeL a b) (bandP kf xs xs') YS i).2.take j) ++ (mgG (fun a b _ => alikeL a b) (bandP kf xs xs') YS i).2.drop j) j with y1 := YS.getD (i + 1 : Nat) 0 } rfl (by kernel_rfl) (by omega) (by decide) (by omega) rfl) (fun _ _ => ?_)
    refine zDbNR 2 <| bD [0] 1 1 [(54, iq (IntKind.i64.wrap ((j : Int) + 1)))] [] <| wI 54 ((j : Int) + 1) <| bD [0] 2 0 [(42, iq ((j : Int) + 1))] [] <| zDN <| cont_rowEqR 2 ((setY1 (YS.getD (i + 1) 0) ((mgG (fun a b _ => alikeL a b) (bandP kf xs xs') YS i).2.take j) ++ (mgG (fun a b _ => alikeL a b) (bandP kf xs xs') YS i).2.drop j).set j { rget (setY1 (YS.getD (i + 1) 0) ((mgG (fun a b _ => alikeL a b) (bandP kf xs xs') YS i).2.take j) ++ (mgG (fun a b _ => alikeL a b) (bandP kf xs xs') YS i).2.drop j) j with y1 := YS.getD (i + 1 : Nat) 0 }) (setY1 (YS.getD (i + 1) 0) ((mgG (fun a b _ => alikeL a b) (bandP kf xs xs') YS i).2.take (j + 1)) ++ (mgG (fun a b _ => alikeL a b) (bandP kf xs xs') YS i).2.drop (j + 1)) rfl (setY1_step (by omega)) ?_
    refine cA (j + 1) (show (j + 1) ≤ kr from (by omega))
   refine cFa rfl <| cont_exit <| then_exit <| then_exit <| blk_exit <| zN <| cont_exit <| then_exit <| blk_exit <| zN <| cRg 2 rfl <| cont_rowEqR 2 (setY1 (YS.getD (i + 1) 0) ((mgG (fun a b _ => alikeL a b) (bandP kf xs xs') YS i).2.take j) ++ (mgG (fun a b _ => alikeL a b) (bandP kf xs xs') YS i).2.drop j) (setY1 (YS.getD (i + 1) 0) (mgG (fun a b _ => alikeL a b) (bandP kf xs xs') YS i).2) rfl (setY1_done (by omega)) ?_
   refine cont_pick [1, 2, 3, 4, 5] [.gen (rowE (Aq) gq kq cq 53 4 (rvals ((mgG (fun a b _ => alikeL a b) (bandP kf xs xs') YS i).1)) true), .gen (rowE (Ar) gr kr cr 53 4 (rvals (setY1 (YS.getD (i + 1) 0) (mgG (fun a b _ => alikeL a b) (bandP kf xs xs') YS i).2)) true), .gen (rowE (A2) g3 k4 cp5 3 1 (iV YS) true), rD (A) g o n 4 (rvals xs), rD (A') g' o' n' 4 (rvals xs')] (by decide) rfl rfl ?_
   refine bD [0] 1 1 [(59, iq (IntKind.i64.wrap ((i : Int) + 1)))] [] <| wI 59 ((i : Int) + 1) <| bD [0] 2 0 [(21, iq ((i : Int) + 1))] [] <| zDN ?_
   have hst_ := mgG_on (al := (fun a b _ => alikeL a b)) (own := (bandP kf xs xs')) (ys := YS) (i := i) hal_
   refine cont_rowEqR 0 ((mgG (fun a b _ => alikeL a b) (bandP kf xs xs') YS i).1) ((mgG (fun a b _ => alikeL a b) (bandP kf xs xs') YS (i + 1)).1) rfl hst_.1 ?_
   refine cont_rowEqR 1 (setY1 (YS.getD (i + 1) 0) (mgG (fun a b _ => alikeL a b) (bandP kf xs xs') YS i).2) ((mgG (fun a b _ => alikeL a b) (bandP kf xs xs') YS (i + 1)).2) rfl hst_.2 ?_
   refine cA (i + 1, kq, Aq, gq, cq, kr, Ar, gr, cr) (show (i + 1) ≤ YS.length - 1 from (by omega))
  have hal_ : alikeL (mgG (fun a b _ => alikeL a b) (bandP kf xs xs') YS i).2 (bandP kf xs xs' (YS.getD i 0) (YS.getD (i + 1) 0)) = false := c21_
  refine zFKNSR 4 <| bD [0, 0] 2 2 [(55, .slice Aq kq cq), (56, .slice Ar kr cr)] [] <| pS 3 1 <| sSW (α := Option Addr × Nat × Nat) 57 (Builtin.append_ #[58, 58] 58 #[.slice Aq kq cq, .slice Ar kr cr]) (fun x_ => .slice x_.1 (kq + kr) x_.2.2) (fun x_ => [.gen (rowE (A15) g16 k17 cp18 53 4 (rvals (bandP kf xs xs' (YS.getD i 0) (YS.getD (i + 1 : Nat) 0))) true), .gen (rowE (x_.1) x_.2.1 (kq + kr) x_.2.2 53 4 (rvals (((mgG (fun a b _ => alikeL a b) (bandP kf xs xs') YS i).1) ++ ((mgG (fun a b _ => alikeL a b) (bandP kf xs xs') YS i).2))) true), .gen (rowE (Ar) gr kr cr 53 4 (rvals ((mgG (fun a b _ => alikeL a b) (bandP kf xs xs') YS i).2)) true), .gen (rowE (A2) g3 k4 cp5 3 1 (iV YS) true), rD (A) g o n 4 (rvals xs), rD (A') g' o' n' 4 (rvals xs')]) (fun _ => True) (by kernel_rfl) (fun w hT => append_own (n' := (kq + kr)) (z := .agg #[iq 0, iq 0, iq 0, iq 0]) hT (i := 1) (bytes := 32) rfl (by kernel_rfl) (by kernel_rfl) rfl (by decide) (by decide) (Row.rd (hT.ok 2 _ rfl)) (rvals_one ((mgG (fun a b _ => alikeL a b) (bandP kf xs xs') YS i).2)) (by omega) (rvals_append ((mgG (fun a b _ => alikeL a b) (bandP kf xs xs') YS i).1) ((mgG (fun a b _ => alikeL a b) (bandP kf xs xs') YS i).2)) rfl) ?_
  rintro ⟨A25, g25, cp25⟩ -
  refine cM ?_
  refine fR 1 (kq + kr) A25 g25 cp25 (((mgG (fun a b _ => alikeL a b) (bandP kf xs xs') YS i).1) ++ ((mgG (fun a b _ => alikeL a b) (bandP kf xs xs') YS i).2)) rfl fun hr26_a hr26_l hr26_c hr26_m => ?_
  refine bD [0] 4 0 [(8, .slice A25 (kq + kr) cp25)] [] <| zDNR 2 <| bD [0, 0] 2 0 [(9, .slice A15 k17 cp18)] [58] <| zDbNR 2 <| cont_pick [1, 0, 3, 4, 5] [.gen (rowE (A25) g25 (kq + kr) cp25 53 4 (rvals (((mgG (fun a b _ => alikeL a b) (bandP kf xs xs') YS i).1) ++ ((mgG (fun a b _ => alikeL a b) (bandP kf xs xs') YS i).2))) true), .gen (rowE (A15) g16 k17 cp18 53 4 (rvals (bandP kf xs xs' (YS.getD i 0) (YS.getD (i + 1 : Nat) 0))) true), .gen (rowE (A2) g3 k4 cp5 3 1 (iV YS) true), rD (A) g o n 4 (rvals xs), rD (A') g' o' n' 4 (rvals xs')] (by decide) rfl rfl ?_
  refine bD [0] 1 1 [(59, iq (IntKind.i64.wrap ((i : Int) + 1)))] [] <| wI 59 ((i : Int) + 1) <| bD [0] 2 0 [(21, iq ((i : Int) + 1))] [] <| zDN ?_
  have hst_ := mgG_off (al := (fun a b _ => alikeL a b)) (own := (bandP kf xs xs')) (ys := YS) (i := i) hal_
  refine cont_rowEqR 0 (((mgG (fun a b _ => alikeL a b) (bandP kf xs xs') YS i).1) ++ ((mgG (fun a b _ => alikeL a b) (bandP kf xs xs') YS i).2)) ((mgG (fun a b _ => alikeL a b) (bandP kf xs xs') YS (i + 1)).1) rfl hst_.1 ?_
  refine cont_rowEqR 1 (bandP kf xs xs' (YS.getD i 0) (YS.getD (i + 1 : Nat) 0)) ((mgG (fun a b _ => alikeL a b) (bandP kf xs xs') YS (i + 1)).2) rfl hst_.2 ?_
  refine cA (i + 1, (kq + kr), A25, g25, cp25, k17, A15, g16, cp18) (show (i + 1) ≤ YS.length - 1 from (by omega))
 refine zFXxxeNSR 4 <| fR 0 kq Aq gq cq ((mgG (fun a b _ => alikeL a b) (bandP kf xs xs') YS i).1) rfl fun hr27_a hr27_l hr27_c hr27_m => ?_
 refine fR 1 kr Ar gr cr ((mgG (fun a b _ => alikeL a b) (bandP kf xs xs') YS i).2) rfl fun hr28_a hr28_l hr28_c hr28_m => ?_
 refine bS [0, 0] 2 2 [(60, .slice Aq kq cq), (61, .slice Ar kr cr)] <| pS 3 1 <| sSW (α := Option Addr × Nat × Nat) 62 (Builtin.append_ #[58, 58] 58 #[.slice Aq kq cq, .slice Ar kr cr]) (fun x_ => .slice x_.1 (kq + kr) x_.2.2) (fun x_ => [.gen (rowE (x_.1) x_.2.1 (kq + kr) x_.2.2 53 4 (rvals (((mgG (fun a b _ => alikeL a b) (bandP kf xs xs') YS i).1) ++ ((mgG (fun a b _ => alikeL a b) (bandP kf xs xs') YS i).2))) true), .gen (rowE (Ar) gr kr cr 53 4 (rvals ((mgG (fun a b _ => alikeL a b) (bandP kf xs xs') YS i).2)) true), .gen (rowE (A2) g3 k4 cp5 3 1 (iV YS) true), rD (A) g o n 4 (rvals xs), rD (A') g' o' n' 4 (rvals xs')]) (fun _ => True) (by kernel_rfl) (fun w hT => append_own (n' := (kq + kr)) (z := .agg #[iq 0, iq 0, iq 0, iq 0]) hT (i := 0) (bytes := 32) rfl (by kernel_rfl) (by kernel_rfl) rfl (by decide) (by decide) (Row.rd (hT.ok 1 _ rfl)) (rvals_one ((mgG (fun a b _ => alikeL a b) (bandP kf xs xs') YS i).2)) (by omega) (rvals_append ((mgG (fun a b _ => alikeL a b) (bandP kf xs xs') YS i).1) ((mgG (fun a b _ => alikeL a b) (bandP kf xs xs') YS i).2)) rfl) ?_
 rintro ⟨A29, g29, cp29⟩ -
 refine cM ?_
 refine fR 0 (kq + kr) A29 g29 cp29 (((mgG (fun a b _ => alikeL a b) (bandP kf xs xs') YS i).1) ++ ((mgG (fun a b _ => alikeL a b) (bandP kf xs xs') YS i).2)) rfl fun hr30_a hr30_l hr30_c hr30_m => ?_
 refine bS [0] 4 0 [(6, .slice A29 (kq + kr) cp29)] <| zDNr <| rA rfl 0 (.slice A29 (kq + kr) cp29) fun w hT => ?_
 replace hT := hT.erase 4 (fun e h hw => by cases h; first | rfl | cases hw)
 replace hT := hT.erase 3 (fun e h hw => by cases h; first | rfl | cases hw)
 replace hT := hT.erase 2 (fun e h hw => by cases h; first | rfl | cases hw)
 replace hT := hT.erase 1 (fun e h hw => by cases h; first | rfl | cases hw)
 have hi2 : i = YS.length - 1 := by omega
 subst hi2
 subst hYS
 exact ⟨_, _, _, _, rfl, hT⟩
end Go.Proofs.Ytlfahohbkgdabaa
