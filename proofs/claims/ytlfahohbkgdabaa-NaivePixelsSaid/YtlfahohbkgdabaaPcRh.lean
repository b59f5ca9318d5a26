/- Plain words of regions, second part: grids, the program's merge and the document's, the region of what is kept of two lists. -/
import Derived.Test.YtlfahohbkgdabaaPcRg
import Derived.Lib.SlicesCompact
set_option linter.unusedVariables false
set_option linter.unusedSimpArgs false
namespace Go.Proofs.Ytlfahohbkgdabaa
open Go Go.RowKit

/-! ### Grids -/
def emptyR (r : Rect) : Bool := emptyB r.x0 r.y0 r.x1 r.y1
theorem rise_pairwise {l : List Int} : Rise l ↔ l.Pairwise (· < ·) := by
  constructor
  · intro h
    rw [List.pairwise_iff_getElem]
    intro i j hi hj hij
    have := h.lt hij hj
    rw [List.getD_eq_getElem?_getD, List.getElem?_eq_getElem hi, List.getD_eq_getElem?_getD, List.getElem?_eq_getElem hj] at this
    simpa using this
  · intro h i hi
    rw [List.pairwise_iff_getElem] at h
    have := h i (i + 1) (by omega) hi (by omega)
    rw [List.getD_eq_getElem?_getD, List.getElem?_eq_getElem (by omega), List.getD_eq_getElem?_getD, List.getElem?_eq_getElem hi]
    simpa using this
theorem keeps_def (d : Array Int) (j : Nat) : Lib.keeps d j = true ↔ j = 0 ∨ d[j]! ≠ d[j - 1]! := by simp [Lib.keeps]
theorem arr_get (l : List Int) (i : Nat) : l.toArray[i]! = l.getD i 0 := by
  rw [List.getD_eq_getElem?_getD]
  by_cases h : i < l.length
  · rw [getElem!_pos _ i (by simpa using h)]; simp [h]
  · rw [getElem!_neg _ i (by simpa using h), List.getElem?_eq_none (by omega)]; rfl
theorem compact_rise {l : List Int} (h : l.Pairwise (· ≤ ·)) : (Lib.compact l).Pairwise (· < ·) := by
  unfold Lib.compact Lib.compactUpTo
  rw [List.pairwise_map]
  have hr : (List.range l.length).Pairwise (· < ·) := List.pairwise_lt_range
  refine (hr.filter _).imp_of_mem (fun {i j} hi hj hij => ?_)
  have hk := (keeps_def _ _).1 (List.mem_filter.1 hj).2
  have hjl := List.mem_range.1 (List.mem_filter.1 hj).1
  rw [arr_get, arr_get] at hk ⊢
  have le : ∀ a b, a ≤ b → b < l.length → l.getD a 0 ≤ l.getD b 0 := by
    intro a b hab hb
    rw [List.pairwise_iff_getElem] at h
    rw [List.getD_eq_getElem?_getD, List.getD_eq_getElem?_getD, List.getElem?_eq_getElem (by omega), List.getElem?_eq_getElem hb]
    by_cases e : a = b
    · subst e; exact Int.le_refl _
    · exact h a b (by omega) hb (by omega)
  have h1 := le i (j - 1) (by omega) (by omega)
  have h2 := le (j - 1) j (by omega) hjl
  rcases hk with hk | hk
  · omega
  · omega
theorem compact_mem {l : List Int} {x : Int} : x ∈ Lib.compact l ↔ x ∈ l := by
  unfold Lib.compact Lib.compactUpTo
  rw [List.mem_map]
  constructor
  · rintro ⟨j, hj, rfl⟩
    have hjl := List.mem_range.1 (List.mem_filter.1 hj).1
    rw [arr_get, List.getD_eq_getElem?_getD, List.getElem?_eq_getElem hjl]; simp
  · intro hx
    obtain ⟨j, hj, e⟩ := List.mem_iff_getElem.1 hx
    have key : ∀ j, j < l.length → ∃ i, i ∈ (List.range l.length).filter (Lib.keeps l.toArray) ∧ l.getD i 0 = l.getD j 0 := by
      intro j
      induction j with
      | zero => intro h0; exact ⟨0, List.mem_filter.2 ⟨List.mem_range.2 h0, (keeps_def _ _).2 (.inl rfl)⟩, rfl⟩
      | succ j ih =>
        intro hj
        by_cases hk : Lib.keeps l.toArray (j + 1) = true
        · exact ⟨j + 1, List.mem_filter.2 ⟨List.mem_range.2 hj, hk⟩, rfl⟩
        · obtain ⟨i, h1, h2⟩ := ih (by omega)
          refine ⟨i, h1, h2.trans ?_⟩
          have : ¬ (j + 1 = 0 ∨ l.toArray[j + 1]! ≠ l.toArray[j + 1 - 1]!) := fun h => hk ((keeps_def _ _).2 h)
          rw [arr_get, arr_get, Nat.add_sub_cancel] at this
          omega
    obtain ⟨i, h1, h2⟩ := key j hj
    refine ⟨i, h1, ?_⟩
    rw [arr_get, h2, List.getD_eq_getElem?_getD, List.getElem?_eq_getElem hj]; exact e
def sortL (l : List Int) : List Int := l.mergeSort fun x y => decide (x ≤ y)
theorem sortL_mem {l : List Int} {x : Int} : x ∈ sortL l ↔ x ∈ l := (List.mergeSort_perm l _).mem_iff
theorem sortL_sorted (l : List Int) : (sortL l).Pairwise (· ≤ ·) := by
  have := List.pairwise_mergeSort (le := fun x y : Int => decide (x ≤ y)) (fun a b c h1 h2 => by simp only [decide_eq_true_eq] at *; omega) (fun a b => by simp only [Bool.or_eq_true, decide_eq_true_eq]; omega) l
  exact this.imp (fun h => by simpa using h)
def gridL (l : List Int) : List Int := Lib.compact (sortL l)
theorem gridL_rise (l : List Int) : Rise (gridL l) := rise_pairwise.2 (compact_rise (sortL_sorted l))
theorem gridL_mem {l : List Int} {x : Int} : x ∈ gridL l ↔ x ∈ l := compact_mem.trans sortL_mem
theorem mem_getD {l : List Int} {x : Int} (h : x ∈ l) : ∃ i, i < l.length ∧ l.getD i 0 = x := by
  obtain ⟨i, hi, e⟩ := List.mem_iff_getElem.1 h
  exact ⟨i, hi, by rw [List.getD_eq_getElem?_getD, List.getElem?_eq_getElem hi]; exact e⟩
theorem getD_mem {l : List Int} {i : Nat} (h : i < l.length) : l.getD i 0 ∈ l := by
  rw [List.getD_eq_getElem?_getD, List.getElem?_eq_getElem h]; simp
/-- Of a number of the grid: below the next one is not above this one. -/
theorem rise_cell {g : List Int} (hr : Rise g) {k : Nat} (hk : k + 1 < g.length) {z : Int} (hz : z ∈ g) : (z < g.getD (k + 1) 0 → z ≤ g.getD k 0) ∧ (g.getD k 0 < z → g.getD (k + 1) 0 ≤ z) := by
  obtain ⟨i, hi, rfl⟩ := mem_getD hz
  refine ⟨fun h => ?_, fun h => ?_⟩
  · rcases Nat.lt_or_ge k i with hki | hki
    · have := hr.le (i := k + 1) (j := i) hki hi; omega
    · exact hr.le hki (by omega)
  · rcases Nat.lt_or_ge k i with hki | hki
    · exact hr.le hki hi
    · have := hr.le (i := i) (j := k) hki (by omega); omega

/-! ### What is kept of two lists -/
/-- The points that a grid along Y tells apart. -/
theorem hasL_ycell {l : List Rect} {g : List Int} (hr : Rise g) (hg : ∀ r ∈ l, emptyR r = false → r.y0 ∈ g ∧ r.y1 ∈ g) {k : Nat} (hk : k + 1 < g.length) {t : Int} (h0 : g.getD k 0 ≤ t) (h1 : t < g.getD (k + 1) 0) (x : Int) : hasL l x t = hasL l x (g.getD k 0) := by
  unfold hasL
  rw [Bool.eq_iff_iff, List.any_eq_true, List.any_eq_true]
  constructor
  · rintro ⟨r, hm, hb⟩
    refine ⟨r, hm, ?_⟩
    have hb := hasB_true.1 hb
    have he : emptyR r = false := emptyB_false.2 ⟨by omega, by omega⟩
    have hc := rise_cell hr hk (hg r hm he).1
    have hd := rise_cell hr hk (hg r hm he).2
    have a1 := hc.1 (by omega)
    exact hasB_true.2 ⟨by omega, by omega, by omega, by omega⟩
  · rintro ⟨r, hm, hb⟩
    refine ⟨r, hm, ?_⟩
    have hb := hasB_true.1 hb
    have he : emptyR r = false := emptyB_false.2 ⟨by omega, by omega⟩
    have hd := rise_cell hr hk (hg r hm he).2
    have a1 := hd.2 (by omega)
    exact hasB_true.2 ⟨by omega, by omega, by omega, by omega⟩
theorem hasL_xcell {l : List Rect} {g : List Int} {y : Int} (hr : Rise g) (hg : ∀ r ∈ l, r.x0 < r.x1 → r.y0 ≤ y → y < r.y1 → r.x0 ∈ g ∧ r.x1 ∈ g) {k : Nat} (hk : k + 1 < g.length) {t : Int} (h0 : g.getD k 0 ≤ t) (h1 : t < g.getD (k + 1) 0) : hasL l t y = hasL l (g.getD k 0) y := by
  unfold hasL
  rw [Bool.eq_iff_iff, List.any_eq_true, List.any_eq_true]
  constructor
  · rintro ⟨r, hm, hb⟩
    refine ⟨r, hm, ?_⟩
    have hb := hasB_true.1 hb
    have hc := rise_cell hr hk (hg r hm (by omega) (by omega) (by omega)).1
    have a1 := hc.1 (by omega)
    exact hasB_true.2 ⟨by omega, by omega, by omega, by omega⟩
  · rintro ⟨r, hm, hb⟩
    refine ⟨r, hm, ?_⟩
    have hb := hasB_true.1 hb
    have hd := rise_cell hr hk (hg r hm (by omega) (by omega) (by omega)).2
    have a1 := hd.2 (by omega)
    exact hasB_true.2 ⟨by omega, by omega, by omega, by omega⟩
theorem hasL_true {l : List Rect} {x y : Int} : hasL l x y = true ↔ ∃ r ∈ l, r.x0 ≤ x ∧ x < r.x1 ∧ r.y0 ≤ y ∧ y < r.y1 := by
  unfold hasL
  rw [List.any_eq_true]
  exact ⟨fun ⟨r, h, hb⟩ => ⟨r, h, hasB_true.1 hb⟩, fun ⟨r, h, hb⟩ => ⟨r, h, hasB_true.2 hb⟩⟩
/-- The points that are kept. -/
def keepF (kf : Bool → Bool → Bool) (a b : List Rect) (x y : Int) : Bool := kf (hasL a x y) (hasL b x y)
theorem keepF_some {kf : Bool → Bool → Bool} (h0 : kf false false = false) {a b : List Rect} {x y : Int} (h : keepF kf a b x y = true) : hasL (a ++ b) x y = true := by
  rw [hasL_append]
  unfold keepF at h
  cases ha : hasL a x y <;> cases hb : hasL b x y <;> simp_all

/-- Any merge over grids that tell all sides comes to the region of what is kept. -/
theorem mgL_keep {al : List Rect → List Rect → Int → Bool} (hal : Alike al) {kf : Bool → Bool → Bool} (h0 : kf false false = false) {a b : List Rect} {ys : List Int} {xsOf : Nat → List Int} {own : Nat → List Rect} (hr : Rise ys)
    (hy : ∀ r ∈ a ++ b, emptyR r = false → r.y0 ∈ ys ∧ r.y1 ∈ ys) (hxr : ∀ i, Rise (xsOf i))
    (hx : ∀ i, i + 1 < ys.length → ∀ r ∈ a ++ b, r.x0 < r.x1 → r.y0 ≤ ys.getD i 0 → ys.getD i 0 < r.y1 → r.x0 ∈ xsOf i ∧ r.x1 ∈ xsOf i)
    (hown : ∀ i, i + 1 < ys.length → own i = ownL (fun x => keepF kf a b x (ys.getD i 0)) (ys.getD i 0) (ys.getD (i + 1) 0) (xsOf i) ((xsOf i).length - 1)) : IsReg (mgL al own ys) (keepF kf a b) := by
  refine mgL_isReg hal hr (fun i hi => ?_) (fun k hk t h1 h2 x => ?_) (fun x t ht => ?_)
  · rw [hown i hi]
    refine ownL_all (hxr i) (fun k hk t h1 h2 => ?_) (fun t ht => ?_)
    · unfold keepF
      rw [hasL_xcell (hxr i) (fun r hm => hx i hi r (by simp [hm])) hk h1 h2, hasL_xcell (hxr i) (fun r hm => hx i hi r (by simp [hm])) hk h1 h2]
    · obtain ⟨r, hm, b1, b2, b3, b4⟩ := hasL_true.1 (keepF_some h0 ht)
      obtain ⟨m0, m1⟩ := hx i hi r hm (by omega) b3 b4
      obtain ⟨p, hp, e1⟩ := mem_getD m0
      obtain ⟨q, hq, e2⟩ := mem_getD m1
      exact ⟨p, q, hp, hq, by omega, by omega⟩
  · unfold keepF
    rw [hasL_ycell hr (fun r hm => hy r (by simp [hm])) hk h1 h2, hasL_ycell hr (fun r hm => hy r (by simp [hm])) hk h1 h2]
  · obtain ⟨r, hm, b1, b2, b3, b4⟩ := hasL_true.1 (keepF_some h0 ht)
    obtain ⟨m0, m1⟩ := hy r hm (emptyB_false.2 ⟨by omega, by omega⟩)
    obtain ⟨p, hp, e1⟩ := mem_getD m0
    obtain ⟨q, hq, e2⟩ := mem_getD m1
    exact ⟨p, q, hp, hq, by omega, by omega⟩

/-! ### The program's merge -/
def evY (l : List Rect) : List Int := l.flatMap fun r => [r.y0, r.y1]
def evX (l : List Rect) : List Int := l.flatMap fun r => [r.x0, r.x1]
def acrossB (y : Int) (r : Rect) : Bool := decide (r.y0 ≤ y) && decide (y < r.y1) && decide (r.x0 < r.x1)
def acrossL (l : List Rect) (y : Int) : List Rect := l.filter (acrossB y)
def hasXL (l : List Rect) (x : Int) : Bool := l.any fun r => decide (r.x0 ≤ x) && decide (x < r.x1)
theorem hasXL_across (l : List Rect) (x y : Int) : hasXL (acrossL l y) x = hasL l x y := by
  unfold hasXL acrossL hasL
  rw [List.any_filter, Bool.eq_iff_iff, List.any_eq_true, List.any_eq_true]
  constructor
  · rintro ⟨r, hm, h⟩
    simp only [acrossB, Bool.and_eq_true, decide_eq_true_eq] at h
    exact ⟨r, hm, hasB_true.2 (by omega)⟩
  · rintro ⟨r, hm, h⟩
    have h := hasB_true.1 h
    refine ⟨r, hm, ?_⟩
    simp only [acrossB, Bool.and_eq_true, decide_eq_true_eq]
    omega
def alike1 (x y : Rect) : Bool := decide (x.x0 = y.x0) && decide (x.x1 = y.x1) && decide (x.y1 = y.y0)
def eqF (f : Rect → Rect → Bool) : List Rect → List Rect → Bool
  | a :: l, b :: m => f a b && eqF f l m
  | [], [] => true
  | _, _ => false
def alikeL (a b : List Rect) : Bool := decide (0 < a.length) && eqF alike1 a b
theorem eqF_append {f : Rect → Rect → Bool} : ∀ {a b : List Rect} {x y : Rect}, eqF f (a ++ [x]) (b ++ [y]) = (eqF f a b && f x y) := by
  intro a
  induction a with
  | nil =>
    intro b x y
    cases b with
    | nil => simp [eqF]
    | cons c b => cases b <;> simp [eqF]
  | cons d a ih =>
    intro b x y
    cases b with
    | nil => cases a <;> simp [eqF]
    | cons c b => simp [eqF, ih, Bool.and_assoc]
theorem eqF_nil {f : Rect → Rect → Bool} {l : List Rect} : eqF f l [] = decide (l = []) := by cases l <;> simp [eqF]
theorem eqF_nil' {f : Rect → Rect → Bool} {l : List Rect} : eqF f [] l = decide (l = []) := by cases l <;> simp [eqF]
theorem eqF_band (y z z' y' : Int) : ∀ {s t : Spans}, eqF alike1 (bandR y z s) (bandR z' y' t) = decide (s = t ∧ (s ≠ [] → z = z')) := by
  intro s
  induction s with
  | nil =>
    intro t
    rw [show bandR y z [] = [] from rfl, eqF_nil']
    by_cases h : t = []
    · subst h; simp [bandR]
    · rw [decide_eq_false (fun e => h (bandR_nil_iff.1 e)), decide_eq_false (fun e => h e.1.symm)]
  | cons a s ih =>
    intro t
    cases t with
    | nil =>
      rw [show bandR z' y' [] = [] from rfl, eqF_nil, decide_eq_false (fun e => by have := bandR_nil_iff.1 e; cases this), decide_eq_false (fun e => by cases e.1)]
    | cons b t =>
      have e1 : bandR y z (a :: s) = bandR y z s ++ [spR y z a] := by simp [bandR]
      have e2 : bandR z' y' (b :: t) = bandR z' y' t ++ [spR z' y' b] := by simp [bandR]
      rw [e1, e2, eqF_append, ih]
      obtain ⟨a1, a2, a3⟩ := a
      obtain ⟨b1, b2, b3⟩ := b
      rw [show alike1 (spR y z (a1, a2, a3)) (spR z' y' (b1, b2, b3)) = (decide (a1 = b1) && decide (a2 = b2) && decide (z = z')) from rfl, Bool.eq_iff_iff]
      simp only [Bool.and_eq_true, decide_eq_true_eq, List.cons.injEq, Prod.mk.injEq, and_true, true_and, ne_eq, reduceCtorEq, not_false_eq_true, forall_const, and_assoc]
      constructor
      · rintro ⟨h1, h2, h3, h4, h5⟩; exact ⟨h3, h4, h1, h5⟩
      · rintro ⟨h3, h4, h1, h5⟩; exact ⟨h1, fun _ => h5, h3, h4, h5⟩
theorem alikeL_alike : Alike fun a b _ => alikeL a b := by
  refine ⟨fun o y => by simp [alikeL], fun l y => ?_, fun b sp y' h1 h2 => ?_⟩
  · unfold alikeL
    rw [eqF_nil]
    cases l <;> simp
  · unfold alikeL
    rw [eqF_band, bandR_length]
    have : 0 < b.2.2.length := by cases h : b.2.2 with
      | nil => exact absurd h h1
      | cons _ _ => simp
    rw [decide_eq_true this, Bool.true_and]
    by_cases h : b.2.2 = sp
    · rw [decide_eq_true ⟨h, fun _ => rfl⟩, decide_eq_true h]
    · rw [decide_eq_false (fun e => h e.1), decide_eq_false h]
/-- The grid of a band, the band, all bands, as the program has them. -/
def ysP (a b : List Rect) : List Int := gridL (evY a ++ evY b)
def xsP (a b : List Rect) (y : Int) : List Int := gridL (evX (acrossL a y) ++ evX (acrossL b y))
def bandF (kf : Bool → Bool → Bool) (a b : List Rect) (x : Int) : Bool := kf (hasXL a x) (hasXL b x)
def bandP (kf : Bool → Bool → Bool) (a b : List Rect) (y y' : Int) : List Rect := ownL (bandF kf (acrossL a y) (acrossL b y)) y y' (xsP a b y) ((xsP a b y).length - 1)
def regM (kf : Bool → Bool → Bool) (a b : List Rect) : List Rect := mgL (fun a b _ => alikeL a b) (fun i => bandP kf a b ((ysP a b).getD i 0) ((ysP a b).getD (i + 1) 0)) (ysP a b)
theorem evX_mem {l : List Rect} {r : Rect} (h : r ∈ l) : r.x0 ∈ evX l ∧ r.x1 ∈ evX l := ⟨List.mem_flatMap.2 ⟨r, h, by simp⟩, List.mem_flatMap.2 ⟨r, h, by simp⟩⟩
theorem evY_mem {l : List Rect} {r : Rect} (h : r ∈ l) : r.y0 ∈ evY l ∧ r.y1 ∈ evY l := ⟨List.mem_flatMap.2 ⟨r, h, by simp⟩, List.mem_flatMap.2 ⟨r, h, by simp⟩⟩
theorem regM_isReg {kf : Bool → Bool → Bool} (h0 : kf false false = false) (a b : List Rect) : IsReg (regM kf a b) (keepF kf a b) := by
  refine mgL_keep (xsOf := fun i => xsP a b ((ysP a b).getD i 0)) alikeL_alike h0 (gridL_rise _) (fun r hm _ => ?_) (fun i => gridL_rise _) (fun i hi r hm h1 h2 h3 => ?_) (fun i hi => ?_)
  · unfold ysP
    rw [gridL_mem, gridL_mem]
    rcases List.mem_append.1 hm with h | h
    · exact ⟨List.mem_append_left _ (evY_mem h).1, List.mem_append_left _ (evY_mem h).2⟩
    · exact ⟨List.mem_append_right _ (evY_mem h).1, List.mem_append_right _ (evY_mem h).2⟩
  · have hb : acrossB ((ysP a b).getD i 0) r = true := by simp only [acrossB, Bool.and_eq_true, decide_eq_true_eq]; omega
    simp only [xsP]
    rw [gridL_mem, gridL_mem]
    rcases List.mem_append.1 hm with h | h
    · have := evX_mem (l := acrossL a ((ysP a b).getD i 0)) (List.mem_filter.2 ⟨h, hb⟩)
      exact ⟨List.mem_append_left _ this.1, List.mem_append_left _ this.2⟩
    · have := evX_mem (l := acrossL b ((ysP a b).getD i 0)) (List.mem_filter.2 ⟨h, hb⟩)
      exact ⟨List.mem_append_right _ this.1, List.mem_append_right _ this.2⟩
  · have : bandF kf (acrossL a ((ysP a b).getD i 0)) (acrossL b ((ysP a b).getD i 0)) = fun x => keepF kf a b x ((ysP a b).getD i 0) := by
      funext x
      unfold bandF keepF
      rw [hasXL_across, hasXL_across]
    simp only [bandP, this]

/-! ### The document's merge -/
def addL' (l : List Int) (n : Int) : List Int := if n ∈ l then l else l.filter (· < n) ++ n :: l.filter (n < ·)
theorem addL'_mem {l : List Int} {n x : Int} : x ∈ addL' l n ↔ x ∈ l ∨ x = n := by
  unfold addL'
  by_cases h : n ∈ l
  · rw [if_pos h]
    exact ⟨.inl, fun e => e.elim id (fun e => e ▸ h)⟩
  · rw [if_neg h]
    simp only [List.mem_append, List.mem_filter, List.mem_cons, decide_eq_true_eq]
    constructor
    · rintro (⟨h1, _⟩ | h1 | ⟨h1, _⟩)
      · exact .inl h1
      · exact .inr h1
      · exact .inl h1
    · rintro (h1 | h1)
      · rcases Int.lt_trichotomy x n with h2 | h2 | h2
        · exact .inl ⟨h1, h2⟩
        · subst h2; exact absurd h1 h
        · exact .inr (.inr ⟨h1, h2⟩)
      · exact .inr (.inl h1)
theorem addL'_rise {l : List Int} (h : Rise l) (n : Int) : Rise (addL' l n) := by
  unfold addL'
  by_cases hn : n ∈ l
  · rw [if_pos hn]; exact h
  · rw [if_neg hn, rise_pairwise]
    have hp := rise_pairwise.1 h
    rw [List.pairwise_append]
    refine ⟨hp.filter _, List.pairwise_cons.2 ⟨fun x hx => by simpa using (List.mem_filter.1 hx).2, hp.filter _⟩, fun x hx y hy => ?_⟩
    have h1 : x < n := by simpa using (List.mem_filter.1 hx).2
    rcases List.mem_cons.1 hy with rfl | hy
    · exact h1
    · have h2 : n < y := by simpa using (List.mem_filter.1 hy).2
      omega
theorem addL'_length (l : List Int) (n : Int) (h : Rise l) : (addL' l n).length ≤ l.length + 1 := by
  unfold addL'
  by_cases hn : n ∈ l
  · rw [if_pos hn]; omega
  · rw [if_neg hn, List.length_append, List.length_cons]
    have : ∀ l : List Int, (l.filter (· < n)).length + (l.filter (n < ·)).length ≤ l.length := by
      intro l
      induction l with
      | nil => simp
      | cons a l ih =>
        by_cases h1 : a < n
        · have h2 : ¬ n < a := by omega
          simp only [List.filter_cons, decide_eq_true h1, decide_eq_false h2, if_true, Bool.false_eq_true, if_false, List.length_cons]; omega
        · by_cases h2 : n < a
          · simp only [List.filter_cons, decide_eq_true h2, decide_eq_false h1, if_true, Bool.false_eq_true, if_false, List.length_cons]; omega
          · simp only [List.filter_cons, decide_eq_false h2, decide_eq_false h1, Bool.false_eq_true, if_false, List.length_cons]; omega
    have := this l
    omega
def addXs (l : List Int) (r : Rect) : List Int := if emptyR r then l else addL' (addL' l r.x0) r.x1
def addYs (l : List Int) (r : Rect) : List Int := if emptyR r then l else addL' (addL' l r.y0) r.y1
def xsD (l : List Rect) : List Int := l.foldl addXs []
def ysD (l : List Rect) : List Int := l.foldl addYs []
theorem xsD_ok (l : List Rect) : ∀ g, Rise g → Rise (l.foldl addXs g) ∧ (∀ x ∈ g, x ∈ l.foldl addXs g) ∧ (∀ r ∈ l, emptyR r = false → r.x0 ∈ l.foldl addXs g ∧ r.x1 ∈ l.foldl addXs g) ∧ (l.foldl addXs g).length ≤ g.length + 2 * l.length := by
  induction l with
  | nil => intro g hg; exact ⟨hg, fun x hx => hx, fun r hr => (by cases hr), by simp⟩
  | cons r l ih =>
    intro g hg
    have h1 : Rise (addXs g r) ∧ (∀ x ∈ g, x ∈ addXs g r) ∧ (emptyR r = false → r.x0 ∈ addXs g r ∧ r.x1 ∈ addXs g r) ∧ (addXs g r).length ≤ g.length + 2 := by
      unfold addXs
      cases he : emptyR r with
      | true => simp [hg]
      | false =>
        simp only [Bool.false_eq_true, if_false]
        refine ⟨addL'_rise (addL'_rise hg _) _, fun x hx => addL'_mem.2 (.inl (addL'_mem.2 (.inl hx))), fun _ => ⟨addL'_mem.2 (.inl (addL'_mem.2 (.inr rfl))), addL'_mem.2 (.inr rfl)⟩, ?_⟩
        have a1 := addL'_length (addL' g r.x0) r.x1 (addL'_rise hg _)
        have a2 := addL'_length g r.x0 hg
        omega
    obtain ⟨h2, h3, h4, h5⟩ := ih (addXs g r) h1.1
    rw [List.foldl_cons]
    refine ⟨h2, fun x hx => h3 x (h1.2.1 x hx), fun q hq he => ?_, by simp only [List.length_cons]; have := h1.2.2.2; omega⟩
    rcases List.mem_cons.1 hq with rfl | hq
    · exact ⟨h3 _ (h1.2.2.1 he).1, h3 _ (h1.2.2.1 he).2⟩
    · exact h4 q hq he
theorem ysD_ok (l : List Rect) : ∀ g, Rise g → Rise (l.foldl addYs g) ∧ (∀ x ∈ g, x ∈ l.foldl addYs g) ∧ (∀ r ∈ l, emptyR r = false → r.y0 ∈ l.foldl addYs g ∧ r.y1 ∈ l.foldl addYs g) ∧ (l.foldl addYs g).length ≤ g.length + 2 * l.length := by
  induction l with
  | nil => intro g hg; exact ⟨hg, fun x hx => hx, fun r hr => (by cases hr), by simp⟩
  | cons r l ih =>
    intro g hg
    have h1 : Rise (addYs g r) ∧ (∀ x ∈ g, x ∈ addYs g r) ∧ (emptyR r = false → r.y0 ∈ addYs g r ∧ r.y1 ∈ addYs g r) ∧ (addYs g r).length ≤ g.length + 2 := by
      unfold addYs
      cases he : emptyR r with
      | true => simp [hg]
      | false =>
        simp only [Bool.false_eq_true, if_false]
        refine ⟨addL'_rise (addL'_rise hg _) _, fun x hx => addL'_mem.2 (.inl (addL'_mem.2 (.inl hx))), fun _ => ⟨addL'_mem.2 (.inl (addL'_mem.2 (.inr rfl))), addL'_mem.2 (.inr rfl)⟩, ?_⟩
        have a1 := addL'_length (addL' g r.y0) r.y1 (addL'_rise hg _)
        have a2 := addL'_length g r.y0 hg
        omega
    obtain ⟨h2, h3, h4, h5⟩ := ih (addYs g r) h1.1
    rw [List.foldl_cons]
    refine ⟨h2, fun x hx => h3 x (h1.2.1 x hx), fun q hq he => ?_, by simp only [List.length_cons]; have := h1.2.2.2; omega⟩
    rcases List.mem_cons.1 hq with rfl | hq
    · exact ⟨h3 _ (h1.2.2.1 he).1, h3 _ (h1.2.2.1 he).2⟩
    · exact h4 q hq he
def span1 (x y : Rect) : Bool := decide (x.x0 = y.x0) && decide (x.x1 = y.x1)
def touchL (last own : List Rect) (y : Int) : Bool := decide (0 < last.length) && decide ((rget last 0).y1 = y) && eqF span1 last own
theorem eqF_span (y z z' y' : Int) : ∀ {s t : Spans}, eqF span1 (bandR y z s) (bandR z' y' t) = decide (s = t) := by
  intro s
  induction s with
  | nil =>
    intro t
    rw [show bandR y z [] = [] from rfl, eqF_nil']
    by_cases h : t = []
    · subst h; simp [bandR]
    · rw [decide_eq_false (fun e => h (bandR_nil_iff.1 e)), decide_eq_false (fun e => h e.symm)]
  | cons a s ih =>
    intro t
    cases t with
    | nil => rw [show bandR z' y' [] = [] from rfl, eqF_nil, decide_eq_false (fun e => by have := bandR_nil_iff.1 e; cases this), decide_eq_false (fun e => by cases e)]
    | cons b t =>
      have e1 : bandR y z (a :: s) = bandR y z s ++ [spR y z a] := by simp [bandR]
      have e2 : bandR z' y' (b :: t) = bandR z' y' t ++ [spR z' y' b] := by simp [bandR]
      rw [e1, e2, eqF_append, ih]
      obtain ⟨a1, a2, a3⟩ := a
      obtain ⟨b1, b2, b3⟩ := b
      rw [show span1 (spR y z (a1, a2, a3)) (spR z' y' (b1, b2, b3)) = (decide (a1 = b1) && decide (a2 = b2)) from rfl, Bool.eq_iff_iff]
      simp only [Bool.and_eq_true, decide_eq_true_eq, List.cons.injEq, Prod.mk.injEq, and_true]
      constructor
      · rintro ⟨h1, h2, h3⟩; exact ⟨⟨h2, h3⟩, h1⟩
      · rintro ⟨⟨h2, h3⟩, h1⟩; exact ⟨h1, h2, h3⟩
theorem bandR_get0 {y z : Int} {sp : Spans} (h : sp ≠ []) : (rget (bandR y z sp) 0).y1 = z := by
  unfold rget bandR
  have hl : 0 < (sp.map (spR y z)).reverse.length := by cases sp with
    | nil => exact absurd rfl h
    | cons _ _ => simp
  rw [List.getD_eq_getElem?_getD, List.getElem?_eq_getElem hl, Option.getD_some]
  have hm := List.getElem_mem hl
  rw [List.mem_reverse, List.mem_map] at hm
  obtain ⟨s, _, e⟩ := hm
  rw [← e]; rfl
theorem touchL_alike : Alike touchL := by
  refine ⟨fun o y => by simp [touchL], fun l y => ?_, fun b sp y' h1 h2 => ?_⟩
  · unfold touchL
    rw [eqF_nil]
    cases l <;> simp
  · unfold touchL
    rw [eqF_span, bandR_length, bandR_get0 h1]
    have : 0 < b.2.2.length := by cases h : b.2.2 with
      | nil => exact absurd h h1
      | cons _ _ => simp
    rw [decide_eq_true this, decide_eq_true rfl]; rfl
def regD (kf : Bool → Bool → Bool) (a b : List Rect) : List Rect := mgL touchL (fun i => ownL (fun x => keepF kf a b x ((ysD (a ++ b)).getD i 0)) ((ysD (a ++ b)).getD i 0) ((ysD (a ++ b)).getD (i + 1) 0) (xsD (a ++ b)) ((xsD (a ++ b)).length - 1)) (ysD (a ++ b))
theorem rise_nil : Rise [] := fun i hi => by simp at hi
theorem regD_isReg {kf : Bool → Bool → Bool} (h0 : kf false false = false) (a b : List Rect) : IsReg (regD kf a b) (keepF kf a b) :=
  mgL_keep (xsOf := fun _ => xsD (a ++ b)) touchL_alike h0 (ysD_ok (a ++ b) [] rise_nil).1 (fun r hm he => (ysD_ok (a ++ b) [] rise_nil).2.2.1 r hm he) (fun i => (xsD_ok (a ++ b) [] rise_nil).1)
    (fun i hi r hm h1 h2 h3 => (xsD_ok (a ++ b) [] rise_nil).2.2.1 r hm (emptyB_false.2 ⟨h1, by omega⟩)) (fun i hi => rfl)
theorem regD_eq {kf : Bool → Bool → Bool} (h0 : kf false false = false) (a b : List Rect) : regD kf a b = regM kf a b := (regD_isReg h0 a b).unique (regM_isReg h0 a b)

/-! ### Lengths -/
theorem putX_length (own : List Rect) (x x' y y' : Int) : (putX own x x' y y').length ≤ own.length + 1 := by
  unfold putX
  split
  · rw [List.length_set]; omega
  · simp
theorem ownL_length (f : Int → Bool) (y y' : Int) (xs : List Int) : ∀ i, (ownL f y y' xs i).length ≤ i := by
  intro i
  induction i with
  | zero => simp [ownL]
  | succ i ih =>
    rw [ownL]
    split
    · have := putX_length (ownL f y y' xs i) (xs.getD i 0) (xs.getD (i + 1) 0) y y'; omega
    · omega
theorem mgSt_length {al : List Rect → List Rect → Int → Bool} {own : Nat → List Rect} {ys : List Int} {m : Nat} (h : ∀ i, (own i).length ≤ m) : ∀ i, (mgSt al own ys i).1.length + (mgSt al own ys i).2.length ≤ i * m ∧ (mgSt al own ys i).2.length ≤ m := by
  intro i
  induction i with
  | zero => simp [mgSt]
  | succ i ih =>
    have e : (i + 1) * m = i * m + m := Nat.succ_mul i m
    rw [mgSt]
    split
    · simp only [setY1, List.length_map]; omega
    · simp only [List.length_append]; have := h i; omega
end Go.Proofs.Ytlfahohbkgdabaa

