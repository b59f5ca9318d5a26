/- Plain words of regions: runs of numbers, bands, the region of points; what a merge of two lists of rectangles comes to. -/
import Derived.Test.YtlfahohbkgdabaaPcIm
set_option linter.unusedVariables false
set_option linter.unusedSimpArgs false
namespace Go.Proofs.Ytlfahohbkgdabaa
open Go Go.RowKit

/-! ### Runs: the last one first -/
section
variable {β : Type}
abbrev Run (β : Type) := Int × Int × β
def RunsOk : List (Run β) → Prop
  | [] => True
  | r :: t => r.1 < r.2.1 ∧ (match t with | [] => True | s :: _ => s.2.1 ≤ r.1 ∧ (s.2.1 = r.1 → s.2.2 ≠ r.2.2)) ∧ RunsOk t
def look : List (Run β) → Int → Option β
  | [], _ => none
  | r :: t, p => if r.1 ≤ p ∧ p < r.2.1 then some r.2.2 else look t p
theorem RunsOk.tail {r : Run β} {t : List (Run β)} (h : RunsOk (r :: t)) : RunsOk t := h.2.2
theorem RunsOk.below {r : Run β} {t : List (Run β)} (h : RunsOk (r :: t)) : ∀ s ∈ t, s.2.1 ≤ r.1 := by
  induction t generalizing r with
  | nil => intro s hs; cases hs
  | cons q t ih =>
    intro s hs
    obtain ⟨_, ⟨h1, _⟩, h2⟩ := h
    rcases List.mem_cons.1 hs with rfl | hs
    · exact h1
    · have := ih h2 s hs
      have := h2.1
      omega
theorem look_above {t : List (Run β)} {p q : Int} (h : ∀ s ∈ t, s.2.1 ≤ q) (hp : q ≤ p) : look t p = none := by
  induction t with
  | nil => rfl
  | cons r t ih =>
    have := h r (by simp)
    rw [look, if_neg (by omega)]
    exact ih (fun s hs => h s (by simp [hs]))
theorem runs_unique : ∀ {l l' : List (Run β)}, RunsOk l → RunsOk l' → (∀ p, look l p = look l' p) → l = l' := by
  intro l
  induction l with
  | nil =>
    intro l' _ h' he
    cases l' with
    | nil => rfl
    | cons r t =>
      have := he r.1
      have h1 := h'.1
      rw [look, look, if_pos (by omega)] at this
      cases this
  | cons r t ih =>
    intro l' h h' he
    cases l' with
    | nil =>
      have := he r.1
      have h1 := h.1
      rw [look, look, if_pos (by omega)] at this
      cases this
    | cons s u =>
      have h1 := h.1
      have h1' := h'.1
      have hb := h.below
      have hb' := h'.below
      have ehi : r.2.1 = s.2.1 := by
        rcases Int.lt_trichotomy r.2.1 s.2.1 with hlt | heq | hgt
        · have e := he (s.2.1 - 1)
          rw [look_above (q := r.2.1) (t := r :: t) (fun q hq => by rcases List.mem_cons.1 hq with rfl | hq; omega; have := hb q hq; omega) (by omega), look, if_pos (by omega)] at e
          cases e
        · exact heq
        · have e := he (r.2.1 - 1)
          rw [look_above (q := s.2.1) (t := s :: u) (fun q hq => by rcases List.mem_cons.1 hq with rfl | hq; omega; have := hb' q hq; omega) (by omega), look, if_pos (by omega)] at e
          cases e
      have ev : r.2.2 = s.2.2 := by
        have e := he (r.2.1 - 1)
        rw [look, look, if_pos (by omega), if_pos (by omega)] at e
        exact Option.some.inj e
      have key : ∀ {a b : Run β} {x y : List (Run β)}, RunsOk (a :: x) → RunsOk (b :: y) → a.2.1 = b.2.1 → a.2.2 = b.2.2 → (∀ p, look (a :: x) p = look (b :: y) p) → ¬ a.1 < b.1 := by
        intro a b x y ha hb eh ev he hlt
        have e := he (b.1 - 1)
        have hb1 := hb.1
        rw [look, if_pos (by omega), look, if_neg (by omega)] at e
        cases y with
        | nil => cases e
        | cons c y =>
          obtain ⟨_, ⟨g1, g2⟩, g3⟩ := hb
          have g4 := RunsOk.below g3
          by_cases hc : c.2.1 = b.1
          · have g5 := g3.1
            rw [look, if_pos (by omega)] at e
            exact g2 hc ((Option.some.inj e).symm.trans ev)
          · rw [look_above (q := c.2.1) (fun q hq => by rcases List.mem_cons.1 hq with rfl | hq; omega; have := g4 q hq; have := g3.1; omega) (by omega)] at e
            cases e
      have elo : r.1 = s.1 := by
        have k1 := key h h' ehi ev he
        have k2 := key h' h ehi.symm ev.symm (fun p => (he p).symm)
        omega
      have er : r = s := by
        obtain ⟨a, b, c⟩ := r
        obtain ⟨a', b', c'⟩ := s
        simp only at elo ehi ev
        rw [elo, ehi, ev]
      subst er
      congr 1
      refine ih h.tail h'.tail (fun p => ?_)
      by_cases hp : r.1 ≤ p
      · rw [look_above hb hp, look_above hb' hp]
      · have e := he p
        rw [look, look, if_neg (by omega), if_neg (by omega)] at e
        exact e
end

/-! ### Spans along X: runs without a value -/
abbrev Spans := List (Run Unit)
def spR (y y' : Int) (s : Run Unit) : Rect := ⟨s.1, y, s.2.1, y'⟩
/-- The rectangles of a band, from the left. -/
def bandR (y y' : Int) (sp : Spans) : List Rect := (sp.map (spR y y')).reverse
def rget (l : List Rect) (i : Nat) : Rect := l.getD i ⟨0, 0, 0, 0⟩
def hasL (l : List Rect) (x y : Int) : Bool := l.any fun r => hasB r.x0 r.y0 r.x1 r.y1 x y
/-- One more cell of a band. -/
def putX (own : List Rect) (x x' y y' : Int) : List Rect :=
  if 0 < own.length ∧ (rget own (own.length - 1)).x1 = x then own.set (own.length - 1) { rget own (own.length - 1) with x1 := x' } else own ++ [⟨x, y, x', y'⟩]
def ownL (f : Int → Bool) (y y' : Int) (xs : List Int) : Nat → List Rect
  | 0 => []
  | i + 1 => if f (xs.getD i 0) then putX (ownL f y y' xs i) (xs.getD i 0) (xs.getD (i + 1) 0) y y' else ownL f y y' xs i
/-- A grid: numbers that rise. -/
def Rise (xs : List Int) : Prop := ∀ i, i + 1 < xs.length → xs.getD i 0 < xs.getD (i + 1) 0
theorem Rise.lt {xs : List Int} (h : Rise xs) {i j : Nat} (hij : i < j) (hj : j < xs.length) : xs.getD i 0 < xs.getD j 0 := by
  induction j with
  | zero => omega
  | succ j ih =>
    have h1 := h j hj
    by_cases e : i = j
    · subst e; exact h1
    · have := ih (by omega) (by omega); omega
theorem Rise.le {xs : List Int} (h : Rise xs) {i j : Nat} (hij : i ≤ j) (hj : j < xs.length) : xs.getD i 0 ≤ xs.getD j 0 := by
  by_cases e : i = j
  · subst e; omega
  · have := h.lt (i := i) (j := j) (by omega) hj; omega

theorem bandR_length (y y' : Int) (sp : Spans) : (bandR y y' sp).length = sp.length := by simp [bandR]
theorem bandR_last (y y' : Int) (s : Run Unit) (sp : Spans) : rget (bandR y y' (s :: sp)) (sp.length) = ⟨s.1, y, s.2.1, y'⟩ := by
  simp [rget, bandR, List.getD_eq_getElem?_getD, List.getElem?_append_right, spR]
theorem set_last {α : Type} (l : List α) (a b : α) : (l ++ [a]).set l.length b = l ++ [b] := by
  induction l with
  | nil => rfl
  | cons x l ih => simp [ih]
theorem putX_band {sp : Spans} {x x' y y' : Int} (h : RunsOk sp) (hb : ∀ s ∈ sp, s.2.1 ≤ x) (hx : x < x') :
    ∃ sp', RunsOk sp' ∧ putX (bandR y y' sp) x x' y y' = bandR y y' sp' ∧ (∀ s ∈ sp', s.2.1 ≤ x') ∧ ∀ t, (look sp' t).isSome = (decide (x ≤ t ∧ t < x') || (look sp t).isSome) := by
  cases sp with
  | nil =>
    refine ⟨[(x, x', ())], ⟨hx, trivial, trivial⟩, by simp [putX, bandR, spR], fun s hs => by simp at hs; subst hs; exact Int.le_refl _, fun t => ?_⟩
    by_cases ht : x ≤ t ∧ t < x' <;> simp [look, ht]
  | cons s sp =>
    have hs := hb s (by simp)
    unfold putX
    rw [bandR_length, List.length_cons, Nat.add_sub_cancel, bandR_last]
    by_cases e : s.2.1 = x
    · rw [if_pos ⟨by omega, e⟩]
      refine ⟨(s.1, x', ()) :: sp, ⟨by have := h.1; simp only; omega, h.2.1, h.2.2⟩, ?_, fun q hq => ?_, fun t => ?_⟩
      · have e2 : bandR y y' (s :: sp) = bandR y y' sp ++ [spR y y' s] := by simp [bandR]
        have e3 : bandR y y' ((s.1, x', ()) :: sp) = bandR y y' sp ++ [⟨s.1, y, x', y'⟩] := by simp [bandR, spR]
        rw [e2, e3]
        have := set_last (bandR y y' sp) (spR y y' s) (⟨s.1, y, x', y'⟩ : Rect)
        rw [bandR_length] at this
        exact this
      · rcases List.mem_cons.1 hq with rfl | hq
        · exact Int.le_refl _
        · have := h.below q hq; have := h.1; omega
      · have h1 := h.1
        by_cases a : x ≤ t ∧ t < x'
        · rw [look, if_pos (by simp only; omega)]; simp [a]
        · by_cases b : s.1 ≤ t ∧ t < s.2.1
          · rw [look, look, if_pos (by simp only; omega), if_pos b]; simp
          · rw [look, look, if_neg (by simp only; omega), if_neg b]; simp [a]
    · rw [if_neg (fun h => e h.2)]
      refine ⟨(x, x', ()) :: s :: sp, ⟨hx, ⟨hs, fun h => absurd h e⟩, h⟩, by simp [bandR, spR], fun q hq => ?_, fun t => ?_⟩
      · rcases List.mem_cons.1 hq with rfl | hq
        · exact Int.le_refl _
        · have := hb q hq; omega
      · rw [look]
        by_cases a : x ≤ t ∧ t < x' <;> simp [a]
theorem ownL_inv {f : Int → Bool} {y y' : Int} {xs : List Int} (hr : Rise xs) (hc : ∀ k, k + 1 < xs.length → ∀ t, xs.getD k 0 ≤ t → t < xs.getD (k + 1) 0 → f t = f (xs.getD k 0)) :
    ∀ i, i < xs.length → ∃ sp, RunsOk sp ∧ ownL f y y' xs i = bandR y y' sp ∧ (∀ s ∈ sp, s.2.1 ≤ xs.getD i 0) ∧ ∀ t, (look sp t).isSome = (decide (xs.getD 0 0 ≤ t ∧ t < xs.getD i 0) && f t) := by
  intro i
  induction i with
  | zero =>
    intro _
    refine ⟨[], trivial, rfl, fun s hs => (by cases hs), fun t => ?_⟩
    have : ¬ (xs.getD 0 0 ≤ t ∧ t < xs.getD 0 0) := by omega
    rw [decide_eq_false this]; simp [look]
  | succ i ih =>
    intro hi
    obtain ⟨sp, h1, h2, h3, h4⟩ := ih (by omega)
    have hx := hr i hi
    have h0 : xs.getD 0 0 ≤ xs.getD i 0 := hr.le (by omega) (by omega)
    rw [ownL]
    cases hf : f (xs.getD i 0) with
    | true =>
      simp only [if_true]
      rw [h2]
      obtain ⟨sp', g1, g2, g3, g4⟩ := putX_band (y := y) (y' := y') h1 h3 hx
      refine ⟨sp', g1, g2, g3, fun t => ?_⟩
      rw [g4, h4]
      by_cases ht : xs.getD i 0 ≤ t ∧ t < xs.getD (i + 1) 0
      · rw [decide_eq_true ht, hc i hi t ht.1 ht.2, hf, decide_eq_true (show xs.getD 0 0 ≤ t ∧ t < xs.getD (i + 1) 0 by omega)]; simp
      · rw [decide_eq_false ht, Bool.false_or]
        congr 1
        by_cases q : xs.getD 0 0 ≤ t ∧ t < xs.getD i 0
        · rw [decide_eq_true q, decide_eq_true (by omega)]
        · rw [decide_eq_false q, decide_eq_false (by omega)]
    | false =>
      simp only [Bool.false_eq_true, if_false]
      refine ⟨sp, h1, h2, fun s hs => by have := h3 s hs; omega, fun t => ?_⟩
      rw [h4]
      by_cases ht : xs.getD i 0 ≤ t ∧ t < xs.getD (i + 1) 0
      · rw [hc i hi t ht.1 ht.2, hf]; simp
      · congr 1
        by_cases q : xs.getD 0 0 ≤ t ∧ t < xs.getD i 0
        · rw [decide_eq_true q, decide_eq_true (by omega)]
        · rw [decide_eq_false q, decide_eq_false (by omega)]
/-- The whole band. -/
theorem ownL_all {f : Int → Bool} {y y' : Int} {xs : List Int} (hr : Rise xs) (hc : ∀ k, k + 1 < xs.length → ∀ t, xs.getD k 0 ≤ t → t < xs.getD (k + 1) 0 → f t = f (xs.getD k 0))
    (ho : ∀ t, f t = true → ∃ i j, i < xs.length ∧ j < xs.length ∧ xs.getD i 0 ≤ t ∧ t < xs.getD j 0) :
    ∃ sp, RunsOk sp ∧ ownL f y y' xs (xs.length - 1) = bandR y y' sp ∧ ∀ t, (look sp t).isSome = f t := by
  by_cases hl : xs.length = 0
  · refine ⟨[], trivial, by rw [hl]; rfl, fun t => ?_⟩
    cases hf : f t with
    | false => rfl
    | true => obtain ⟨i, _, hi, _⟩ := ho t hf; omega
  · obtain ⟨sp, h1, h2, h3, h4⟩ := ownL_inv (y := y) (y' := y') hr hc (xs.length - 1) (by omega)
    refine ⟨sp, h1, h2, fun t => ?_⟩
    rw [h4]
    cases hf : f t with
    | false => simp
    | true =>
      obtain ⟨i, j, hi, hj, a, b⟩ := ho t hf
      have := hr.le (i := 0) (j := i) (by omega) hi
      have := hr.le (i := j) (j := xs.length - 1) (by omega) (by omega)
      rw [decide_eq_true (by omega)]; rfl

/-! ### Bands: runs of spans -/
abbrev Bands := List (Run Spans)
def flatR : Bands → List Rect
  | [] => []
  | b :: t => flatR t ++ bandR b.1 b.2.1 b.2.2
def memB (bs : Bands) (x y : Int) : Bool := match look bs y with
  | some sp => (look sp x).isSome
  | none => false
structure BandsOk (bs : Bands) : Prop where
  runs : RunsOk bs
  each : ∀ b ∈ bs, RunsOk b.2.2 ∧ b.2.2 ≠ []
/-- A list is the region of these points. -/
def IsReg (l : List Rect) (F : Int → Int → Bool) : Prop := ∃ bs, BandsOk bs ∧ l = flatR bs ∧ ∀ x y, memB bs x y = F x y
theorem look_mem {β : Type} {l : List (Run β)} {p : Int} {v : β} (h : look l p = some v) : ∃ r ∈ l, r.2.2 = v ∧ r.1 ≤ p ∧ p < r.2.1 := by
  induction l with
  | nil => cases h
  | cons r t ih =>
    rw [look] at h
    split at h
    · rename_i hc
      cases h
      exact ⟨r, by simp, rfl, hc.1, hc.2⟩
    · obtain ⟨s, hs, h1, h2⟩ := ih h
      exact ⟨s, by simp [hs], h1, h2⟩
theorem look_first {β : Type} {r : Run β} {t : List (Run β)} (h : RunsOk (r :: t)) : look (r :: t) r.1 = some r.2.2 := by
  have := h.1
  rw [look, if_pos (by omega)]
theorem IsReg.unique {l l' : List Rect} {F : Int → Int → Bool} (h : IsReg l F) (h' : IsReg l' F) : l = l' := by
  obtain ⟨bs, h1, rfl, h2⟩ := h
  obtain ⟨bs', h1', rfl, h2'⟩ := h'
  have : bs = bs' := by
    refine runs_unique h1.runs h1'.runs (fun y => ?_)
    have hm : ∀ x, memB bs x y = memB bs' x y := fun x => (h2 x y).trans (h2' x y).symm
    unfold memB at hm
    cases e : look bs y with
    | none =>
      cases e' : look bs' y with
      | none => rfl
      | some sp' =>
        obtain ⟨r, hr, rfl, _⟩ := look_mem e'
        obtain ⟨g1, g2⟩ := h1'.each r hr
        cases hsp : r.2.2 with
        | nil => exact absurd hsp g2
        | cons s t =>
          rw [hsp] at g1
          have := hm s.1
          rw [e, e'] at this
          simp only [hsp, look_first g1] at this
          cases this
    | some sp =>
      obtain ⟨r, hr, rfl, _⟩ := look_mem e
      obtain ⟨g1, g2⟩ := h1.each r hr
      cases e' : look bs' y with
      | none =>
        cases hsp : r.2.2 with
        | nil => exact absurd hsp g2
        | cons s t =>
          rw [hsp] at g1
          have := hm s.1
          rw [e, e'] at this
          simp only [hsp, look_first g1] at this
          cases this
      | some sp' =>
        obtain ⟨r', hr', rfl, _⟩ := look_mem e'
        obtain ⟨g1', g2'⟩ := h1'.each r' hr'
        congr 1
        refine runs_unique g1 g1' (fun x => ?_)
        have := hm x
        rw [e, e'] at this
        simp only at this
        cases a : look r.2.2 x <;> cases b : look r'.2.2 x <;> simp_all
  rw [this]

theorem hasL_append (a b : List Rect) (x y : Int) : hasL (a ++ b) x y = (hasL a x y || hasL b x y) := by simp [hasL]
theorem hasL_band (y0 y1 : Int) (sp : Spans) (x y : Int) : hasL (bandR y0 y1 sp) x y = (decide (y0 ≤ y ∧ y < y1) && (look sp x).isSome) := by
  induction sp with
  | nil => simp [hasL, bandR, look]
  | cons s sp ih =>
    have e : bandR y0 y1 (s :: sp) = bandR y0 y1 sp ++ [spR y0 y1 s] := by simp [bandR]
    rw [e, hasL_append, ih]
    have e2 : hasL [spR y0 y1 s] x y = (decide (y0 ≤ y ∧ y < y1) && decide (s.1 ≤ x ∧ x < s.2.1)) := by
      simp only [hasL, List.any_cons, List.any_nil, Bool.or_false, spR]
      rw [Bool.eq_iff_iff, hasB_true]
      simp only [Bool.and_eq_true, decide_eq_true_eq]
      omega
    rw [e2, look]
    by_cases hx : s.1 ≤ x ∧ x < s.2.1
    · rw [if_pos hx, decide_eq_true hx]
      cases decide (y0 ≤ y ∧ y < y1) <;> simp
    · rw [if_neg hx, decide_eq_false hx]
      simp
theorem hasL_flat : ∀ {bs : Bands}, RunsOk bs → ∀ x y, hasL (flatR bs) x y = memB bs x y := by
  intro bs
  induction bs with
  | nil => intro _ x y; rfl
  | cons b t ih =>
    intro h x y
    rw [flatR, hasL_append, ih h.tail, hasL_band]
    unfold memB
    rw [look]
    by_cases hy : b.1 ≤ y ∧ y < b.2.1
    · rw [look_above h.below hy.1, if_pos hy, decide_eq_true hy]; simp
    · rw [if_neg hy, decide_eq_false hy]; simp
theorem IsReg.has {l : List Rect} {F : Int → Int → Bool} (h : IsReg l F) (x y : Int) : hasL l x y = F x y := by
  obtain ⟨bs, h1, rfl, h2⟩ := h
  rw [hasL_flat h1.runs, h2]
theorem IsReg.self {l : List Rect} {F : Int → Int → Bool} (h : IsReg l F) : IsReg l (hasL l) := by
  obtain ⟨bs, h1, rfl, h2⟩ := h
  exact ⟨bs, h1, rfl, fun x y => (hasL_flat h1.runs x y).symm⟩
theorem IsReg.congr {l : List Rect} {F G : Int → Int → Bool} (h : IsReg l F) (e : ∀ x y, F x y = G x y) : IsReg l G := by
  obtain ⟨bs, h1, rfl, h2⟩ := h
  exact ⟨bs, h1, rfl, fun x y => (h2 x y).trans (e x y)⟩

/-! ### The merge of bands -/
/-- How a merge tells that the last band goes on: of the last band's rectangles, the next one's, and where that begins. -/
structure Alike (al : List Rect → List Rect → Int → Bool) : Prop where
  nil : ∀ o y, al [] o y = false
  none : ∀ l y, al l [] y = false
  band : ∀ (b : Run Spans) (sp : Spans) (y' : Int), b.2.2 ≠ [] → sp ≠ [] → al (bandR b.1 b.2.1 b.2.2) (bandR b.2.1 y' sp) b.2.1 = decide (b.2.2 = sp)
def setY1 (y : Int) (l : List Rect) : List Rect := l.map fun r => { r with y1 := y }
def mgSt (al : List Rect → List Rect → Int → Bool) (own : Nat → List Rect) (ys : List Int) : Nat → List Rect × List Rect
  | 0 => ([], [])
  | i + 1 => if al (mgSt al own ys i).2 (own i) (ys.getD i 0) then ((mgSt al own ys i).1, setY1 (ys.getD (i + 1) 0) (mgSt al own ys i).2) else ((mgSt al own ys i).1 ++ (mgSt al own ys i).2, own i)
def mgL (al : List Rect → List Rect → Int → Bool) (own : Nat → List Rect) (ys : List Int) : List Rect := (mgSt al own ys (ys.length - 1)).1 ++ (mgSt al own ys (ys.length - 1)).2
theorem setY1_band (y y' z : Int) (sp : Spans) : setY1 z (bandR y y' sp) = bandR y z sp := by
  simp [setY1, bandR, List.map_reverse, Function.comp_def, spR]
theorem bandR_nil_iff {y y' : Int} {sp : Spans} : bandR y y' sp = [] ↔ sp = [] := by simp [bandR]
theorem mgSt_inv {al : List Rect → List Rect → Int → Bool} (hal : Alike al) {own : Nat → List Rect} {ys : List Int} {F : Int → Int → Bool} (hr : Rise ys)
    (hown : ∀ i, i + 1 < ys.length → ∃ sp, RunsOk sp ∧ own i = bandR (ys.getD i 0) (ys.getD (i + 1) 0) sp ∧ ∀ t, (look sp t).isSome = F t (ys.getD i 0))
    (hc : ∀ k, k + 1 < ys.length → ∀ t, ys.getD k 0 ≤ t → t < ys.getD (k + 1) 0 → ∀ x, F x t = F x (ys.getD k 0)) :
    ∀ i, i < ys.length → ∃ bs, BandsOk bs ∧ (mgSt al own ys i).1 ++ (mgSt al own ys i).2 = flatR bs ∧ (∀ b ∈ bs, b.2.1 ≤ ys.getD i 0) ∧
      ((mgSt al own ys i).2 = [] ∧ (∀ b ∈ bs, b.2.1 < ys.getD i 0) ∨ ∃ b t, bs = b :: t ∧ (mgSt al own ys i).1 = flatR t ∧ (mgSt al own ys i).2 = bandR b.1 b.2.1 b.2.2 ∧ b.2.1 = ys.getD i 0) ∧
      ∀ x y, memB bs x y = (decide (ys.getD 0 0 ≤ y ∧ y < ys.getD i 0) && F x y) := by
  intro i
  induction i with
  | zero =>
    intro _
    refine ⟨[], ⟨trivial, fun b hb => by cases hb⟩, rfl, fun b hb => (by cases hb), .inl ⟨rfl, fun b hb => by cases hb⟩, fun x y => ?_⟩
    rw [decide_eq_false (by omega)]; rfl
  | succ i ih =>
    intro hi
    obtain ⟨bs, h1, h2, h3, h4, h5⟩ := ih (by omega)
    obtain ⟨sp, s1, s2, s3⟩ := hown i hi
    have hy := hr i hi
    have h0 : ys.getD 0 0 ≤ ys.getD i 0 := hr.le (by omega) (by omega)
    -- the points of one more cell
    have pts : ∀ x y, (decide (ys.getD 0 0 ≤ y ∧ y < ys.getD (i + 1) 0) && F x y) = if ys.getD i 0 ≤ y ∧ y < ys.getD (i + 1) 0 then (look sp x).isSome else (decide (ys.getD 0 0 ≤ y ∧ y < ys.getD i 0) && F x y) := by
      intro x y
      by_cases hc1 : ys.getD i 0 ≤ y ∧ y < ys.getD (i + 1) 0
      · rw [if_pos hc1, decide_eq_true (by omega), hc i hi y hc1.1 hc1.2 x, s3]; rfl
      · rw [if_neg hc1]
        congr 1
        by_cases q : ys.getD 0 0 ≤ y ∧ y < ys.getD i 0
        · rw [decide_eq_true q, decide_eq_true (by omega)]
        · rw [decide_eq_false q, decide_eq_false (by omega)]
    rw [mgSt]
    by_cases hsp : sp = []
    · -- nothing in the cell
      subst hsp
      have ho : own i = [] := by rw [s2]; rfl
      rw [ho, hal.none]
      simp only [Bool.false_eq_true, if_false]
      refine ⟨bs, h1, by rw [List.append_nil]; exact h2, fun b hb => by have := h3 b hb; omega, .inl ⟨trivial, fun b hb => by have := h3 b hb; omega⟩, fun x y => ?_⟩
      rw [pts, h5]
      split
      · rw [decide_eq_false (by omega)]; rfl
      · rfl
    · have newband : (∀ b t, bs = b :: t → b.2.1 = ys.getD i 0 → b.2.2 ≠ sp) → ∃ bs', BandsOk bs' ∧ ((mgSt al own ys i).1 ++ (mgSt al own ys i).2) ++ own i = flatR bs' ∧ (∀ b ∈ bs', b.2.1 ≤ ys.getD (i + 1) 0) ∧
          (own i = [] ∧ (∀ b ∈ bs', b.2.1 < ys.getD (i + 1) 0) ∨ ∃ b t, bs' = b :: t ∧ ((mgSt al own ys i).1 ++ (mgSt al own ys i).2) = flatR t ∧ own i = bandR b.1 b.2.1 b.2.2 ∧ b.2.1 = ys.getD (i + 1) 0) ∧
          ∀ x y, memB bs' x y = (decide (ys.getD 0 0 ≤ y ∧ y < ys.getD (i + 1) 0) && F x y) := by
        intro hne
        refine ⟨(ys.getD i 0, ys.getD (i + 1) 0, sp) :: bs, ⟨⟨hy, ?_, h1.runs⟩, fun b hb => ?_⟩, by rw [flatR, h2, s2], fun b hb => ?_, .inr ⟨_, _, rfl, h2, s2, rfl⟩, fun x y => ?_⟩
        · cases bs with
          | nil => trivial
          | cons b t => exact ⟨h3 b (by simp), fun he => hne b t rfl he⟩
        · rcases List.mem_cons.1 hb with rfl | hb
          · exact ⟨s1, hsp⟩
          · exact h1.each b hb
        · rcases List.mem_cons.1 hb with rfl | hb
          · exact Int.le_refl _
          · have := h3 b hb; omega
        · rw [pts, ← h5]
          unfold memB
          rw [look]
          simp only
          by_cases hc1 : ys.getD i 0 ≤ y ∧ y < ys.getD (i + 1) 0
          · rw [if_pos hc1, if_pos hc1]
          · rw [if_neg hc1, if_neg hc1]
      rcases h4 with ⟨hl, hlt⟩ | ⟨b, t, rfl, g1, g2, g3⟩
      · rw [hl, hal.nil]
        simp only [Bool.false_eq_true, if_false]
        rw [hl] at newband
        exact newband (fun b t hb he => by have := hlt b (by rw [hb]; simp); omega)
      · have hb := h1.each b (by simp)
        have ha : al (mgSt al own ys i).2 (own i) (ys.getD i 0) = decide (b.2.2 = sp) := by
          rw [g2, s2, ← g3]; exact hal.band b sp _ hb.2 hsp
        rw [ha]
        by_cases he : b.2.2 = sp
        · rw [decide_eq_true he]
          simp only [if_true]
          refine ⟨(b.1, ys.getD (i + 1) 0, sp) :: t, ⟨⟨by have := h1.runs.1; simp only; omega, ?_, h1.runs.2.2⟩, fun q hq => ?_⟩, ?_, fun q hq => ?_, .inr ⟨_, _, rfl, g1, ?_, rfl⟩, fun x y => ?_⟩
          · have := h1.runs.2.1
            rw [he] at this
            exact this
          · rcases List.mem_cons.1 hq with rfl | hq
            · exact ⟨s1, hsp⟩
            · exact h1.each q (by simp [hq])
          · rw [g1, g2, setY1_band, he]; rfl
          · rcases List.mem_cons.1 hq with rfl | hq
            · exact Int.le_refl _
            · have := h3 q (by simp [hq]); omega
          · rw [g2, setY1_band, he]
          · rw [pts, ← h5]
            have h6 := h1.runs.1
            unfold memB
            rw [look, look]
            simp only
            by_cases hc1 : ys.getD i 0 ≤ y ∧ y < ys.getD (i + 1) 0
            · rw [if_pos (by omega), if_pos hc1]
            · rw [if_neg hc1]
              by_cases hc2 : b.1 ≤ y ∧ y < b.2.1
              · rw [if_pos (by omega), if_pos hc2, he]
              · rw [if_neg (by omega), if_neg hc2]
        · rw [decide_eq_false he]
          simp only [Bool.false_eq_true, if_false]
          exact newband (fun b' t' hb' _ => by cases hb'; exact he)
theorem mgL_isReg {al : List Rect → List Rect → Int → Bool} (hal : Alike al) {own : Nat → List Rect} {ys : List Int} {F : Int → Int → Bool} (hr : Rise ys)
    (hown : ∀ i, i + 1 < ys.length → ∃ sp, RunsOk sp ∧ own i = bandR (ys.getD i 0) (ys.getD (i + 1) 0) sp ∧ ∀ t, (look sp t).isSome = F t (ys.getD i 0))
    (hc : ∀ k, k + 1 < ys.length → ∀ t, ys.getD k 0 ≤ t → t < ys.getD (k + 1) 0 → ∀ x, F x t = F x (ys.getD k 0))
    (ho : ∀ x t, F x t = true → ∃ i j, i < ys.length ∧ j < ys.length ∧ ys.getD i 0 ≤ t ∧ t < ys.getD j 0) : IsReg (mgL al own ys) F := by
  by_cases hl : ys.length = 0
  · refine ⟨[], ⟨trivial, fun b hb => by cases hb⟩, by unfold mgL; rw [hl]; rfl, fun x y => ?_⟩
    cases hf : F x y with
    | false => rfl
    | true => obtain ⟨i, _, hi, _⟩ := ho x y hf; omega
  · obtain ⟨bs, h1, h2, _, _, h5⟩ := mgSt_inv hal hr hown hc (ys.length - 1) (by omega)
    refine ⟨bs, h1, h2, fun x y => ?_⟩
    rw [h5]
    cases hf : F x y with
    | false => simp
    | true =>
      obtain ⟨i, j, hi, hj, a, b⟩ := ho x y hf
      have := hr.le (i := 0) (j := i) (by omega) hi
      have := hr.le (i := j) (j := ys.length - 1) (by omega) (by omega)
      rw [decide_eq_true (by omega)]; rfl
end Go.Proofs.Ytlfahohbkgdabaa

