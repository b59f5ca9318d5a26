/- Texts of this proof's own, put together: what each holds is told ahead of it. -/
import Derived.Test.YtlfahohbkgdabaaPeG0
import Derived.Lib.SlicesCompact
import Derived.Test.YtlfahohbkgdabaaPeG1
import Derived.Lib.SliceRun
import Derived.Test.YtlfahohbkgdabaaPeG2
import Derived.Test.YtlfahohbkgdabaaProg
import Derived.Test.YtlfahohbkgdabaaRows
import Derived.ProofKit
import Derived.OpenShut
import Derived.Carry
import Derived.ChangeSame
import Derived.ChangeSlices
import Derived.Deep.Slices
import Derived.Deep.Fields
import Derived.Lib.SmallJoins
/- Plain words of regions: runs of numbers, bands, the region of points; what a merge of two lists of rectangles comes to. -/
set_option linter.unusedVariables false
set_option linter.unusedSimpArgs false
namespace Go.Proofs.Ytlfahohbkgdabaa
open Go Go.RowKit

/-! ### Runs: the last one first -/
section
variable {β : Type}
abbrev Run (β : Type) := Int × Int × β
def RunsOk : List (Run β) → Prop
  | [] => True
  | r :: t => r.1 < r.2.1 ∧ (match t with | [] => True | s :: _ => s.2.1 ≤ r.1 ∧ (s.2.1 = r.1 → s.2.2 ≠ r.2.2)) ∧ RunsOk t
def look : List (Run β) → Int → Option β
  | [], _ => none
  | r :: t, p => if r.1 ≤ p ∧ p < r.2.1 then some r.2.2 else look t p
theorem RunsOk.tail {r : Run β} {t : List (Run β)} (h : RunsOk (r :: t)) : RunsOk t := h.2.2
theorem RunsOk.below {r : Run β} {t : List (Run β)} (h : RunsOk (r :: t)) : ∀ s ∈ t, s.2.1 ≤ r.1 := by
  induction t generalizing r with
  | nil => intro s hs; cases hs
  | cons q t ih =>
    intro s hs
    obtain ⟨_, ⟨h1, _⟩, h2⟩ := h
    rcases List.mem_cons.1 hs with rfl | hs
    · exact h1
    · have := ih h2 s hs
      have := h2.1
      omega
theorem look_above {t : List (Run β)} {p q : Int} (h : ∀ s ∈ t, s.2.1 ≤ q) (hp : q ≤ p) : look t p = none := by
  induction t with
  | nil => rfl
  | cons r t ih =>
    have := h r (by simp)
    rw [look, if_neg (by omega)]
    exact ih (fun s hs => h s (by simp [hs]))
theorem runs_unique : ∀ {l l' : List (Run β)}, RunsOk l → RunsOk l' → (∀ p, look l p = look l' p) → l = l' := by
  intro l
  induction l with
  | nil =>
    intro l' _ h' he
    cases l' with
    | nil => rfl
    | cons r t =>
      have := he r.1
      have h1 := h'.1
      rw [look, look, if_pos (by omega)] at this
      cases this
  | cons r t ih =>
    intro l' h h' he
    cases l' with
    | nil =>
      have := he r.1
      have h1 := h.1
      rw [look, look, if_pos (by omega)] at this
      cases this
    | cons s u =>
      have h1 := h.1
      have h1' := h'.1
      have hb := h.below
      have hb' := h'.below
      have ehi : r.2.1 = s.2.1 := by
        rcases Int.lt_trichotomy r.2.1 s.2.1 with hlt | heq | hgt
        · have e := he (s.2.1 - 1)
          rw [look_above (q := r.2.1) (t := r :: t) (fun q hq => by rcases List.mem_cons.1 hq with rfl | hq; omega; have := hb q hq; omega) (by omega), look, if_pos (by omega)] at e
          cases e
        · exact heq
        · have e := he (r.2.1 - 1)
          rw [look_above (q := s.2.1) (t := s :: u) (fun q hq => by rcases List.mem_cons.1 hq with rfl | hq; omega; have := hb' q hq; omega) (by omega), look, if_pos (by omega)] at e
          cases e
      have ev : r.2.2 = s.2.2 := by
        have e := he (r.2.1 - 1)
        rw [look, look, if_pos (by omega), if_pos (by omega)] at e
        exact Option.some.inj e
      have key : ∀ {a b : Run β} {x y : List (Run β)}, RunsOk (a :: x) → RunsOk (b :: y) → a.2.1 = b.2.1 → a.2.2 = b.2.2 → (∀ p, look (a :: x) p = look (b :: y) p) → ¬ a.1 < b.1 := by
        intro a b x y ha hb eh ev he hlt
        have e := he (b.1 - 1)
        have hb1 := hb.1
        rw [look, if_pos (by omega), look, if_neg (by omega)] at e
        cases y with
        | nil => cases e
        | cons c y =>
          obtain ⟨_, ⟨g1, g2⟩, g3⟩ := hb
          have g4 := RunsOk.below g3
          by_cases hc : c.2.1 = b.1
          · have g5 := g3.1
            rw [look, if_pos (by omega)] at e
            exact g2 hc ((Option.some.inj e).symm.trans ev)
          · rw [look_above (q := c.2.1) (fun q hq => by rcases List.mem_cons.1 hq with rfl | hq; omega; have := g4 q hq; have := g3.1; omega) (by omega)] at e
            cases e
      have elo : r.1 = s.1 := by
        have k1 := key h h' ehi ev he
        have k2 := key h' h ehi.symm ev.symm (fun p => (he p).symm)
        omega
      have er : r = s := by
        obtain ⟨a, b, c⟩ := r
        obtain ⟨a', b', c'⟩ := s
        simp only at elo ehi ev
        rw [elo, ehi, ev]
      subst er
      congr 1
      refine ih h.tail h'.tail (fun p => ?_)
      by_cases hp : r.1 ≤ p
      · rw [look_above hb hp, look_above hb' hp]
      · have e := he p
        rw [look, look, if_neg (by omega), if_neg (by omega)] at e
        exact e
end

/-! ### Spans along X: runs without a value -/
abbrev Spans := List (Run Unit)
def spR (y y' : Int) (s : Run Unit) : Rect := ⟨s.1, y, s.2.1, y'⟩
/-- The rectangles of a band, from the left. -/
def bandR (y y' : Int) (sp : Spans) : List Rect := (sp.map (spR y y')).reverse
def rget (l : List Rect) (i : Nat) : Rect := l.getD i ⟨0, 0, 0, 0⟩
def hasL (l : List Rect) (x y : Int) : Bool := l.any fun r => hasB r.x0 r.y0 r.x1 r.y1 x y
/-- One more cell of a band. -/
def putX (own : List Rect) (x x' y y' : Int) : List Rect :=
  if 0 < own.length ∧ (rget own (own.length - 1)).x1 = x then own.set (own.length - 1) { rget own (own.length - 1) with x1 := x' } else own ++ [⟨x, y, x', y'⟩]
def ownL (f : Int → Bool) (y y' : Int) (xs : List Int) : Nat → List Rect
  | 0 => []
  | i + 1 => if f (xs.getD i 0) then putX (ownL f y y' xs i) (xs.getD i 0) (xs.getD (i + 1) 0) y y' else ownL f y y' xs i
/-- A grid: numbers that rise. -/
def Rise (xs : List Int) : Prop := ∀ i, i + 1 < xs.length → xs.getD i 0 < xs.getD (i + 1) 0
theorem Rise.lt {xs : List Int} (h : Rise xs) {i j : Nat} (hij : i < j) (hj : j < xs.length) : xs.getD i 0 < xs.getD j 0 := by
  induction j with
  | zero => omega
  | succ j ih =>
    have h1 := h j hj
    by_cases e : i = j
    · subst e; exact h1
    · have := ih (by omega) (by omega); omega
theorem Rise.le {xs : List Int} (h : Rise xs) {i j : Nat} (hij : i ≤ j) (hj : j < xs.length) : xs.getD i 0 ≤ xs.getD j 0 := by
  by_cases e : i = j
  · subst e; omega
  · have := h.lt (i := i) (j := j) (by omega) hj; omega

theorem bandR_length (y y' : Int) (sp : Spans) : (bandR y y' sp).length = sp.length := by simp [bandR]
theorem bandR_last (y y' : Int) (s : Run Unit) (sp : Spans) : rget (bandR y y' (s :: sp)) (sp.length) = ⟨s.1, y, s.2.1, y'⟩ := by
  simp [rget, bandR, List.getD_eq_getElem?_getD, List.getElem?_append_right, spR]
theorem set_last {α : Type} (l : List α) (a b : α) : (l ++ [a]).set l.length b = l ++ [b] := by
  induction l with
  | nil => rfl
  | cons x l ih => simp [ih]
theorem putX_band {sp : Spans} {x x' y y' : Int} (h : RunsOk sp) (hb : ∀ s ∈ sp, s.2.1 ≤ x) (hx : x < x') :
    ∃ sp', RunsOk sp' ∧ putX (bandR y y' sp) x x' y y' = bandR y y' sp' ∧ (∀ s ∈ sp', s.2.1 ≤ x') ∧ ∀ t, (look sp' t).isSome = (decide (x ≤ t ∧ t < x') || (look sp t).isSome) := by
  cases sp with
  | nil =>
    refine ⟨[(x, x', ())], ⟨hx, trivial, trivial⟩, by simp [putX, bandR, spR], fun s hs => by simp at hs; subst hs; exact Int.le_refl _, fun t => ?_⟩
    by_cases ht : x ≤ t ∧ t < x' <;> simp [look, ht]
  | cons s sp =>
    have hs := hb s (by simp)
    unfold putX
    rw [bandR_length, List.length_cons, Nat.add_sub_cancel, bandR_last]
    by_cases e : s.2.1 = x
    · rw [if_pos ⟨by omega, e⟩]
      refine ⟨(s.1, x', ()) :: sp, ⟨by have := h.1; simp only; omega, h.2.1, h.2.2⟩, ?_, fun q hq => ?_, fun t => ?_⟩
      · have e2 : bandR y y' (s :: sp) = bandR y y' sp ++ [spR y y' s] := by simp [bandR]
        have e3 : bandR y y' ((s.1, x', ()) :: sp) = bandR y y' sp ++ [⟨s.1, y, x', y'⟩] := by simp [bandR, spR]
        rw [e2, e3]
        have := set_last (bandR y y' sp) (spR y y' s) (⟨s.1, y, x', y'⟩ : Rect)
        rw [bandR_length] at this
        exact this
      · rcases List.mem_cons.1 hq with rfl | hq
        · exact Int.le_refl _
        · have := h.below q hq; have := h.1; omega
      · have h1 := h.1
        by_cases a : x ≤ t ∧ t < x'
        · rw [look, if_pos (by simp only; omega)]; simp [a]
        · by_cases b : s.1 ≤ t ∧ t < s.2.1
          · rw [look, look, if_pos (by simp only; omega), if_pos b]; simp
          · rw [look, look, if_neg (by simp only; omega), if_neg b]; simp [a]
    · rw [if_neg (fun h => e h.2)]
      refine ⟨(x, x', ()) :: s :: sp, ⟨hx, ⟨hs, fun h => absurd h e⟩, h⟩, by simp [bandR, spR], fun q hq => ?_, fun t => ?_⟩
      · rcases List.mem_cons.1 hq with rfl | hq
        · exact Int.le_refl _
        · have := hb q hq; omega
      · rw [look]
        by_cases a : x ≤ t ∧ t < x' <;> simp [a]
theorem ownL_inv {f : Int → Bool} {y y' : Int} {xs : List Int} (hr : Rise xs) (hc : ∀ k, k + 1 < xs.length → ∀ t, xs.getD k 0 ≤ t → t < xs.getD (k + 1) 0 → f t = f (xs.getD k 0)) :
    ∀ i, i < xs.length → ∃ sp, RunsOk sp ∧ ownL f y y' xs i = bandR y y' sp ∧ (∀ s ∈ sp, s.2.1 ≤ xs.getD i 0) ∧ ∀ t, (look sp t).isSome = (decide (xs.getD 0 0 ≤ t ∧ t < xs.getD i 0) && f t) := by
  intro i
  induction i with
  | zero =>
    intro _
    refine ⟨[], trivial, rfl, fun s hs => (by cases hs), fun t => ?_⟩
    have : ¬ (xs.getD 0 0 ≤ t ∧ t < xs.getD 0 0) := by omega
    rw [decide_eq_false this]; simp [look]
  | succ i ih =>
    intro hi
    obtain ⟨sp, h1, h2, h3, h4⟩ := ih (by omega)
    have hx := hr i hi
    have h0 : xs.getD 0 0 ≤ xs.getD i 0 := hr.le (by omega) (by omega)
    rw [ownL]
    cases hf : f (xs.getD i 0) with
    | true =>
      simp only [if_true]
      rw [h2]
      obtain ⟨sp', g1, g2, g3, g4⟩ := putX_band (y := y) (y' := y') h1 h3 hx
      refine ⟨sp', g1, g2, g3, fun t => ?_⟩
      rw [g4, h4]
      by_cases ht : xs.getD i 0 ≤ t ∧ t < xs.getD (i + 1) 0
      · rw [decide_eq_true ht, hc i hi t ht.1 ht.2, hf, decide_eq_true (show xs.getD 0 0 ≤ t ∧ t < xs.getD (i + 1) 0 by omega)]; simp
      · rw [decide_eq_false ht, Bool.false_or]
        congr 1
        by_cases q : xs.getD 0 0 ≤ t ∧ t < xs.getD i 0
        · rw [decide_eq_true q, decide_eq_true (by omega)]
        · rw [decide_eq_false q, decide_eq_false (by omega)]
    | false =>
      simp only [Bool.false_eq_true, if_false]
      refine ⟨sp, h1, h2, fun s hs => by have := h3 s hs; omega, fun t => ?_⟩
      rw [h4]
      by_cases ht : xs.getD i 0 ≤ t ∧ t < xs.getD (i + 1) 0
      · rw [hc i hi t ht.1 ht.2, hf]; simp
      · congr 1
        by_cases q : xs.getD 0 0 ≤ t ∧ t < xs.getD i 0
        · rw [decide_eq_true q, decide_eq_true (by omega)]
        · rw [decide_eq_false q, decide_eq_false (by omega)]
/-- The whole band. -/
theorem ownL_all {f : Int → Bool} {y y' : Int} {xs : List Int} (hr : Rise xs) (hc : ∀ k, k + 1 < xs.length → ∀ t, xs.getD k 0 ≤ t → t < xs.getD (k + 1) 0 → f t = f (xs.getD k 0))
    (ho : ∀ t, f t = true → ∃ i j, i < xs.length ∧ j < xs.length ∧ xs.getD i 0 ≤ t ∧ t < xs.getD j 0) :
    ∃ sp, RunsOk sp ∧ ownL f y y' xs (xs.length - 1) = bandR y y' sp ∧ ∀ t, (look sp t).isSome = f t := by
  by_cases hl : xs.length = 0
  · refine ⟨[], trivial, by rw [hl]; rfl, fun t => ?_⟩
    cases hf : f t with
    | false => rfl
    | true => obtain ⟨i, _, hi, _⟩ := ho t hf; omega
  · obtain ⟨sp, h1, h2, h3, h4⟩ := ownL_inv (y := y) (y' := y') hr hc (xs.length - 1) (by omega)
    refine ⟨sp, h1, h2, fun t => ?_⟩
    rw [h4]
    cases hf : f t with
    | false => simp
    | true =>
      obtain ⟨i, j, hi, hj, a, b⟩ := ho t hf
      have := hr.le (i := 0) (j := i) (by omega) hi
      have := hr.le (i := j) (j := xs.length - 1) (by omega) (by omega)
      rw [decide_eq_true (by omega)]; rfl

/-! ### Bands: runs of spans -/
abbrev Bands := List (Run Spans)
def flatR : Bands → List Rect
  | [] => []
  | b :: t => flatR t ++ bandR b.1 b.2.1 b.2.2
def memB (bs : Bands) (x y : Int) : Bool := match look bs y with
  | some sp => (look sp x).isSome
  | none => false
structure BandsOk (bs : Bands) : Prop where
  runs : RunsOk bs
  each : ∀ b ∈ bs, RunsOk b.2.2 ∧ b.2.2 ≠ []
/-- A list is the region of these points. -/
def IsReg (l : List Rect) (F : Int → Int → Bool) : Prop := ∃ bs, BandsOk bs ∧ l = flatR bs ∧ ∀ x y, memB bs x y = F x y
theorem look_mem {β : Type} {l : List (Run β)} {p : Int} {v : β} (h : look l p = some v) : ∃ r ∈ l, r.2.2 = v ∧ r.1 ≤ p ∧ p < r.2.1 := by
  induction l with
  | nil => cases h
  | cons r t ih =>
    rw [look] at h
    split at h
    · rename_i hc
      cases h
      exact ⟨r, by simp, rfl, hc.1, hc.2⟩
    · obtain ⟨s, hs, h1, h2⟩ := ih h
      exact ⟨s, by simp [hs], h1, h2⟩
theorem look_first {β : Type} {r : Run β} {t : List (Run β)} (h : RunsOk (r :: t)) : look (r :: t) r.1 = some r.2.2 := by
  have := h.1
  rw [look, if_pos (by omega)]
theorem IsReg.unique {l l' : List Rect} {F : Int → Int → Bool} (h : IsReg l F) (h' : IsReg l' F) : l = l' := by
  obtain ⟨bs, h1, rfl, h2⟩ := h
  obtain ⟨bs', h1', rfl, h2'⟩ := h'
  have : bs = bs' := by
    refine runs_unique h1.runs h1'.runs (fun y => ?_)
    have hm : ∀ x, memB bs x y = memB bs' x y := fun x => (h2 x y).trans (h2' x y).symm
    unfold memB at hm
    cases e : look bs y with
    | none =>
      cases e' : look bs' y with
      | none => rfl
      | some sp' =>
        obtain ⟨r, hr, rfl, _⟩ := look_mem e'
        obtain ⟨g1, g2⟩ := h1'.each r hr
        cases hsp : r.2.2 with
        | nil => exact absurd hsp g2
        | cons s t =>
          rw [hsp] at g1
          have := hm s.1
          rw [e, e'] at this
          simp only [hsp, look_first g1] at this
          cases this
    | some sp =>
      obtain ⟨r, hr, rfl, _⟩ := look_mem e
      obtain ⟨g1, g2⟩ := h1.each r hr
      cases e' : look bs' y with
      | none =>
        cases hsp : r.2.2 with
        | nil => exact absurd hsp g2
        | cons s t =>
          rw [hsp] at g1
          have := hm s.1
          rw [e, e'] at this
          simp only [hsp, look_first g1] at this
          cases this
      | some sp' =>
        obtain ⟨r', hr', rfl, _⟩ := look_mem e'
        obtain ⟨g1', g2'⟩ := h1'.each r' hr'
        congr 1
        refine runs_unique g1 g1' (fun x => ?_)
        have := hm x
        rw [e, e'] at this
        simp only at this
        cases a : look r.2.2 x <;> cases b : look r'.2.2 x <;> simp_all
  rw [this]

theorem hasL_append (a b : List Rect) (x y : Int) : hasL (a ++ b) x y = (hasL a x y || hasL b x y) := by simp [hasL]
theorem hasL_band (y0 y1 : Int) (sp : Spans) (x y : Int) : hasL (bandR y0 y1 sp) x y = (decide (y0 ≤ y ∧ y < y1) && (look sp x).isSome) := by
  induction sp with
  | nil => simp [hasL, bandR, look]
  | cons s sp ih =>
    have e : bandR y0 y1 (s :: sp) = bandR y0 y1 sp ++ [spR y0 y1 s] := by simp [bandR]
    rw [e, hasL_append, ih]
    have e2 : hasL [spR y0 y1 s] x y = (decide (y0 ≤ y ∧ y < y1) && decide (s.1 ≤ x ∧ x < s.2.1)) := by
      simp only [hasL, List.any_cons, List.any_nil, Bool.or_false, spR]
      rw [Bool.eq_iff_iff, hasB_true]
      simp only [Bool.and_eq_true, decide_eq_true_eq]
      omega
    rw [e2, look]
    by_cases hx : s.1 ≤ x ∧ x < s.2.1
    · rw [if_pos hx, decide_eq_true hx]
      cases decide (y0 ≤ y ∧ y < y1) <;> simp
    · rw [if_neg hx, decide_eq_false hx]
      simp
theorem hasL_flat : ∀ {bs : Bands}, RunsOk bs → ∀ x y, hasL (flatR bs) x y = memB bs x y := by
  intro bs
  induction bs with
  | nil => intro _ x y; rfl
  | cons b t ih =>
    intro h x y
    rw [flatR, hasL_append, ih h.tail, hasL_band]
    unfold memB
    rw [look]
    by_cases hy : b.1 ≤ y ∧ y < b.2.1
    · rw [look_above h.below hy.1, if_pos hy, decide_eq_true hy]; simp
    · rw [if_neg hy, decide_eq_false hy]; simp
theorem IsReg.has {l : List Rect} {F : Int → Int → Bool} (h : IsReg l F) (x y : Int) : hasL l x y = F x y := by
  obtain ⟨bs, h1, rfl, h2⟩ := h
  rw [hasL_flat h1.runs, h2]
theorem IsReg.self {l : List Rect} {F : Int → Int → Bool} (h : IsReg l F) : IsReg l (hasL l) := by
  obtain ⟨bs, h1, rfl, h2⟩ := h
  exact ⟨bs, h1, rfl, fun x y => (hasL_flat h1.runs x y).symm⟩
theorem IsReg.congr {l : List Rect} {F G : Int → Int → Bool} (h : IsReg l F) (e : ∀ x y, F x y = G x y) : IsReg l G := by
  obtain ⟨bs, h1, rfl, h2⟩ := h
  exact ⟨bs, h1, rfl, fun x y => (h2 x y).trans (e x y)⟩

/-! ### The merge of bands -/
/-- How a merge tells that the last band goes on: of the last band's rectangles, the next one's, and where that begins. -/
structure Alike (al : List Rect → List Rect → Int → Bool) : Prop where
  nil : ∀ o y, al [] o y = false
  none : ∀ l y, al l [] y = false
  band : ∀ (b : Run Spans) (sp : Spans) (y' : Int), b.2.2 ≠ [] → sp ≠ [] → al (bandR b.1 b.2.1 b.2.2) (bandR b.2.1 y' sp) b.2.1 = decide (b.2.2 = sp)
def setY1 (y : Int) (l : List Rect) : List Rect := l.map fun r => { r with y1 := y }
def mgSt (al : List Rect → List Rect → Int → Bool) (own : Nat → List Rect) (ys : List Int) : Nat → List Rect × List Rect
  | 0 => ([], [])
  | i + 1 => if al (mgSt al own ys i).2 (own i) (ys.getD i 0) then ((mgSt al own ys i).1, setY1 (ys.getD (i + 1) 0) (mgSt al own ys i).2) else ((mgSt al own ys i).1 ++ (mgSt al own ys i).2, own i)
def mgL (al : List Rect → List Rect → Int → Bool) (own : Nat → List Rect) (ys : List Int) : List Rect := (mgSt al own ys (ys.length - 1)).1 ++ (mgSt al own ys (ys.length - 1)).2
theorem setY1_band (y y' z : Int) (sp : Spans) : setY1 z (bandR y y' sp) = bandR y z sp := by
  simp [setY1, bandR, List.map_reverse, Function.comp_def, spR]
theorem bandR_nil_iff {y y' : Int} {sp : Spans} : bandR y y' sp = [] ↔ sp = [] := by simp [bandR]
theorem mgSt_inv {al : List Rect → List Rect → Int → Bool} (hal : Alike al) {own : Nat → List Rect} {ys : List Int} {F : Int → Int → Bool} (hr : Rise ys)
    (hown : ∀ i, i + 1 < ys.length → ∃ sp, RunsOk sp ∧ own i = bandR (ys.getD i 0) (ys.getD (i + 1) 0) sp ∧ ∀ t, (look sp t).isSome = F t (ys.getD i 0))
    (hc : ∀ k, k + 1 < ys.length → ∀ t, ys.getD k 0 ≤ t → t < ys.getD (k + 1) 0 → ∀ x, F x t = F x (ys.getD k 0)) :
    ∀ i, i < ys.length → ∃ bs, BandsOk bs ∧ (mgSt al own ys i).1 ++ (mgSt al own ys i).2 = flatR bs ∧ (∀ b ∈ bs, b.2.1 ≤ ys.getD i 0) ∧
      ((mgSt al own ys i).2 = [] ∧ (∀ b ∈ bs, b.2.1 < ys.getD i 0) ∨ ∃ b t, bs = b :: t ∧ (mgSt al own ys i).1 = flatR t ∧ (mgSt al own ys i).2 = bandR b.1 b.2.1 b.2.2 ∧ b.2.1 = ys.getD i 0) ∧
      ∀ x y, memB bs x y = (decide (ys.getD 0 0 ≤ y ∧ y < ys.getD i 0) && F x y) := by
  intro i
  induction i with
  | zero =>
    intro _
    refine ⟨[], ⟨trivial, fun b hb => by cases hb⟩, rfl, fun b hb => (by cases hb), .inl ⟨rfl, fun b hb => by cases hb⟩, fun x y => ?_⟩
    rw [decide_eq_false (by omega)]; rfl
  | succ i ih =>
    intro hi
    obtain ⟨bs, h1, h2, h3, h4, h5⟩ := ih (by omega)
    obtain ⟨sp, s1, s2, s3⟩ := hown i hi
    have hy := hr i hi
    have h0 : ys.getD 0 0 ≤ ys.getD i 0 := hr.le (by omega) (by omega)
    -- the points of one more cell
    have pts : ∀ x y, (decide (ys.getD 0 0 ≤ y ∧ y < ys.getD (i + 1) 0) && F x y) = if ys.getD i 0 ≤ y ∧ y < ys.getD (i + 1) 0 then (look sp x).isSome else (decide (ys.getD 0 0 ≤ y ∧ y < ys.getD i 0) && F x y) := by
      intro x y
      by_cases hc1 : ys.getD i 0 ≤ y ∧ y < ys.getD (i + 1) 0
      · rw [if_pos hc1, decide_eq_true (by omega), hc i hi y hc1.1 hc1.2 x, s3]; rfl
      · rw [if_neg hc1]
        congr 1
        by_cases q : ys.getD 0 0 ≤ y ∧ y < ys.getD i 0
        · rw [decide_eq_true q, decide_eq_true (by omega)]
        · rw [decide_eq_false q, decide_eq_false (by omega)]
    rw [mgSt]
    by_cases hsp : sp = []
    · -- nothing in the cell
      subst hsp
      have ho : own i = [] := by rw [s2]; rfl
      rw [ho, hal.none]
      simp only [Bool.false_eq_true, if_false]
      refine ⟨bs, h1, by rw [List.append_nil]; exact h2, fun b hb => by have := h3 b hb; omega, .inl ⟨trivial, fun b hb => by have := h3 b hb; omega⟩, fun x y => ?_⟩
      rw [pts, h5]
      split
      · rw [decide_eq_false (by omega)]; rfl
      · rfl
    · have newband : (∀ b t, bs = b :: t → b.2.1 = ys.getD i 0 → b.2.2 ≠ sp) → ∃ bs', BandsOk bs' ∧ ((mgSt al own ys i).1 ++ (mgSt al own ys i).2) ++ own i = flatR bs' ∧ (∀ b ∈ bs', b.2.1 ≤ ys.getD (i + 1) 0) ∧
          (own i = [] ∧ (∀ b ∈ bs', b.2.1 < ys.getD (i + 1) 0) ∨ ∃ b t, bs' = b :: t ∧ ((mgSt al own ys i).1 ++ (mgSt al own ys i).2) = flatR t ∧ own i = bandR b.1 b.2.1 b.2.2 ∧ b.2.1 = ys.getD (i + 1) 0) ∧
          ∀ x y, memB bs' x y = (decide (ys.getD 0 0 ≤ y ∧ y < ys.getD (i + 1) 0) && F x y) := by
        intro hne
        refine ⟨(ys.getD i 0, ys.getD (i + 1) 0, sp) :: bs, ⟨⟨hy, ?_, h1.runs⟩, fun b hb => ?_⟩, by rw [flatR, h2, s2], fun b hb => ?_, .inr ⟨_, _, rfl, h2, s2, rfl⟩, fun x y => ?_⟩
        · cases bs with
          | nil => trivial
          | cons b t => exact ⟨h3 b (by simp), fun he => hne b t rfl he⟩
        · rcases List.mem_cons.1 hb with rfl | hb
          · exact ⟨s1, hsp⟩
          · exact h1.each b hb
        · rcases List.mem_cons.1 hb with rfl | hb
          · exact Int.le_refl _
          · have := h3 b hb; omega
        · rw [pts, ← h5]
          unfold memB
          rw [look]
          simp only
          by_cases hc1 : ys.getD i 0 ≤ y ∧ y < ys.getD (i + 1) 0
          · rw [if_pos hc1, if_pos hc1]
          · rw [if_neg hc1, if_neg hc1]
      rcases h4 with ⟨hl, hlt⟩ | ⟨b, t, rfl, g1, g2, g3⟩
      · rw [hl, hal.nil]
        simp only [Bool.false_eq_true, if_false]
        rw [hl] at newband
        exact newband (fun b t hb he => by have := hlt b (by rw [hb]; simp); omega)
      · have hb := h1.each b (by simp)
        have ha : al (mgSt al own ys i).2 (own i) (ys.getD i 0) = decide (b.2.2 = sp) := by
          rw [g2, s2, ← g3]; exact hal.band b sp _ hb.2 hsp
        rw [ha]
        by_cases he : b.2.2 = sp
        · rw [decide_eq_true he]
          simp only [if_true]
          refine ⟨(b.1, ys.getD (i + 1) 0, sp) :: t, ⟨⟨by have := h1.runs.1; simp only; omega, ?_, h1.runs.2.2⟩, fun q hq => ?_⟩, ?_, fun q hq => ?_, .inr ⟨_, _, rfl, g1, ?_, rfl⟩, fun x y => ?_⟩
          · have := h1.runs.2.1
            rw [he] at this
            exact this
          · rcases List.mem_cons.1 hq with rfl | hq
            · exact ⟨s1, hsp⟩
            · exact h1.each q (by simp [hq])
          · rw [g1, g2, setY1_band, he]; rfl
          · rcases List.mem_cons.1 hq with rfl | hq
            · exact Int.le_refl _
            · have := h3 q (by simp [hq]); omega
          · rw [g2, setY1_band, he]
          · rw [pts, ← h5]
            have h6 := h1.runs.1
            unfold memB
            rw [look, look]
            simp only
            by_cases hc1 : ys.getD i 0 ≤ y ∧ y < ys.getD (i + 1) 0
            · rw [if_pos (by omega), if_pos hc1]
            · rw [if_neg hc1]
              by_cases hc2 : b.1 ≤ y ∧ y < b.2.1
              · rw [if_pos (by omega), if_pos hc2, he]
              · rw [if_neg (by omega), if_neg hc2]
        · rw [decide_eq_false he]
          simp only [Bool.false_eq_true, if_false]
          exact newband (fun b' t' hb' _ => by cases hb'; exact he)
theorem mgL_isReg {al : List Rect → List Rect → Int → Bool} (hal : Alike al) {own : Nat → List Rect} {ys : List Int} {F : Int → Int → Bool} (hr : Rise ys)
    (hown : ∀ i, i + 1 < ys.length → ∃ sp, RunsOk sp ∧ own i = bandR (ys.getD i 0) (ys.getD (i + 1) 0) sp ∧ ∀ t, (look sp t).isSome = F t (ys.getD i 0))
    (hc : ∀ k, k + 1 < ys.length → ∀ t, ys.getD k 0 ≤ t → t < ys.getD (k + 1) 0 → ∀ x, F x t = F x (ys.getD k 0))
    (ho : ∀ x t, F x t = true → ∃ i j, i < ys.length ∧ j < ys.length ∧ ys.getD i 0 ≤ t ∧ t < ys.getD j 0) : IsReg (mgL al own ys) F := by
  by_cases hl : ys.length = 0
  · refine ⟨[], ⟨trivial, fun b hb => by cases hb⟩, by unfold mgL; rw [hl]; rfl, fun x y => ?_⟩
    cases hf : F x y with
    | false => rfl
    | true => obtain ⟨i, _, hi, _⟩ := ho x y hf; omega
  · obtain ⟨bs, h1, h2, _, _, h5⟩ := mgSt_inv hal hr hown hc (ys.length - 1) (by omega)
    refine ⟨bs, h1, h2, fun x y => ?_⟩
    rw [h5]
    cases hf : F x y with
    | false => simp
    | true =>
      obtain ⟨i, j, hi, hj, a, b⟩ := ho x y hf
      have := hr.le (i := 0) (j := i) (by omega) hi
      have := hr.le (i := j) (j := ys.length - 1) (by omega) (by omega)
      rw [decide_eq_true (by omega)]; rfl
end Go.Proofs.Ytlfahohbkgdabaa

/- Plain words of regions, second part: grids, the program's merge and the document's, the region of what is kept of two lists. -/
set_option linter.unusedVariables false
set_option linter.unusedSimpArgs false
namespace Go.Proofs.Ytlfahohbkgdabaa
open Go Go.RowKit

/-! ### Grids -/
def emptyR (r : Rect) : Bool := emptyB r.x0 r.y0 r.x1 r.y1
theorem rise_pairwise {l : List Int} : Rise l ↔ l.Pairwise (· < ·) := by
  constructor
  · intro h
    rw [List.pairwise_iff_getElem]
    intro i j hi hj hij
    have := h.lt hij hj
    rw [List.getD_eq_getElem?_getD, List.getElem?_eq_getElem hi, List.getD_eq_getElem?_getD, List.getElem?_eq_getElem hj] at this
    simpa using this
  · intro h i hi
    rw [List.pairwise_iff_getElem] at h
    have := h i (i + 1) (by omega) hi (by omega)
    rw [List.getD_eq_getElem?_getD, List.getElem?_eq_getElem (by omega), List.getD_eq_getElem?_getD, List.getElem?_eq_getElem hi]
    simpa using this
theorem keeps_def (d : Array Int) (j : Nat) : Lib.keeps d j = true ↔ j = 0 ∨ d[j]! ≠ d[j - 1]! := by simp [Lib.keeps]
theorem arr_get (l : List Int) (i : Nat) : l.toArray[i]! = l.getD i 0 := by
  rw [List.getD_eq_getElem?_getD]
  by_cases h : i < l.length
  · rw [getElem!_pos _ i (by simpa using h)]; simp [h]
  · rw [getElem!_neg _ i (by simpa using h), List.getElem?_eq_none (by omega)]; rfl
theorem compact_rise {l : List Int} (h : l.Pairwise (· ≤ ·)) : (Lib.compact l).Pairwise (· < ·) := by
  unfold Lib.compact Lib.compactUpTo
  rw [List.pairwise_map]
  have hr : (List.range l.length).Pairwise (· < ·) := List.pairwise_lt_range
  refine (hr.filter _).imp_of_mem (fun {i j} hi hj hij => ?_)
  have hk := (keeps_def _ _).1 (List.mem_filter.1 hj).2
  have hjl := List.mem_range.1 (List.mem_filter.1 hj).1
  rw [arr_get, arr_get] at hk ⊢
  have le : ∀ a b, a ≤ b → b < l.length → l.getD a 0 ≤ l.getD b 0 := by
    intro a b hab hb
    rw [List.pairwise_iff_getElem] at h
    rw [List.getD_eq_getElem?_getD, List.getD_eq_getElem?_getD, List.getElem?_eq_getElem (by omega), List.getElem?_eq_getElem hb]
    by_cases e : a = b
    · subst e; exact Int.le_refl _
    · exact h a b (by omega) hb (by omega)
  have h1 := le i (j - 1) (by omega) (by omega)
  have h2 := le (j - 1) j (by omega) hjl
  rcases hk with hk | hk
  · omega
  · omega
theorem compact_mem {l : List Int} {x : Int} : x ∈ Lib.compact l ↔ x ∈ l := by
  unfold Lib.compact Lib.compactUpTo
  rw [List.mem_map]
  constructor
  · rintro ⟨j, hj, rfl⟩
    have hjl := List.mem_range.1 (List.mem_filter.1 hj).1
    rw [arr_get, List.getD_eq_getElem?_getD, List.getElem?_eq_getElem hjl]; simp
  · intro hx
    obtain ⟨j, hj, e⟩ := List.mem_iff_getElem.1 hx
    have key : ∀ j, j < l.length → ∃ i, i ∈ (List.range l.length).filter (Lib.keeps l.toArray) ∧ l.getD i 0 = l.getD j 0 := by
      intro j
      induction j with
      | zero => intro h0; exact ⟨0, List.mem_filter.2 ⟨List.mem_range.2 h0, (keeps_def _ _).2 (.inl rfl)⟩, rfl⟩
      | succ j ih =>
        intro hj
        by_cases hk : Lib.keeps l.toArray (j + 1) = true
        · exact ⟨j + 1, List.mem_filter.2 ⟨List.mem_range.2 hj, hk⟩, rfl⟩
        · obtain ⟨i, h1, h2⟩ := ih (by omega)
          refine ⟨i, h1, h2.trans ?_⟩
          have : ¬ (j + 1 = 0 ∨ l.toArray[j + 1]! ≠ l.toArray[j + 1 - 1]!) := fun h => hk ((keeps_def _ _).2 h)
          rw [arr_get, arr_get, Nat.add_sub_cancel] at this
          omega
    obtain ⟨i, h1, h2⟩ := key j hj
    refine ⟨i, h1, ?_⟩
    rw [arr_get, h2, List.getD_eq_getElem?_getD, List.getElem?_eq_getElem hj]; exact e
def sortL (l : List Int) : List Int := l.mergeSort fun x y => decide (x ≤ y)
theorem sortL_mem {l : List Int} {x : Int} : x ∈ sortL l ↔ x ∈ l := (List.mergeSort_perm l _).mem_iff
theorem sortL_sorted (l : List Int) : (sortL l).Pairwise (· ≤ ·) := by
  have := List.pairwise_mergeSort (le := fun x y : Int => decide (x ≤ y)) (fun a b c h1 h2 => by simp only [decide_eq_true_eq] at *; omega) (fun a b => by simp only [Bool.or_eq_true, decide_eq_true_eq]; omega) l
  exact this.imp (fun h => by simpa using h)
def gridL (l : List Int) : List Int := Lib.compact (sortL l)
theorem gridL_rise (l : List Int) : Rise (gridL l) := rise_pairwise.2 (compact_rise (sortL_sorted l))
theorem gridL_mem {l : List Int} {x : Int} : x ∈ gridL l ↔ x ∈ l := compact_mem.trans sortL_mem
theorem mem_getD {l : List Int} {x : Int} (h : x ∈ l) : ∃ i, i < l.length ∧ l.getD i 0 = x := by
  obtain ⟨i, hi, e⟩ := List.mem_iff_getElem.1 h
  exact ⟨i, hi, by rw [List.getD_eq_getElem?_getD, List.getElem?_eq_getElem hi]; exact e⟩
theorem getD_mem {l : List Int} {i : Nat} (h : i < l.length) : l.getD i 0 ∈ l := by
  rw [List.getD_eq_getElem?_getD, List.getElem?_eq_getElem h]; simp
/-- Of a number of the grid: below the next one is not above this one. -/
theorem rise_cell {g : List Int} (hr : Rise g) {k : Nat} (hk : k + 1 < g.length) {z : Int} (hz : z ∈ g) : (z < g.getD (k + 1) 0 → z ≤ g.getD k 0) ∧ (g.getD k 0 < z → g.getD (k + 1) 0 ≤ z) := by
  obtain ⟨i, hi, rfl⟩ := mem_getD hz
  refine ⟨fun h => ?_, fun h => ?_⟩
  · rcases Nat.lt_or_ge k i with hki | hki
    · have := hr.le (i := k + 1) (j := i) hki hi; omega
    · exact hr.le hki (by omega)
  · rcases Nat.lt_or_ge k i with hki | hki
    · exact hr.le hki hi
    · have := hr.le (i := i) (j := k) hki (by omega); omega

/-! ### What is kept of two lists -/
/-- The points that a grid along Y tells apart. -/
theorem hasL_ycell {l : List Rect} {g : List Int} (hr : Rise g) (hg : ∀ r ∈ l, emptyR r = false → r.y0 ∈ g ∧ r.y1 ∈ g) {k : Nat} (hk : k + 1 < g.length) {t : Int} (h0 : g.getD k 0 ≤ t) (h1 : t < g.getD (k + 1) 0) (x : Int) : hasL l x t = hasL l x (g.getD k 0) := by
  unfold hasL
  rw [Bool.eq_iff_iff, List.any_eq_true, List.any_eq_true]
  constructor
  · rintro ⟨r, hm, hb⟩
    refine ⟨r, hm, ?_⟩
    have hb := hasB_true.1 hb
    have he : emptyR r = false := emptyB_false.2 ⟨by omega, by omega⟩
    have hc := rise_cell hr hk (hg r hm he).1
    have hd := rise_cell hr hk (hg r hm he).2
    have a1 := hc.1 (by omega)
    exact hasB_true.2 ⟨by omega, by omega, by omega, by omega⟩
  · rintro ⟨r, hm, hb⟩
    refine ⟨r, hm, ?_⟩
    have hb := hasB_true.1 hb
    have he : emptyR r = false := emptyB_false.2 ⟨by omega, by omega⟩
    have hd := rise_cell hr hk (hg r hm he).2
    have a1 := hd.2 (by omega)
    exact hasB_true.2 ⟨by omega, by omega, by omega, by omega⟩
theorem hasL_xcell {l : List Rect} {g : List Int} {y : Int} (hr : Rise g) (hg : ∀ r ∈ l, r.x0 < r.x1 → r.y0 ≤ y → y < r.y1 → r.x0 ∈ g ∧ r.x1 ∈ g) {k : Nat} (hk : k + 1 < g.length) {t : Int} (h0 : g.getD k 0 ≤ t) (h1 : t < g.getD (k + 1) 0) : hasL l t y = hasL l (g.getD k 0) y := by
  unfold hasL
  rw [Bool.eq_iff_iff, List.any_eq_true, List.any_eq_true]
  constructor
  · rintro ⟨r, hm, hb⟩
    refine ⟨r, hm, ?_⟩
    have hb := hasB_true.1 hb
    have hc := rise_cell hr hk (hg r hm (by omega) (by omega) (by omega)).1
    have a1 := hc.1 (by omega)
    exact hasB_true.2 ⟨by omega, by omega, by omega, by omega⟩
  · rintro ⟨r, hm, hb⟩
    refine ⟨r, hm, ?_⟩
    have hb := hasB_true.1 hb
    have hd := rise_cell hr hk (hg r hm (by omega) (by omega) (by omega)).2
    have a1 := hd.2 (by omega)
    exact hasB_true.2 ⟨by omega, by omega, by omega, by omega⟩
theorem hasL_true {l : List Rect} {x y : Int} : hasL l x y = true ↔ ∃ r ∈ l, r.x0 ≤ x ∧ x < r.x1 ∧ r.y0 ≤ y ∧ y < r.y1 := by
  unfold hasL
  rw [List.any_eq_true]
  exact ⟨fun ⟨r, h, hb⟩ => ⟨r, h, hasB_true.1 hb⟩, fun ⟨r, h, hb⟩ => ⟨r, h, hasB_true.2 hb⟩⟩
/-- The points that are kept. -/
def keepF (kf : Bool → Bool → Bool) (a b : List Rect) (x y : Int) : Bool := kf (hasL a x y) (hasL b x y)
theorem keepF_some {kf : Bool → Bool → Bool} (h0 : kf false false = false) {a b : List Rect} {x y : Int} (h : keepF kf a b x y = true) : hasL (a ++ b) x y = true := by
  rw [hasL_append]
  unfold keepF at h
  cases ha : hasL a x y <;> cases hb : hasL b x y <;> simp_all

/-- Any merge over grids that tell all sides comes to the region of what is kept. -/
theorem mgL_keep {al : List Rect → List Rect → Int → Bool} (hal : Alike al) {kf : Bool → Bool → Bool} (h0 : kf false false = false) {a b : List Rect} {ys : List Int} {xsOf : Nat → List Int} {own : Nat → List Rect} (hr : Rise ys)
    (hy : ∀ r ∈ a ++ b, emptyR r = false → r.y0 ∈ ys ∧ r.y1 ∈ ys) (hxr : ∀ i, Rise (xsOf i))
    (hx : ∀ i, i + 1 < ys.length → ∀ r ∈ a ++ b, r.x0 < r.x1 → r.y0 ≤ ys.getD i 0 → ys.getD i 0 < r.y1 → r.x0 ∈ xsOf i ∧ r.x1 ∈ xsOf i)
    (hown : ∀ i, i + 1 < ys.length → own i = ownL (fun x => keepF kf a b x (ys.getD i 0)) (ys.getD i 0) (ys.getD (i + 1) 0) (xsOf i) ((xsOf i).length - 1)) : IsReg (mgL al own ys) (keepF kf a b) := by
  refine mgL_isReg hal hr (fun i hi => ?_) (fun k hk t h1 h2 x => ?_) (fun x t ht => ?_)
  · rw [hown i hi]
    refine ownL_all (hxr i) (fun k hk t h1 h2 => ?_) (fun t ht => ?_)
    · unfold keepF
      rw [hasL_xcell (hxr i) (fun r hm => hx i hi r (by simp [hm])) hk h1 h2, hasL_xcell (hxr i) (fun r hm => hx i hi r (by simp [hm])) hk h1 h2]
    · obtain ⟨r, hm, b1, b2, b3, b4⟩ := hasL_true.1 (keepF_some h0 ht)
      obtain ⟨m0, m1⟩ := hx i hi r hm (by omega) b3 b4
      obtain ⟨p, hp, e1⟩ := mem_getD m0
      obtain ⟨q, hq, e2⟩ := mem_getD m1
      exact ⟨p, q, hp, hq, by omega, by omega⟩
  · unfold keepF
    rw [hasL_ycell hr (fun r hm => hy r (by simp [hm])) hk h1 h2, hasL_ycell hr (fun r hm => hy r (by simp [hm])) hk h1 h2]
  · obtain ⟨r, hm, b1, b2, b3, b4⟩ := hasL_true.1 (keepF_some h0 ht)
    obtain ⟨m0, m1⟩ := hy r hm (emptyB_false.2 ⟨by omega, by omega⟩)
    obtain ⟨p, hp, e1⟩ := mem_getD m0
    obtain ⟨q, hq, e2⟩ := mem_getD m1
    exact ⟨p, q, hp, hq, by omega, by omega⟩

/-! ### The program's merge -/
def evY (l : List Rect) : List Int := l.flatMap fun r => [r.y0, r.y1]
def evX (l : List Rect) : List Int := l.flatMap fun r => [r.x0, r.x1]
def acrossB (y : Int) (r : Rect) : Bool := decide (r.y0 ≤ y) && decide (y < r.y1) && decide (r.x0 < r.x1)
def acrossL (l : List Rect) (y : Int) : List Rect := l.filter (acrossB y)
def hasXL (l : List Rect) (x : Int) : Bool := l.any fun r => decide (r.x0 ≤ x) && decide (x < r.x1)
theorem hasXL_across (l : List Rect) (x y : Int) : hasXL (acrossL l y) x = hasL l x y := by
  unfold hasXL acrossL hasL
  rw [List.any_filter, Bool.eq_iff_iff, List.any_eq_true, List.any_eq_true]
  constructor
  · rintro ⟨r, hm, h⟩
    simp only [acrossB, Bool.and_eq_true, decide_eq_true_eq] at h
    exact ⟨r, hm, hasB_true.2 (by omega)⟩
  · rintro ⟨r, hm, h⟩
    have h := hasB_true.1 h
    refine ⟨r, hm, ?_⟩
    simp only [acrossB, Bool.and_eq_true, decide_eq_true_eq]
    omega
def alike1 (x y : Rect) : Bool := decide (x.x0 = y.x0) && decide (x.x1 = y.x1) && decide (x.y1 = y.y0)
def eqF (f : Rect → Rect → Bool) : List Rect → List Rect → Bool
  | a :: l, b :: m => f a b && eqF f l m
  | [], [] => true
  | _, _ => false
def alikeL (a b : List Rect) : Bool := decide (0 < a.length) && eqF alike1 a b
theorem eqF_append {f : Rect → Rect → Bool} : ∀ {a b : List Rect} {x y : Rect}, eqF f (a ++ [x]) (b ++ [y]) = (eqF f a b && f x y) := by
  intro a
  induction a with
  | nil =>
    intro b x y
    cases b with
    | nil => simp [eqF]
    | cons c b => cases b <;> simp [eqF]
  | cons d a ih =>
    intro b x y
    cases b with
    | nil => cases a <;> simp [eqF]
    | cons c b => simp [eqF, ih, Bool.and_assoc]
theorem eqF_nil {f : Rect → Rect → Bool} {l : List Rect} : eqF f l [] = decide (l = []) := by cases l <;> simp [eqF]
theorem eqF_nil' {f : Rect → Rect → Bool} {l : List Rect} : eqF f [] l = decide (l = []) := by cases l <;> simp [eqF]
theorem eqF_band (y z z' y' : Int) : ∀ {s t : Spans}, eqF alike1 (bandR y z s) (bandR z' y' t) = decide (s = t ∧ (s ≠ [] → z = z')) := by
  intro s
  induction s with
  | nil =>
    intro t
    rw [show bandR y z [] = [] from rfl, eqF_nil']
    by_cases h : t = []
    · subst h; simp [bandR]
    · rw [decide_eq_false (fun e => h (bandR_nil_iff.1 e)), decide_eq_false (fun e => h e.1.symm)]
  | cons a s ih =>
    intro t
    cases t with
    | nil =>
      rw [show bandR z' y' [] = [] from rfl, eqF_nil, decide_eq_false (fun e => by have := bandR_nil_iff.1 e; cases this), decide_eq_false (fun e => by cases e.1)]
    | cons b t =>
      have e1 : bandR y z (a :: s) = bandR y z s ++ [spR y z a] := by simp [bandR]
      have e2 : bandR z' y' (b :: t) = bandR z' y' t ++ [spR z' y' b] := by simp [bandR]
      rw [e1, e2, eqF_append, ih]
      obtain ⟨a1, a2, a3⟩ := a
      obtain ⟨b1, b2, b3⟩ := b
      rw [show alike1 (spR y z (a1, a2, a3)) (spR z' y' (b1, b2, b3)) = (decide (a1 = b1) && decide (a2 = b2) && decide (z = z')) from rfl, Bool.eq_iff_iff]
      simp only [Bool.and_eq_true, decide_eq_true_eq, List.cons.injEq, Prod.mk.injEq, and_true, true_and, ne_eq, reduceCtorEq, not_false_eq_true, forall_const, and_assoc]
      constructor
      · rintro ⟨h1, h2, h3, h4, h5⟩; exact ⟨h3, h4, h1, h5⟩
      · rintro ⟨h3, h4, h1, h5⟩; exact ⟨h1, fun _ => h5, h3, h4, h5⟩
theorem alikeL_alike : Alike fun a b _ => alikeL a b := by
  refine ⟨fun o y => by simp [alikeL], fun l y => ?_, fun b sp y' h1 h2 => ?_⟩
  · unfold alikeL
    rw [eqF_nil]
    cases l <;> simp
  · unfold alikeL
    rw [eqF_band, bandR_length]
    have : 0 < b.2.2.length := by cases h : b.2.2 with
      | nil => exact absurd h h1
      | cons _ _ => simp
    rw [decide_eq_true this, Bool.true_and]
    by_cases h : b.2.2 = sp
    · rw [decide_eq_true ⟨h, fun _ => rfl⟩, decide_eq_true h]
    · rw [decide_eq_false (fun e => h e.1), decide_eq_false h]
/-- The grid of a band, the band, all bands, as the program has them. -/
def ysP (a b : List Rect) : List Int := gridL (evY a ++ evY b)
def xsP (a b : List Rect) (y : Int) : List Int := gridL (evX (acrossL a y) ++ evX (acrossL b y))
def bandF (kf : Bool → Bool → Bool) (a b : List Rect) (x : Int) : Bool := kf (hasXL a x) (hasXL b x)
def bandP (kf : Bool → Bool → Bool) (a b : List Rect) (y y' : Int) : List Rect := ownL (bandF kf (acrossL a y) (acrossL b y)) y y' (xsP a b y) ((xsP a b y).length - 1)
def regM (kf : Bool → Bool → Bool) (a b : List Rect) : List Rect := mgL (fun a b _ => alikeL a b) (fun i => bandP kf a b ((ysP a b).getD i 0) ((ysP a b).getD (i + 1) 0)) (ysP a b)
theorem evX_mem {l : List Rect} {r : Rect} (h : r ∈ l) : r.x0 ∈ evX l ∧ r.x1 ∈ evX l := ⟨List.mem_flatMap.2 ⟨r, h, by simp⟩, List.mem_flatMap.2 ⟨r, h, by simp⟩⟩
theorem evY_mem {l : List Rect} {r : Rect} (h : r ∈ l) : r.y0 ∈ evY l ∧ r.y1 ∈ evY l := ⟨List.mem_flatMap.2 ⟨r, h, by simp⟩, List.mem_flatMap.2 ⟨r, h, by simp⟩⟩
theorem regM_isReg {kf : Bool → Bool → Bool} (h0 : kf false false = false) (a b : List Rect) : IsReg (regM kf a b) (keepF kf a b) := by
  refine mgL_keep (xsOf := fun i => xsP a b ((ysP a b).getD i 0)) alikeL_alike h0 (gridL_rise _) (fun r hm _ => ?_) (fun i => gridL_rise _) (fun i hi r hm h1 h2 h3 => ?_) (fun i hi => ?_)
  · unfold ysP
    rw [gridL_mem, gridL_mem]
    rcases List.mem_append.1 hm with h | h
    · exact ⟨List.mem_append_left _ (evY_mem h).1, List.mem_append_left _ (evY_mem h).2⟩
    · exact ⟨List.mem_append_right _ (evY_mem h).1, List.mem_append_right _ (evY_mem h).2⟩
  · have hb : acrossB ((ysP a b).getD i 0) r = true := by simp only [acrossB, Bool.and_eq_true, decide_eq_true_eq]; omega
    simp only [xsP]
    rw [gridL_mem, gridL_mem]
    rcases List.mem_append.1 hm with h | h
    · have := evX_mem (l := acrossL a ((ysP a b).getD i 0)) (List.mem_filter.2 ⟨h, hb⟩)
      exact ⟨List.mem_append_left _ this.1, List.mem_append_left _ this.2⟩
    · have := evX_mem (l := acrossL b ((ysP a b).getD i 0)) (List.mem_filter.2 ⟨h, hb⟩)
      exact ⟨List.mem_append_right _ this.1, List.mem_append_right _ this.2⟩
  · have : bandF kf (acrossL a ((ysP a b).getD i 0)) (acrossL b ((ysP a b).getD i 0)) = fun x => keepF kf a b x ((ysP a b).getD i 0) := by
      funext x
      unfold bandF keepF
      rw [hasXL_across, hasXL_across]
    simp only [bandP, this]

/-! ### The document's merge -/
def addL' (l : List Int) (n : Int) : List Int := if n ∈ l then l else l.filter (· < n) ++ n :: l.filter (n < ·)
theorem addL'_mem {l : List Int} {n x : Int} : x ∈ addL' l n ↔ x ∈ l ∨ x = n := by
  unfold addL'
  by_cases h : n ∈ l
  · rw [if_pos h]
    exact ⟨.inl, fun e => e.elim id (fun e => e ▸ h)⟩
  · rw [if_neg h]
    simp only [List.mem_append, List.mem_filter, List.mem_cons, decide_eq_true_eq]
    constructor
    · rintro (⟨h1, _⟩ | h1 | ⟨h1, _⟩)
      · exact .inl h1
      · exact .inr h1
      · exact .inl h1
    · rintro (h1 | h1)
      · rcases Int.lt_trichotomy x n with h2 | h2 | h2
        · exact .inl ⟨h1, h2⟩
        · subst h2; exact absurd h1 h
        · exact .inr (.inr ⟨h1, h2⟩)
      · exact .inr (.inl h1)
theorem addL'_rise {l : List Int} (h : Rise l) (n : Int) : Rise (addL' l n) := by
  unfold addL'
  by_cases hn : n ∈ l
  · rw [if_pos hn]; exact h
  · rw [if_neg hn, rise_pairwise]
    have hp := rise_pairwise.1 h
    rw [List.pairwise_append]
    refine ⟨hp.filter _, List.pairwise_cons.2 ⟨fun x hx => by simpa using (List.mem_filter.1 hx).2, hp.filter _⟩, fun x hx y hy => ?_⟩
    have h1 : x < n := by simpa using (List.mem_filter.1 hx).2
    rcases List.mem_cons.1 hy with rfl | hy
    · exact h1
    · have h2 : n < y := by simpa using (List.mem_filter.1 hy).2
      omega
theorem addL'_length (l : List Int) (n : Int) (h : Rise l) : (addL' l n).length ≤ l.length + 1 := by
  unfold addL'
  by_cases hn : n ∈ l
  · rw [if_pos hn]; omega
  · rw [if_neg hn, List.length_append, List.length_cons]
    have : ∀ l : List Int, (l.filter (· < n)).length + (l.filter (n < ·)).length ≤ l.length := by
      intro l
      induction l with
      | nil => simp
      | cons a l ih =>
        by_cases h1 : a < n
        · have h2 : ¬ n < a := by omega
          simp only [List.filter_cons, decide_eq_true h1, decide_eq_false h2, if_true, Bool.false_eq_true, if_false, List.length_cons]; omega
        · by_cases h2 : n < a
          · simp only [List.filter_cons, decide_eq_true h2, decide_eq_false h1, if_true, Bool.false_eq_true, if_false, List.length_cons]; omega
          · simp only [List.filter_cons, decide_eq_false h2, decide_eq_false h1, Bool.false_eq_true, if_false, List.length_cons]; omega
    have := this l
    omega
def addXs (l : List Int) (r : Rect) : List Int := if emptyR r then l else addL' (addL' l r.x0) r.x1
def addYs (l : List Int) (r : Rect) : List Int := if emptyR r then l else addL' (addL' l r.y0) r.y1
def xsD (l : List Rect) : List Int := l.foldl addXs []
def ysD (l : List Rect) : List Int := l.foldl addYs []
theorem xsD_ok (l : List Rect) : ∀ g, Rise g → Rise (l.foldl addXs g) ∧ (∀ x ∈ g, x ∈ l.foldl addXs g) ∧ (∀ r ∈ l, emptyR r = false → r.x0 ∈ l.foldl addXs g ∧ r.x1 ∈ l.foldl addXs g) ∧ (l.foldl addXs g).length ≤ g.length + 2 * l.length := by
  induction l with
  | nil => intro g hg; exact ⟨hg, fun x hx => hx, fun r hr => (by cases hr), by simp⟩
  | cons r l ih =>
    intro g hg
    have h1 : Rise (addXs g r) ∧ (∀ x ∈ g, x ∈ addXs g r) ∧ (emptyR r = false → r.x0 ∈ addXs g r ∧ r.x1 ∈ addXs g r) ∧ (addXs g r).length ≤ g.length + 2 := by
      unfold addXs
      cases he : emptyR r with
      | true => simp [hg]
      | false =>
        simp only [Bool.false_eq_true, if_false]
        refine ⟨addL'_rise (addL'_rise hg _) _, fun x hx => addL'_mem.2 (.inl (addL'_mem.2 (.inl hx))), fun _ => ⟨addL'_mem.2 (.inl (addL'_mem.2 (.inr rfl))), addL'_mem.2 (.inr rfl)⟩, ?_⟩
        have a1 := addL'_length (addL' g r.x0) r.x1 (addL'_rise hg _)
        have a2 := addL'_length g r.x0 hg
        omega
    obtain ⟨h2, h3, h4, h5⟩ := ih (addXs g r) h1.1
    rw [List.foldl_cons]
    refine ⟨h2, fun x hx => h3 x (h1.2.1 x hx), fun q hq he => ?_, by simp only [List.length_cons]; have := h1.2.2.2; omega⟩
    rcases List.mem_cons.1 hq with rfl | hq
    · exact ⟨h3 _ (h1.2.2.1 he).1, h3 _ (h1.2.2.1 he).2⟩
    · exact h4 q hq he
theorem ysD_ok (l : List Rect) : ∀ g, Rise g → Rise (l.foldl addYs g) ∧ (∀ x ∈ g, x ∈ l.foldl addYs g) ∧ (∀ r ∈ l, emptyR r = false → r.y0 ∈ l.foldl addYs g ∧ r.y1 ∈ l.foldl addYs g) ∧ (l.foldl addYs g).length ≤ g.length + 2 * l.length := by
  induction l with
  | nil => intro g hg; exact ⟨hg, fun x hx => hx, fun r hr => (by cases hr), by simp⟩
  | cons r l ih =>
    intro g hg
    have h1 : Rise (addYs g r) ∧ (∀ x ∈ g, x ∈ addYs g r) ∧ (emptyR r = false → r.y0 ∈ addYs g r ∧ r.y1 ∈ addYs g r) ∧ (addYs g r).length ≤ g.length + 2 := by
      unfold addYs
      cases he : emptyR r with
      | true => simp [hg]
      | false =>
        simp only [Bool.false_eq_true, if_false]
        refine ⟨addL'_rise (addL'_rise hg _) _, fun x hx => addL'_mem.2 (.inl (addL'_mem.2 (.inl hx))), fun _ => ⟨addL'_mem.2 (.inl (addL'_mem.2 (.inr rfl))), addL'_mem.2 (.inr rfl)⟩, ?_⟩
        have a1 := addL'_length (addL' g r.y0) r.y1 (addL'_rise hg _)
        have a2 := addL'_length g r.y0 hg
        omega
    obtain ⟨h2, h3, h4, h5⟩ := ih (addYs g r) h1.1
    rw [List.foldl_cons]
    refine ⟨h2, fun x hx => h3 x (h1.2.1 x hx), fun q hq he => ?_, by simp only [List.length_cons]; have := h1.2.2.2; omega⟩
    rcases List.mem_cons.1 hq with rfl | hq
    · exact ⟨h3 _ (h1.2.2.1 he).1, h3 _ (h1.2.2.1 he).2⟩
    · exact h4 q hq he
def span1 (x y : Rect) : Bool := decide (x.x0 = y.x0) && decide (x.x1 = y.x1)
def touchL (last own : List Rect) (y : Int) : Bool := decide (0 < last.length) && decide ((rget last 0).y1 = y) && eqF span1 last own
theorem eqF_span (y z z' y' : Int) : ∀ {s t : Spans}, eqF span1 (bandR y z s) (bandR z' y' t) = decide (s = t) := by
  intro s
  induction s with
  | nil =>
    intro t
    rw [show bandR y z [] = [] from rfl, eqF_nil']
    by_cases h : t = []
    · subst h; simp [bandR]
    · rw [decide_eq_false (fun e => h (bandR_nil_iff.1 e)), decide_eq_false (fun e => h e.symm)]
  | cons a s ih =>
    intro t
    cases t with
    | nil => rw [show bandR z' y' [] = [] from rfl, eqF_nil, decide_eq_false (fun e => by have := bandR_nil_iff.1 e; cases this), decide_eq_false (fun e => by cases e)]
    | cons b t =>
      have e1 : bandR y z (a :: s) = bandR y z s ++ [spR y z a] := by simp [bandR]
      have e2 : bandR z' y' (b :: t) = bandR z' y' t ++ [spR z' y' b] := by simp [bandR]
      rw [e1, e2, eqF_append, ih]
      obtain ⟨a1, a2, a3⟩ := a
      obtain ⟨b1, b2, b3⟩ := b
      rw [show span1 (spR y z (a1, a2, a3)) (spR z' y' (b1, b2, b3)) = (decide (a1 = b1) && decide (a2 = b2)) from rfl, Bool.eq_iff_iff]
      simp only [Bool.and_eq_true, decide_eq_true_eq, List.cons.injEq, Prod.mk.injEq, and_true]
      constructor
      · rintro ⟨h1, h2, h3⟩; exact ⟨⟨h2, h3⟩, h1⟩
      · rintro ⟨⟨h2, h3⟩, h1⟩; exact ⟨h1, h2, h3⟩
theorem bandR_get0 {y z : Int} {sp : Spans} (h : sp ≠ []) : (rget (bandR y z sp) 0).y1 = z := by
  unfold rget bandR
  have hl : 0 < (sp.map (spR y z)).reverse.length := by cases sp with
    | nil => exact absurd rfl h
    | cons _ _ => simp
  rw [List.getD_eq_getElem?_getD, List.getElem?_eq_getElem hl, Option.getD_some]
  have hm := List.getElem_mem hl
  rw [List.mem_reverse, List.mem_map] at hm
  obtain ⟨s, _, e⟩ := hm
  rw [← e]; rfl
theorem touchL_alike : Alike touchL := by
  refine ⟨fun o y => by simp [touchL], fun l y => ?_, fun b sp y' h1 h2 => ?_⟩
  · unfold touchL
    rw [eqF_nil]
    cases l <;> simp
  · unfold touchL
    rw [eqF_span, bandR_length, bandR_get0 h1]
    have : 0 < b.2.2.length := by cases h : b.2.2 with
      | nil => exact absurd h h1
      | cons _ _ => simp
    rw [decide_eq_true this, decide_eq_true rfl]; rfl
def regD (kf : Bool → Bool → Bool) (a b : List Rect) : List Rect := mgL touchL (fun i => ownL (fun x => keepF kf a b x ((ysD (a ++ b)).getD i 0)) ((ysD (a ++ b)).getD i 0) ((ysD (a ++ b)).getD (i + 1) 0) (xsD (a ++ b)) ((xsD (a ++ b)).length - 1)) (ysD (a ++ b))
theorem rise_nil : Rise [] := fun i hi => by simp at hi
theorem regD_isReg {kf : Bool → Bool → Bool} (h0 : kf false false = false) (a b : List Rect) : IsReg (regD kf a b) (keepF kf a b) :=
  mgL_keep (xsOf := fun _ => xsD (a ++ b)) touchL_alike h0 (ysD_ok (a ++ b) [] rise_nil).1 (fun r hm he => (ysD_ok (a ++ b) [] rise_nil).2.2.1 r hm he) (fun i => (xsD_ok (a ++ b) [] rise_nil).1)
    (fun i hi r hm h1 h2 h3 => (xsD_ok (a ++ b) [] rise_nil).2.2.1 r hm (emptyB_false.2 ⟨h1, by omega⟩)) (fun i hi => rfl)
theorem regD_eq {kf : Bool → Bool → Bool} (h0 : kf false false = false) (a b : List Rect) : regD kf a b = regM kf a b := (regD_isReg h0 a b).unique (regM_isReg h0 a b)

/-! ### Lengths -/
theorem putX_length (own : List Rect) (x x' y y' : Int) : (putX own x x' y y').length ≤ own.length + 1 := by
  unfold putX
  split
  · rw [List.length_set]; omega
  · simp
theorem ownL_length (f : Int → Bool) (y y' : Int) (xs : List Int) : ∀ i, (ownL f y y' xs i).length ≤ i := by
  intro i
  induction i with
  | zero => simp [ownL]
  | succ i ih =>
    rw [ownL]
    split
    · have := putX_length (ownL f y y' xs i) (xs.getD i 0) (xs.getD (i + 1) 0) y y'; omega
    · omega
theorem mgSt_length {al : List Rect → List Rect → Int → Bool} {own : Nat → List Rect} {ys : List Int} {m : Nat} (h : ∀ i, (own i).length ≤ m) : ∀ i, (mgSt al own ys i).1.length + (mgSt al own ys i).2.length ≤ i * m ∧ (mgSt al own ys i).2.length ≤ m := by
  intro i
  induction i with
  | zero => simp [mgSt]
  | succ i ih =>
    have e : (i + 1) * m = i * m + m := Nat.succ_mul i m
    rw [mgSt]
    split
    · simp only [setY1, List.length_map]; omega
    · simp only [List.length_append]; have := h i; omega
end Go.Proofs.Ytlfahohbkgdabaa

/- Rows of rectangles: four cells an element; read, written, appended to, cut, cleared. Generic in the program. -/
set_option linter.unusedVariables false
set_option linter.unusedSimpArgs false
namespace Go.Proofs.Ytlfahohbkgdabaa
open Go Go.RowKit
variable {dfs : List Deferred}

def rcells (r : Rect) : List Value := [.int .i64 r.x0, .int .i64 r.y0, .int .i64 r.x1, .int .i64 r.y1]
def rvals : List Rect → List Value
  | [] => []
  | r :: l => rcells r ++ rvals l
theorem rvals_length : ∀ l : List Rect, (rvals l).length = l.length * 4 := by
  intro l
  induction l with
  | nil => rfl
  | cons r l ih => simp only [rvals, List.length_append, ih, List.length_cons, rcells, List.length_nil]; omega
theorem rvals_append : ∀ a b : List Rect, rvals a ++ rvals b = rvals (a ++ b) := by
  intro a b
  induction a with
  | nil => rfl
  | cons r l ih => simp only [rvals, List.cons_append, List.append_assoc, ih]
theorem rvals_one (l : List Rect) : ∀ u ∈ rvals l, u.oneCell' = true := by
  induction l with
  | nil => intro u hu; cases hu
  | cons r l ih =>
    intro u hu
    rcases List.mem_append.1 hu with h | h
    · simp only [rcells, List.mem_cons, List.not_mem_nil, or_false] at h
      rcases h with rfl | rfl | rfl | rfl <;> rfl
    · exact ih u h
theorem rget_zero (r : Rect) (l : List Rect) : rget (r :: l) 0 = r := rfl
theorem rget_succ (r : Rect) (l : List Rect) (i : Nat) : rget (r :: l) (i + 1) = rget l i := by simp [rget]
theorem rvals_get : ∀ {l : List Rect} {i k : Nat} {v : Value}, i < l.length → (rcells (rget l i))[k]? = some v → (rvals l)[i * 4 + k]? = some v := by
  intro l
  induction l with
  | nil => intro i k v h; simp at h
  | cons r l ih =>
    intro i k v h hk
    cases i with
    | zero =>
      rw [rget_zero] at hk
      rw [Nat.zero_mul, Nat.zero_add, rvals, List.getElem?_append_left (List.getElem?_eq_some_iff.1 hk).1]
      exact hk
    | succ i =>
      rw [rget_succ] at hk
      have := ih (by simpa using h) hk
      rw [show (i + 1) * 4 + k = (i * 4 + k) + 4 by omega]
      exact this
theorem rvals_set : ∀ {l : List Rect} {i k : Nat} {v : Value} {r' : Rect}, i < l.length → k < 4 → (rcells (rget l i)).set k v = rcells r' → (rvals l).set (i * 4 + k) v = rvals (l.set i r') := by
  intro l
  induction l with
  | nil => intro i k v r' h; simp at h
  | cons r l ih =>
    intro i k v r' h hk e
    cases i with
    | zero =>
      rw [rget_zero] at e
      rw [Nat.zero_mul, Nat.zero_add, rvals, List.set_append_left _ _ (by simpa [rcells] using hk), e]
      rfl
    | succ i =>
      rw [rget_succ] at e
      have := ih (by simpa using h) hk e
      rw [show (i + 1) * 4 + k = (i * 4 + k) + 4 by omega]
      show rcells r ++ (rvals l).set (i * 4 + k) v = _
      rw [this]; rfl
section
variable {P : Program}
theorem Rd.cellF {w : World} {A : Option Addr} {g o n : Nat} {l : List Rect} (h : Rd w A g o n 4 (rvals l)) (i k : Nat) (v : Value) (hi : i < l.length) (hk : (rcells (rget l i))[k]? = some v) : w.cell? ⟨g, o + i * 4 + k, none⟩ = some v := by
  have := h.cell (i * 4 + k) v (rvals_get hi hk)
  rwa [← Nat.add_assoc] at this
theorem Rd.cellF0 {w : World} {A : Option Addr} {g n : Nat} {l : List Rect} (h : Rd w A g 0 n 4 (rvals l)) (i k : Nat) (v : Value) (hi : i < l.length) (hk : (rcells (rget l i))[k]? = some v) : w.cell? ⟨g, i * 4 + k, none⟩ = some v :=
  h.cell0 _ _ (rvals_get hi hk)
theorem Rd.rect {w : World} {A : Option Addr} {g o n : Nat} {l : List Rect} (h : Rd w A g o n 4 (rvals l)) {i : Nat} (hi : i < l.length) : ∀ j v, (rcells (rget l i))[j]? = some v → w.cell? ⟨g, (o + i * 4) + j, none⟩ = some v :=
  fun j v hj => h.cellF i j v hi hj
theorem Row.factsR {w : World} {A : Option Addr} {g n cap : Nat} {e : TypeId} {l : List Rect} (h : Row w A g n cap e 4 (rvals l)) : (0 < n → A = some ⟨g, 0, none⟩) ∧ l.length = n ∧ n ≤ cap ∧ cap ≤ maxLen := by
  refine ⟨h.at_, ?_, h.capLe, ?_⟩
  · have := h.own.1; rw [rvals_length] at this; omega
  · rcases h.own.2 with ⟨h1, _⟩ | ⟨g', cap', cur, hv, _, _, _, hm, _⟩
    · cases h1; unfold maxLen; omega
    · cases hv; exact hm
theorem Rd.factsR {w : World} {A : Option Addr} {g o n : Nat} {l : List Rect} (h : Rd w A g o n 4 (rvals l)) : (0 < n → A = some ⟨g, o, none⟩) ∧ l.length = n := ⟨h.at_, by have := h.len; rw [rvals_length] at this; omega⟩
theorem cont_rowEqR {K : Act → World → Prop} {n' : Nat} {w0 : World} {L : List (Nat × Value)} {T : List Ent} (i : Nat) {A : Option Addr} {g n cap : Nat} {e : TypeId} (xs ys : List Rect) {own : Bool} (hi : T[i]? = some (.gen (rowE A g n cap e 4 (rvals xs) own))) (hxy : xs = ys)
    (h : Cont dfs K n' w0 L (T.set i (.gen (rowE A g n cap e 4 (rvals ys) own)))) : Cont dfs K n' w0 L T := by
  subst hxy
  have : T.set i (.gen (rowE A g n cap e 4 (rvals xs) own)) = T := by
    obtain ⟨hlt, he⟩ := List.getElem?_eq_some_iff.1 hi
    rw [← he]
    exact List.set_getElem_self hlt
  rwa [this] at h
theorem Row.there {w : World} {A : Option Addr} {g n cap : Nat} {e : TypeId} {sz : Nat} {vals : List Value} (h : Row w A g n cap e sz vals) {j : Nat} (hj : j < n * sz) : (w.cell? ⟨g, j, none⟩).isSome = true := by
  have hl := h.own.1
  have := h.cell j (vals[j]'(by omega)) (List.getElem?_eq_getElem (by omega))
  rw [this]; rfl
/-- One number of an element, written. -/
theorem store_fieldR {w0 w : World} {T : List Ent} (hT : Tab w0 w T) {t e : TypeId} {A : Option Addr} {i g n cap J k p : Nat} {l : List Rect} {own : Bool} {v : Int} (r' : Rect) (hi : T[i]? = some (.gen (rowE A g n cap e 4 (rvals l) own))) (hsz : (P.info? t).map (·.size) = some 1) (hJ : J < l.length) (hk : k < 4) (hp : p = J * 4 + k) (he : (rcells (rget l J)).set k (.int .i64 v) = rcells r') :
    ∃ (x : Unit) (w' : World), (Instr.storeAt t (.pointer (some ⟨g, p, none⟩)) (.int .i64 v)).run P w = .ok () w' ∧ True ∧ Tab w0 w' (T.set i (.gen (rowE A g n cap e 4 (rvals (l.set J r')) own))) := by
  subst hp
  have hrow : Row w A g n cap e 4 (rvals l) := hT.ok i _ hi
  have hlen : l.length = n := hrow.factsR.2.1
  have hn : 0 < n := by omega
  have hc := hrow.there (j := J * 4 + k) (by omega)
  obtain ⟨u, hu⟩ := Option.isSome_iff_exists.1 hc
  refine ⟨(), _, run_store1 hsz rfl hu (hrow.free hn _), trivial, ?_⟩
  have := hT.rowSet hi hn (J * 4 + k) (.int .i64 v)
  rw [rvals_set hJ hk he] at this
  exact this
/-! ### Cut to a length -/
/-! ### Parts, read -/
/-! ### clear -/
end
end Go.Proofs.Ytlfahohbkgdabaa

/- slices.Sort and slices.Compact of whole numbers, as they turn a row of the table. Over the library's contracts, laid at this program. -/
set_option linter.unusedVariables false
set_option linter.unusedSimpArgs false
namespace Go.Proofs.Ytlfahohbkgdabaa
open Go Go.RowKit Go.Sort

theorem Row.holds {w : World} {g n cap : Nat} {e : TypeId} {xs : List Int} (h : Row w (some ⟨g, 0, none⟩) g n cap e 1 (ivals .i64 xs)) : Holds (Value.int .i64) w g 0 xs.toArray := by
  intro j hj
  have hjl : j < xs.length := by simpa using hj
  have hn : 0 < n := by have := h.facts; omega
  rw [Nat.zero_add, arr_get]
  exact ⟨h.cell j _ (ivals_get hjl), h.free hn j⟩
end Go.Proofs.Ytlfahohbkgdabaa

/- What the walks of the regions' functions use: steps of their lists; entries of the table picked anew. -/
set_option linter.unusedVariables false
set_option linter.unusedSimpArgs false
namespace Go.Proofs.Ytlfahohbkgdabaa
open Go Go.RowKit
variable {dfs : List Deferred}

/-! ### Steps of lists -/
theorem take_succ_rget {l : List Rect} {i : Nat} (h : i < l.length) : l.take (i + 1) = l.take i ++ [rget l i] := by
  rw [List.take_add_one, List.getElem?_eq_getElem h]
  simp [rget, List.getD_eq_getElem?_getD, List.getElem?_eq_getElem h]
theorem rget_mem {l : List Rect} {i : Nat} (h : i < l.length) : rget l i ∈ l := by
  unfold rget
  rw [List.getD_eq_getElem?_getD, List.getElem?_eq_getElem h]; simp
theorem ownL_skip {f : Int → Bool} {y y' : Int} {xs : List Int} {i : Nat} (h : f (xs.getD i 0) = false) : ownL f y y' xs i = ownL f y y' xs (i + 1) := by
  rw [ownL, h]; rfl
theorem ownL_put {f : Int → Bool} {y y' : Int} {xs : List Int} {i J : Nat} (h : f (xs.getD i 0) = true) (hJ : J + 1 = (ownL f y y' xs i).length) (he : (rget (ownL f y y' xs i) J).x1 = xs.getD i 0) :
    (ownL f y y' xs i).set J { rget (ownL f y y' xs i) J with x1 := xs.getD (i + 1) 0 } = ownL f y y' xs (i + 1) := by
  rw [ownL, h, if_pos rfl, putX, show (ownL f y y' xs i).length - 1 = J by omega, if_pos ⟨by omega, he⟩]
theorem ownL_new {f : Int → Bool} {y y' : Int} {xs : List Int} {i : Nat} (h : f (xs.getD i 0) = true) (hn : ∀ J, J + 1 = (ownL f y y' xs i).length → (rget (ownL f y y' xs i) J).x1 ≠ xs.getD i 0) :
    ownL f y y' xs i ++ [⟨xs.getD i 0, y, xs.getD (i + 1) 0, y'⟩] = ownL f y y' xs (i + 1) := by
  rw [ownL, h, if_pos rfl, putX, if_neg (fun hc => hn _ (by omega) hc.2)]
/-- A merge's state behind i cells: what is done, the last band. -/
def mgG (al : List Rect → List Rect → Int → Bool) (own : Int → Int → List Rect) (ys : List Int) (i : Nat) : List Rect × List Rect := mgSt al (fun i => own (ys.getD i 0) (ys.getD (i + 1) 0)) ys i
theorem mgG_on {al : List Rect → List Rect → Int → Bool} {own : Int → Int → List Rect} {ys : List Int} {i : Nat} (h : al (mgG al own ys i).2 (own (ys.getD i 0) (ys.getD (i + 1) 0)) (ys.getD i 0) = true) :
    (mgG al own ys i).1 = (mgG al own ys (i + 1)).1 ∧ setY1 (ys.getD (i + 1) 0) (mgG al own ys i).2 = (mgG al own ys (i + 1)).2 := by
  have e : mgG al own ys (i + 1) = ((mgG al own ys i).1, setY1 (ys.getD (i + 1) 0) (mgG al own ys i).2) := by
    conv => lhs; unfold mgG; rw [mgSt]
    exact if_pos h
  rw [e]; exact ⟨rfl, rfl⟩
theorem mgG_off {al : List Rect → List Rect → Int → Bool} {own : Int → Int → List Rect} {ys : List Int} {i : Nat} (h : al (mgG al own ys i).2 (own (ys.getD i 0) (ys.getD (i + 1) 0)) (ys.getD i 0) = false) :
    (mgG al own ys i).1 ++ (mgG al own ys i).2 = (mgG al own ys (i + 1)).1 ∧ own (ys.getD i 0) (ys.getD (i + 1) 0) = (mgG al own ys (i + 1)).2 := by
  have e : mgG al own ys (i + 1) = ((mgG al own ys i).1 ++ (mgG al own ys i).2, own (ys.getD i 0) (ys.getD (i + 1) 0)) := by
    conv => lhs; unfold mgG; rw [mgSt]
    exact if_neg (by rw [show (mgSt al (fun i => own (ys.getD i 0) (ys.getD (i + 1) 0)) ys i).2 = (mgG al own ys i).2 from rfl, h]; simp)
  rw [e]; exact ⟨rfl, rfl⟩
theorem mgG_bound {al : List Rect → List Rect → Int → Bool} {own : Int → Int → List Rect} {ys : List Int} {m i : Nat} (h : ∀ a b, (own a b).length ≤ m) (hm : m ≤ 524288) (hi : i ≤ 524288) : (mgG al own ys i).1.length + (mgG al own ys i).2.length ≤ 274877906944 ∧ (mgG al own ys i).2.length ≤ m := by
  have := mgSt_length (al := al) (own := fun i => own (ys.getD i 0) (ys.getD (i + 1) 0)) (ys := ys) (m := m) (fun i => h _ _) i
  have h2 : i * m ≤ 524288 * 524288 := Nat.mul_le_mul hi hm
  unfold mgG; omega
theorem setY1_step {l : List Rect} {v : Int} {j : Nat} (h : j < l.length) : (setY1 v (l.take j) ++ l.drop j).set j { rget (setY1 v (l.take j) ++ l.drop j) j with y1 := v } = setY1 v (l.take (j + 1)) ++ l.drop (j + 1) := by
  have hl : (setY1 v (l.take j)).length = j := by simp [setY1]; omega
  have hd : l.drop j = rget l j :: l.drop (j + 1) := by
    rw [List.drop_eq_getElem_cons h]
    simp [rget, List.getD_eq_getElem?_getD, List.getElem?_eq_getElem h]
  have hg : rget (setY1 v (l.take j) ++ l.drop j) j = rget l j := by
    unfold rget
    rw [List.getD_eq_getElem?_getD, List.getElem?_append_right (by omega), hl, Nat.sub_self, hd, List.getD_eq_getElem?_getD]
    simp [rget, List.getD_eq_getElem?_getD]
  rw [hg, List.set_append_right _ _ (by omega), hl, Nat.sub_self, hd, take_succ_rget h]
  simp [setY1]
theorem setY1_zero {l : List Rect} {v : Int} : l = setY1 v (l.take 0) ++ l.drop 0 := by simp [setY1]
theorem setY1_done {l : List Rect} {v : Int} {j : Nat} (h : l.length ≤ j) : setY1 v (l.take j) ++ l.drop j = setY1 v l := by rw [List.take_of_length_le h, List.drop_of_length_le h, List.append_nil]
/-! ### Lists compared, searched -/
theorem eqF_len {f : Rect → Rect → Bool} : ∀ {a b : List Rect}, a.length ≠ b.length → eqF f a b = false := by
  intro a
  induction a with
  | nil => intro b h; cases b with
    | nil => exact absurd rfl h
    | cons _ _ => rfl
  | cons x a ih => intro b h; cases b with
    | nil => rfl
    | cons y b => rw [eqF, ih (by simpa using h), Bool.and_false]
theorem eqF_all {f : Rect → Rect → Bool} : ∀ {a b : List Rect}, a.length = b.length → (∀ j, j < a.length → f (rget a j) (rget b j) = true) → eqF f a b = true := by
  intro a
  induction a with
  | nil => intro b h _; cases b with
    | nil => rfl
    | cons _ _ => simp at h
  | cons x a ih => intro b h hj; cases b with
    | nil => simp at h
    | cons y b =>
      rw [eqF, ih (by simpa using h) (fun j hj' => by have := hj (j + 1) (by simpa using hj'); rwa [rget_succ, rget_succ] at this)]
      have := hj 0 (by simp)
      rw [rget_zero, rget_zero] at this
      rw [this]; rfl
theorem eqF_no {f : Rect → Rect → Bool} : ∀ {a b : List Rect} {j : Nat}, j < a.length → j < b.length → f (rget a j) (rget b j) = false → eqF f a b = false := by
  intro a
  induction a with
  | nil => intro b j h; simp at h
  | cons x a ih => intro b j h hb hf; cases b with
    | nil => simp at hb
    | cons y b =>
      cases j with
      | zero => rw [rget_zero, rget_zero] at hf; rw [eqF, hf]; rfl
      | succ j =>
        rw [rget_succ, rget_succ] at hf
        rw [eqF, ih (by simpa using h) (by simpa using hb) hf, Bool.and_false]
theorem rget_eq {l : List Rect} {i : Nat} (h : i < l.length) : l[i] = rget l i := by
  simp [rget, List.getD_eq_getElem?_getD, List.getElem?_eq_getElem h]
/-! ### Rectangles taken out of a list -/
/-! ### The program's regions -/
def orB (a b : Bool) : Bool := a || b
def canR (l : List Rect) : List Rect := regM orB l []
theorem hasL_nil (x y : Int) : hasL [] x y = false := rfl
theorem canR_isReg (l : List Rect) : IsReg (canR l) (hasL l) := (regM_isReg (kf := orB) rfl l []).congr (fun x y => by simp [keepF, orB, hasL_nil])
end Go.Proofs.Ytlfahohbkgdabaa

/- Contracts of functions of the given program, printed by a program of this project. -/
set_option linter.unusedVariables false
set_option linter.unusedSimpArgs false
namespace Go.Proofs.Ytlfahohbkgdabaa
open Go Go.RowKit
set_option maxRecDepth 100000
set_option maxHeartbeats 8000000

end Go.Proofs.Ytlfahohbkgdabaa

/- Contracts of functions of the given program, printed by a program of this project. -/
set_option linter.unusedVariables false
set_option linter.unusedSimpArgs false
namespace Go.Proofs.Ytlfahohbkgdabaa
open Go Go.RowKit
set_option maxRecDepth 100000
set_option maxHeartbeats 8000000

end Go.Proofs.Ytlfahohbkgdabaa

/- Contracts of functions of the given program, printed by a program of this project. -/
set_option linter.unusedVariables false
set_option linter.unusedSimpArgs false
namespace Go.Proofs.Ytlfahohbkgdabaa
open Go Go.RowKit
set_option maxRecDepth 100000
set_option maxHeartbeats 8000000

end Go.Proofs.Ytlfahohbkgdabaa

/- What the walks of the document's regions use. -/
set_option linter.unusedVariables false
set_option linter.unusedSimpArgs false
namespace Go.Proofs.Ytlfahohbkgdabaa
open Go Go.RowKit

/-! ### A number put into a list that rises -/
def anyGt (l : List Int) (y : Int) : Bool := l.any fun x => decide (y < x)
def insP (xs : List Int) (y : Int) (i : Nat) : List Int := if anyGt (xs.take i) y then (xs.take i).filter (· < y) ++ y :: (xs.take i).filter (y < ·) else xs.take i
theorem take_succ_getD {l : List Int} {i : Nat} (h : i < l.length) : l.take (i + 1) = l.take i ++ [l.getD i 0] := by
  rw [List.take_add_one, List.getElem?_eq_getElem h]
  simp [List.getD_eq_getElem?_getD, List.getElem?_eq_getElem h]
theorem mem_take_getD {l : List Int} {i : Nat} {x : Int} (h : x ∈ l.take i) : ∃ j, j < i ∧ j < l.length ∧ l.getD j 0 = x := by
  obtain ⟨j, hj, e⟩ := List.mem_iff_getElem.1 h
  rw [List.length_take] at hj
  refine ⟨j, by omega, by omega, ?_⟩
  rw [List.getElem_take] at e
  rw [List.getD_eq_getElem?_getD, List.getElem?_eq_getElem (by omega)]; exact e
theorem anyGt_zero (xs : List Int) (y : Int) : anyGt (xs.take 0) y = false := by simp [anyGt]
theorem insP_zero (xs : List Int) (y : Int) : insP xs y 0 = [] := by simp [insP, anyGt]
theorem anyGt_succ {xs : List Int} {y : Int} {i : Nat} (h : i < xs.length) : anyGt (xs.take (i + 1)) y = (anyGt (xs.take i) y || decide (y < xs.getD i 0)) := by
  rw [take_succ_getD h]; simp [anyGt]
theorem anyGt_no {xs : List Int} {y : Int} {i : Nat} (ha : anyGt (xs.take i) y = false) (hne : ∀ j, j < i → xs.getD j 0 ≠ y) : ∀ x ∈ xs.take i, x < y := by
  intro x hx
  unfold anyGt at ha
  rw [List.any_eq_false] at ha
  have h1 := ha x hx
  obtain ⟨j, h2, h3, rfl⟩ := mem_take_getD hx
  have := hne j h2
  simp only [decide_eq_true_eq] at h1
  omega
theorem insP_gt {xs : List Int} {y : Int} {i : Nat} (h : i < xs.length) (ha : anyGt (xs.take i) y = false) (hy : y < xs.getD i 0) (hne : ∀ j, j < i → xs.getD j 0 ≠ y) : (insP xs y i ++ [y]) ++ [xs.getD i 0] = insP xs y (i + 1) := by
  have hlt := anyGt_no ha hne
  have h1 : insP xs y i = xs.take i := by unfold insP; rw [ha]; rfl
  have h2 : anyGt (xs.take (i + 1)) y = true := by rw [anyGt_succ h, ha, decide_eq_true hy]; rfl
  rw [h1]
  unfold insP
  rw [h2, if_pos rfl, take_succ_getD h, List.filter_append, List.filter_append]
  have e1 : (xs.take i).filter (fun x => decide (x < y)) = xs.take i := List.filter_eq_self.2 (fun x hx => by simpa using hlt x hx)
  have e2 : (xs.take i).filter (fun x => decide (y < x)) = [] := List.filter_eq_nil_iff.2 (fun x hx => by have := hlt x hx; simp; omega)
  rw [e1, e2]
  have e3 : [xs.getD i 0].filter (fun x => decide (x < y)) = [] := by rw [List.filter_cons, decide_eq_false (by omega)]; rfl
  have e4 : [xs.getD i 0].filter (fun x => decide (y < x)) = [xs.getD i 0] := by rw [List.filter_cons, decide_eq_true hy]; rfl
  rw [e3, e4]; simp
theorem insP_on {xs : List Int} {y : Int} {i : Nat} (hr : Rise xs) (h : i < xs.length) (ha : anyGt (xs.take i) y = true) : insP xs y i ++ [xs.getD i 0] = insP xs y (i + 1) ∧ anyGt (xs.take (i + 1)) y = true := by
  have h2 : anyGt (xs.take (i + 1)) y = true := by rw [anyGt_succ h, ha]; rfl
  refine ⟨?_, h2⟩
  have hgt : y < xs.getD i 0 := by
    unfold anyGt at ha
    rw [List.any_eq_true] at ha
    obtain ⟨x, hx, hd⟩ := ha
    obtain ⟨j, h3, h4, rfl⟩ := mem_take_getD hx
    have := hr.lt h3 h
    simp only [decide_eq_true_eq] at hd
    omega
  unfold insP
  rw [ha, h2, if_pos rfl, if_pos rfl, take_succ_getD h, List.filter_append, List.filter_append]
  have e3 : [xs.getD i 0].filter (fun x => decide (x < y)) = [] := by rw [List.filter_cons, decide_eq_false (by omega)]; rfl
  have e4 : [xs.getD i 0].filter (fun x => decide (y < x)) = [xs.getD i 0] := by rw [List.filter_cons, decide_eq_true hgt]; rfl
  rw [e3, e4]; simp
theorem insP_low {xs : List Int} {y : Int} {i : Nat} (h : i < xs.length) (ha : anyGt (xs.take i) y = false) (hy : ¬ y < xs.getD i 0) : insP xs y i ++ [xs.getD i 0] = insP xs y (i + 1) ∧ anyGt (xs.take (i + 1)) y = false := by
  have h2 : anyGt (xs.take (i + 1)) y = false := by rw [anyGt_succ h, ha, decide_eq_false hy]; rfl
  refine ⟨?_, h2⟩
  unfold insP
  rw [ha, h2, if_neg (by simp), if_neg (by simp), take_succ_getD h]
theorem notin {xs : List Int} {y : Int} {i : Nat} (hi : xs.length ≤ i) (hne : ∀ j, j < i → xs.getD j 0 ≠ y) : y ∉ xs := by
  intro hm
  obtain ⟨j, h1, h2⟩ := mem_getD hm
  exact hne j (by omega) h2
theorem insP_end {xs : List Int} {y : Int} {i : Nat} (hi : xs.length ≤ i) (ha : anyGt (xs.take i) y = true) (hne : ∀ j, j < i → xs.getD j 0 ≠ y) : insP xs y i = addL' xs y := by
  unfold insP addL'
  rw [ha, if_pos rfl, if_neg (notin hi hne), List.take_of_length_le hi]
theorem insP_last {xs : List Int} {y : Int} {i : Nat} (hi : xs.length ≤ i) (ha : anyGt (xs.take i) y = false) (hne : ∀ j, j < i → xs.getD j 0 ≠ y) : insP xs y i ++ [y] = addL' xs y := by
  have hlt := anyGt_no ha hne
  rw [List.take_of_length_le hi] at hlt ha
  unfold insP addL'
  rw [List.take_of_length_le hi, ha, if_neg (by simp), if_neg (notin hi hne)]
  have e1 : xs.filter (fun x => decide (x < y)) = xs := List.filter_eq_self.2 (fun x hx => by simpa using hlt x hx)
  have e2 : xs.filter (fun x => decide (y < x)) = [] := List.filter_eq_nil_iff.2 (fun x hx => by have := hlt x hx; simp; omega)
  rw [e1, e2]
/-! ### A row that may have moved -/
theorem Tab.swapIn {w0 w : World} {T : List Ent} {e old : Ent} {i : Nat} (hT : Tab w0 w (e :: T)) (hi : T[i]? = some old) (hg : old.own = true) : Tab w0 w (T.set i e) := by
  have hlt : i < T.length := (List.getElem?_eq_some_iff.1 hi).1
  have look : ∀ (j : Nat) (x : Ent), (T.set i e)[j]? = some x → ∃ q : Nat, (e :: T)[q]? = some x ∧ q = if j = i then 0 else j + 1 := by
    intro j x hx
    rcases getElem?_set_cases _ _ _ _ _ hx with ⟨h1, rfl⟩ | ⟨h1, h2⟩
    · exact ⟨0, rfl, by rw [if_pos h1]⟩
    · exact ⟨j + 1, by simpa using h2, by rw [if_neg h1]⟩
  refine ⟨hT.os, hT.tape, hT.output, hT.size, ?_, ?_, ?_, ?_⟩
  · intro j x hx
    obtain ⟨q, h, _⟩ := look j x hx
    exact hT.ok q x h
  · intro k hk hno
    refine hT.frame k hk (fun q x hx hw hb => ?_)
    cases q with
    | zero =>
      simp at hx; subst hx
      exact hno i e (by simp [hlt]) hw hb
    | succ q =>
      simp at hx
      by_cases hq : q = i
      · subst hq
        rw [hi] at hx; cases hx
        have := hT.own (q + 1) old (by simpa using hi) hg k hb
        omega
      · exact hno q x (by rw [List.getElem?_set_ne (Ne.symm hq)]; exact hx) hw hb
  · intro j x hx
    obtain ⟨q, h, _⟩ := look j x hx
    exact hT.own q x h
  · intro a b x y hab hx hy
    obtain ⟨q, h1, e1⟩ := look a x hx
    obtain ⟨r, h2, e2⟩ := look b y hy
    refine hT.disj q r x y ?_ h1 h2
    rw [e1, e2]
    split <;> split <;> omega
theorem Tab.moved {w0 w w' : World} {T : List Ent} (hT : Tab w0 w T) {i : Nat} {A A' : Option Addr} {g n cap g' k' cp' e sz : Nat} {vals vals' : List Value} (hi : T[i]? = some (.gen (rowE A g n cap e sz vals true)))
    (h : (A' = A ∧ g' = g ∧ k' = n ∧ cp' = cap ∧ vals' = vals ∧ Below w.heap.size w w') ∨ Tab w w' [.gen (rowE A' g' k' cp' e sz vals' true)]) : Tab w0 w' (T.set i (.gen (rowE A' g' k' cp' e sz vals' true))) := by
  rcases h with ⟨rfl, rfl, rfl, rfl, rfl, hb⟩ | h
  · have : T.set i (.gen (rowE A' g' k' cp' e sz vals' true)) = T := by
      obtain ⟨hlt, he⟩ := List.getElem?_eq_some_iff.1 hi
      rw [← he]
      exact List.set_getElem_self hlt
    rw [this]; exact hT.below hb
  · exact (hT.news (N := [_]) h rfl).swapIn hi rfl
/-! ### The document's ways -/
def docK (how : Int) (a b : Bool) : Bool := if how = 0 then a || b else if how = 1 then a && b else if how = 2 then a && !b else a != b
theorem docK_none (how : Int) : docK how false false = false := by unfold docK; split; rfl; split; rfl; split <;> rfl
theorem rget_append {a b : List Rect} {i : Nat} : rget (a ++ b) i = if i < a.length then rget a i else rget b (i - a.length) := by
  unfold rget
  rw [List.getD_eq_getElem?_getD]
  split
  · rename_i h; rw [List.getElem?_append_left h, List.getD_eq_getElem?_getD]
  · rename_i h; rw [List.getElem?_append_right (by omega), List.getD_eq_getElem?_getD]
def gx (l : List Rect) (i : Nat) : List Int := (l.take i).foldl addXs []
def gy (l : List Rect) (i : Nat) : List Int := (l.take i).foldl addYs []
theorem gx_zero (l : List Rect) : gx l 0 = [] := rfl
theorem gy_zero (l : List Rect) : gy l 0 = [] := rfl
theorem gx_skip {l : List Rect} {i : Nat} (h : i < l.length) (he : emptyR (rget l i) = true) : gx l i = gx l (i + 1) := by
  unfold gx; rw [take_succ_rget h, List.foldl_append, List.foldl_cons, List.foldl_nil, addXs, he]; rfl
theorem gy_skip {l : List Rect} {i : Nat} (h : i < l.length) (he : emptyR (rget l i) = true) : gy l i = gy l (i + 1) := by
  unfold gy; rw [take_succ_rget h, List.foldl_append, List.foldl_cons, List.foldl_nil, addYs, he]; rfl
theorem gx_put {l : List Rect} {i : Nat} (h : i < l.length) (he : emptyR (rget l i) = false) : addL' (addL' (gx l i) (rget l i).x0) (rget l i).x1 = gx l (i + 1) := by
  unfold gx; rw [take_succ_rget h, List.foldl_append, List.foldl_cons, List.foldl_nil]; conv => rhs; rw [addXs, he]
  rfl
theorem gy_put {l : List Rect} {i : Nat} (h : i < l.length) (he : emptyR (rget l i) = false) : addL' (addL' (gy l i) (rget l i).y0) (rget l i).y1 = gy l (i + 1) := by
  unfold gy; rw [take_succ_rget h, List.foldl_append, List.foldl_cons, List.foldl_nil]; conv => rhs; rw [addYs, he]
  rfl
theorem gx_rise (l : List Rect) (i : Nat) : Rise (gx l i) := (xsD_ok (l.take i) [] rise_nil).1
theorem gy_rise (l : List Rect) (i : Nat) : Rise (gy l i) := (ysD_ok (l.take i) [] rise_nil).1
theorem gx_length (l : List Rect) (i : Nat) : (gx l i).length ≤ 2 * i := by
  have := (xsD_ok (l.take i) [] rise_nil).2.2.2
  rw [List.length_take] at this
  simp only [List.length_nil] at this
  unfold gx; omega
theorem gy_length (l : List Rect) (i : Nat) : (gy l i).length ≤ 2 * i := by
  have := (ysD_ok (l.take i) [] rise_nil).2.2.2
  rw [List.length_take] at this
  simp only [List.length_nil] at this
  unfold gy; omega
def ownD (how : Int) (a b : List Rect) (XS : List Int) (y y' : Int) : List Rect := ownL (fun x => keepF (docK how) a b x y) y y' XS (XS.length - 1)
theorem ownD_length (how : Int) (a b : List Rect) (XS : List Int) (y y' : Int) : (ownD how a b XS y y').length ≤ XS.length := by
  have := ownL_length (fun x => keepF (docK how) a b x y) y y' XS (XS.length - 1)
  unfold ownD; omega
theorem regD_of (how : Int) (a b : List Rect) (XS YS : List Int) (hX : XS = gx (a ++ b) (a ++ b).length) (hY : YS = gy (a ++ b) (a ++ b).length) : (mgG touchL (ownD how a b XS) YS (YS.length - 1)).1 ++ (mgG touchL (ownD how a b XS) YS (YS.length - 1)).2 = regM (docK how) a b := by
  rw [← regD_eq (docK_none how) a b]
  have e1 : gx (a ++ b) (a ++ b).length = xsD (a ++ b) := by unfold gx xsD; rw [List.take_length]
  have e2 : gy (a ++ b) (a ++ b).length = ysD (a ++ b) := by unfold gy ysD; rw [List.take_length]
  subst hX hY
  rw [e1, e2]; rfl
theorem touchL_true {l o : List Rect} {y : Int} (h0 : 0 < l.length) (h1 : (rget l 0).y1 = y) (h2 : eqF span1 l o = true) : touchL l o y = true := by
  unfold touchL; rw [decide_eq_true h0, decide_eq_true h1, h2]; rfl
theorem touchL_no0 {l o : List Rect} {y : Int} (h0 : ¬ 0 < l.length) : touchL l o y = false := by
  unfold touchL; rw [decide_eq_false h0]; rfl
theorem touchL_no1 {l o : List Rect} {y : Int} (h1 : (rget l 0).y1 ≠ y) : touchL l o y = false := by
  unfold touchL; rw [decide_eq_false h1]; simp
theorem touchL_no2 {l o : List Rect} {y : Int} (h2 : eqF span1 l o = false) : touchL l o y = false := by
  unfold touchL; rw [h2]; simp
/-! ### Small rectangles -/
def smallR (r : Rect) : Rect := ⟨aroundI r.x0 24 - 4, aroundI r.y0 24 - 4, aroundI r.x0 24 - 4 + aroundI r.x1 13, aroundI r.y0 24 - 4 + aroundI r.y1 13⟩
def smallL (l : List Rect) (most : Nat) : List Rect := (l.take most).map smallR
theorem smallL_put {l : List Rect} {i : Nat} (h : i < l.length) : smallL l i ++ [smallR (rget l i)] = smallL l (i + 1) := by
  unfold smallL; rw [take_succ_rget h]; simp
theorem smallL_length (l : List Rect) (m : Nat) : (smallL l m).length ≤ m := by simp [smallL]; omega
theorem smallL_end {l : List Rect} {i m : Nat} (h : l.length ≤ i ∨ m ≤ i) (hi : i ≤ m) (hl : i ≤ l.length) : smallL l i = smallL l m := by
  unfold smallL
  rcases h with h | h
  · rw [List.take_of_length_le h, List.take_of_length_le (by omega)]
  · rw [show i = m by omega]
end Go.Proofs.Ytlfahohbkgdabaa

/- From the reading of a law's arguments to the words of the walks, and back. -/
set_option linter.unusedVariables false
set_option linter.unusedSimpArgs false
namespace Go.Proofs.Ytlfahohbkgdabaa
open Go.ChangeShapes Go.WideShapes Go.ChangeAt Go.RowKit Go.Deep

theorem own0 : ownKnob Try.prog.godebug = none := by kernel_rfl
theorem laidOut0 : laidOutB Try.prog = true := by kernel_rfl

section
variable {H : Type} {enc : TypeId × Value → H} {P : Program}
theorem post_below {f : Func} {s : ChangeSpec} {apart fresh handsOn again : Bool} {W W' : World} {args : Array Value} {v : Value} {ds gs : List (DataW H)} {before pa pv : List MemPlace}
    (hW : DataW.Whole enc P f.params.toList s.vars apart W args.toList ds gs before)
    (hres : ∀ (b : Nat) (sp : Nat → Bool) (hd : Bool), DataW.TrodAll enc P W' b sp hd f.resultTypes.toList (v.resultList f.resultTypes.size) (s.fn H (ds ++ gs)).results [])
    (hargs : ∀ sp : Nat → Bool, (∀ p ∈ before, sp p.block = true) → DataW.TrodAll enc P W' 0 sp true f.params.toList args.toList (s.fn H (ds ++ gs)).args pa)
    (hvars : ∀ sp : Nat → Bool, (∀ p ∈ before, sp p.block = true) → DataW.TrodVars enc P W' sp s.vars (s.fn H (ds ++ gs)).vars pv)
    (hps : before = pa ++ pv) (hb : Below W.heap.size W W')
    (hok : ∀ (j : Nat) (t : TypeId) (r : Value), f.resultTypes[j]? = some t → (v.resultList f.resultTypes.size)[j]? = some r → Value.okWide P W' .any 0 t r) :
    s.post enc P f apart fresh handsOn again W args v W' := by
  have hlt : ∀ p ∈ before, p.block < W.heap.size := fun p hp => hW.lt p hp
  have hold : ∀ p ∈ before, (fun b => decide (b < W.heap.size)) p.block = true := fun p hp => by simpa using hlt p hp
  refine ⟨ds, gs, before, [], pa, pv, hW, hres _ _ _, hargs _ hold, hvars _ hold, World.keptBut_mono (fun p hp => ⟨hp, ?_⟩) (hb.frame (· ∈ before)), fun _ => ?_⟩
  · rw [hps, List.mem_append] at hp
    exact Or.inr hp
  · obtain ⟨_, _, _, _, _, hz, hn⟩ := hW
    refine ⟨hok, _, _, ([] ++ pa) ++ pv, ⟨[] ++ pa, pv, trodAll_append (hargs _ (fun _ _ => rfl)) (hres _ _ _), hvars _ (fun _ _ => rfl), rfl, ?_, ?_⟩, ?_⟩
    · intro b off hp
      have hin : MemPlace.cell b off ∈ before := by rw [hps]; simpa using hp
      rw [hb.frozen (hlt _ hin)]
      exact hz b off hin
    · intro ha
      have := hn ha
      rw [hps] at this
      simpa using this
    · intro p hp _
      rw [hps]
      simpa using hp

/-- An argument reads behind the call as it did, whatever may be spared. -/
theorem trod_keeps {t : TypeId} (hl : laidOutB P = true) (hr : P.readableRec t = true) (hrow : t < P.types.size) {W W' : World} {v : Value} {d : DataW H} {ps : List MemPlace}
    (h : DataW.Trod enc P W 0 (fun _ => true) true t v d ps) (hb : Below W.heap.size W W') (hlt : ∀ x ∈ ps, x.block < W.heap.size) (sp : Nat → Bool) (hsp : ∀ p ∈ ps, sp p.block = true) : DataW.Trod enc P W' 0 sp true t v d ps :=
  WideElems.Trod_stays hl hr hrow h (fun x hx => hb.same (hlt x hx)) hsp
end

theorem addr_split {a : Addr} (h : a.spot = none) (j : Nat) : a.add j = ⟨a.block, a.off + j, none⟩ := by
  cases a with
  | mk b o s =>
    simp only at h
    subst h
    unfold Addr.add
    split <;> simp_all
theorem spot_of_cell {W : World} {a : Addr} {v : Value} (h : W.cell? a = some v) : a.spot = none := by
  unfold World.cell? at h
  split at h
  · split at h
    · cases h
    · rename_i hs; simpa using hs
  · cases h
/-- A field of a struct that came in. -/
theorem trod_sub {H : Type} {enc : TypeId × Value → H} {P : Program} {W : World} {t ty : TypeId} {fs : Array Field} {i fuel : Nat} {f : Field} {cs cs' : List Value} {x : DataW H × List MemPlace} (ht : P.underlying t = some (.struct fs))
    (h : DataW.trod enc P W 0 (fun _ => true) true fuel t cs = some x) (hf : fs[i]? = some f) (hty : f.type = ty) (e : (cs.drop f.offset).take (P.cellsOf f.type) = cs') : ∃ (n : Nat) (y : DataW H × List MemPlace), DataW.trod enc P W 0 (fun _ => true) true n ty cs' = some y := by
  obtain ⟨xs, n, _, _, _, hlen, hg⟩ := DataW.trod_struct ht h
  have h1 := hg i f hf
  rw [e, hty] at h1
  have hi : i < xs.length := by rw [hlen]; exact (Array.getElem?_eq_some_iff.1 hf).1
  rw [List.getElem?_eq_getElem hi] at h1
  exact ⟨n, _, h1⟩
theorem open_intC {H : Type} {enc : TypeId × Value → H} {P : Program} {W : World} {t : TypeId} {k : IntKind} {c : Value} {n : Nat} {x : DataW H × List MemPlace} (ht : P.underlying t = some (.int k)) (h : DataW.trod enc P W 0 (fun _ => true) true n t [c] = some x) : ∃ a : Int, c = .int k a ∧ (Lit.int k a).wf = true := by
  obtain ⟨a, e, _, w⟩ := DataW.trod_int ht h
  exact ⟨a, by simpa using e, w⟩
theorem open_boolC {H : Type} {enc : TypeId × Value → H} {P : Program} {W : World} {t : TypeId} {c : Value} {n : Nat} {x : DataW H × List MemPlace} (ht : P.underlying t = some .bool) (h : DataW.trod enc P W 0 (fun _ => true) true n t [c] = some x) : ∃ b : Bool, c = .bool b := by
  obtain ⟨b, e, _⟩ := DataW.trod_bool ht h
  exact ⟨b, by simpa using e⟩
theorem open_numsC {H : Type} {enc : TypeId × Value → H} {P : Program} {W : World} {t e : TypeId} {k : IntKind} {c : Value} {fuel : Nat} {x : DataW H × List MemPlace} (ht : P.underlying t = some (.slice e)) (he : P.underlying e = some (.int k)) (hc : P.cellsOf e = 1)
    (hf : DataW.trod enc P W 0 (fun _ => true) true fuel t [c] = some x) :
    ∃ (A : Option Addr) (g o n cap : Nat) (xs : List Int), c = .slice A n cap ∧ Rd W A g o n 1 (ivals k xs) ∧ xs.length = n ∧ n ≤ cap ∧ cap ≤ maxLen ∧ (∀ x ∈ xs, (Lit.int k x).wf = true) := by
  rcases open_ints ht he hc hf with ⟨h1, _⟩ | ⟨ad, len', cap', zs, h1, _, hle, hm, hlen, _, hcell, hwf⟩
  · simp only [List.cons.injEq, and_true] at h1
    exact ⟨none, 0, 0, 0, 0, [], h1, ⟨rfl, fun h => by omega, fun j v hj => by simp [ivals] at hj⟩, rfl, Nat.le_refl _, by unfold maxLen; omega, fun x hx => by cases hx⟩
  · simp only [List.cons.injEq, and_true] at h1
    simp only [if_true] at hlen
    have hsp : 0 < len' → ad.spot = none := fun hp => by
      have := hcell 0 (by omega)
      have h0 : ad.add 0 = ad := by simp [Addr.add]
      rw [h0] at this
      exact spot_of_cell this
    refine ⟨some ad, ad.block, ad.off, len', cap', zs.take len', h1, ⟨by simp [ivals]; omega, fun hp => ?_, fun j v hj => ?_⟩, by simp; omega, hle, hm, fun x hx => hwf x (List.mem_of_mem_take hx)⟩
    · have := hsp hp
      cases ad with
      | mk b o s => simp only at this; subst this; rfl
    · have hjl : j < (ivals k (zs.take len')).length := (List.getElem?_eq_some_iff.1 hj).1
      rw [ivals_length, List.length_take] at hjl
      have hg := ivals_get (k := k) (xs := zs.take len') (j := j) (by rw [List.length_take]; exact hjl)
      rw [hg] at hj
      cases hj
      have hc1 := hcell j (by omega)
      rw [addr_split (hsp (by omega))] at hc1
      rw [hc1]
      congr 2
      simp only [List.getD_eq_getElem?_getD]
      rw [List.getElem?_take, if_pos (by omega)]
end Go.Proofs.Ytlfahohbkgdabaa

/- From a law's arguments to plain words: slices of rectangles. -/
set_option linter.unusedVariables false
set_option linter.unusedSimpArgs false
namespace Go.Proofs.Ytlfahohbkgdabaa
open Go Go.ChangeShapes Go.WideShapes Go.ChangeAt Go.RowKit Go.Deep

structure R64 (r : Rect) : Prop where
  x0 : -9223372036854775808 ≤ r.x0 ∧ r.x0 ≤ 9223372036854775807
  y0 : -9223372036854775808 ≤ r.y0 ∧ r.y0 ≤ 9223372036854775807
  x1 : -9223372036854775808 ≤ r.x1 ∧ r.x1 ≤ 9223372036854775807
  y1 : -9223372036854775808 ≤ r.y1 ∧ r.y1 ≤ 9223372036854775807
theorem open_rectC {H : Type} {enc : TypeId × Value → H} {P : Program} {W : World} {t ti : TypeId} {f0 f1 f2 f3 : Field} {cs : List Value} {n : Nat} {x : DataW H × List MemPlace} (hs : P.underlying t = some (.struct #[f0, f1, f2, f3])) (h0 : f0.type = ti) (h1 : f1.type = ti) (h2 : f2.type = ti) (h3 : f3.type = ti)
    (o0 : f0.offset = 0) (o1 : f1.offset = 1) (o2 : f2.offset = 2) (o3 : f3.offset = 3) (hi : P.underlying ti = some (.int .i64)) (hci : P.cellsOf ti = 1) (hl : cs.length = 4) (h : DataW.trod enc P W 0 (fun _ => true) true n t cs = some x) : ∃ r : Rect, cs = rcells r ∧ R64 r := by
  match cs, hl with
  | [c0, c1, c2, c3], _ =>
    obtain ⟨n0, y0, g0⟩ := trod_sub hs h (i := 0) (f := f0) rfl h0 (cs' := [c0]) (by rw [o0, h0, hci]; rfl)
    obtain ⟨n1, y1, g1⟩ := trod_sub hs h (i := 1) (f := f1) rfl h1 (cs' := [c1]) (by rw [o1, h1, hci]; rfl)
    obtain ⟨n2, y2, g2⟩ := trod_sub hs h (i := 2) (f := f2) rfl h2 (cs' := [c2]) (by rw [o2, h2, hci]; rfl)
    obtain ⟨n3, y3, g3⟩ := trod_sub hs h (i := 3) (f := f3) rfl h3 (cs' := [c3]) (by rw [o3, h3, hci]; rfl)
    obtain ⟨a0, rfl, w0⟩ := open_intC hi g0
    obtain ⟨a1, rfl, w1⟩ := open_intC hi g1
    obtain ⟨a2, rfl, w2⟩ := open_intC hi g2
    obtain ⟨a3, rfl, w3⟩ := open_intC hi g3
    exact ⟨⟨a0, a1, a2, a3⟩, rfl, ⟨wf64 w0, wf64 w1, wf64 w2, wf64 w3⟩⟩
theorem rget_map {F : Nat → Rect} {n i : Nat} (h : i < n) : rget ((List.range n).map F) i = F i := by
  simp [rget, List.getD_eq_getElem?_getD, h]
/-- A slice of rectangles that came in. -/
theorem open_rectsC {H : Type} {enc : TypeId × Value → H} {P : Program} {W : World} {ts t ti : TypeId} {f0 f1 f2 f3 : Field} {c : Value} {n : Nat} {x : DataW H × List MemPlace} (ht : P.underlying ts = some (.slice t)) (hs : P.underlying t = some (.struct #[f0, f1, f2, f3])) (h0 : f0.type = ti) (h1 : f1.type = ti) (h2 : f2.type = ti) (h3 : f3.type = ti)
    (o0 : f0.offset = 0) (o1 : f1.offset = 1) (o2 : f2.offset = 2) (o3 : f3.offset = 3) (hi : P.underlying ti = some (.int .i64)) (hci : P.cellsOf ti = 1) (hct : P.cellsOf t = 4) (h : DataW.trod enc P W 0 (fun _ => true) true n ts [c] = some x) :
    ∃ (A : Option Addr) (g o n cap : Nat) (xs : List Rect), c = .slice A n cap ∧ Rd W A g o n 4 (rvals xs) ∧ xs.length = n ∧ n ≤ cap ∧ cap ≤ maxLen ∧ (∀ r ∈ xs, R64 r) := by
  rcases open_slice ht h with ⟨e, _⟩ | ⟨a, len, cap, m, k, D, Pl, e, _, hle, hm, hmm, _, hx⟩
  · simp only [List.cons.injEq, and_true] at e
    exact ⟨none, 0, 0, 0, 0, [], e, ⟨rfl, fun h => by omega, fun j v hj => by simp [rvals] at hj⟩, rfl, Nat.le_refl _, by unfold maxLen; omega, fun x hx => by cases hx⟩
  · simp only [List.cons.injEq, and_true] at e
    simp only [if_true] at hmm
    have each : ∀ i, i < len → ∃ r : Rect, (∀ j v, (rcells r)[j]? = some v → W.cell? ((a.add (i * 4)).add j) = some v) ∧ R64 r := by
      intro i hil
      obtain ⟨cs', g1, g2⟩ := hx i (by omega)
      rw [hct] at g1
      obtain ⟨_, hlen, hcell⟩ := World.cells?_some g1
      obtain ⟨r, rfl, hr⟩ := open_rectC hs h0 h1 h2 h3 o0 o1 o2 o3 hi hci (by simpa using hlen) g2
      refine ⟨r, fun j v hj => ?_, hr⟩
      have hjl := (List.getElem?_eq_some_iff.1 hj).1
      have := hcell j (by simpa [rcells] using hjl)
      rw [this]
      simpa using hj
    have hF : ∃ F : Nat → Rect, ∀ i, i < len → (∀ j v, (rcells (F i))[j]? = some v → W.cell? ((a.add (i * 4)).add j) = some v) ∧ R64 (F i) :=
      ⟨fun i => if h : i < len then Classical.choose (each i h) else ⟨0, 0, 0, 0⟩, fun i h => by simp only [dif_pos h]; exact Classical.choose_spec (each i h)⟩
    obtain ⟨F, hF⟩ := hF
    have hsp : 0 < len → a.spot = none := fun hp => by
      have := (hF 0 hp).1 0 _ rfl
      have z : (a.add (0 * 4)).add 0 = a := by simp [Addr.add]
      rw [z] at this
      exact spot_of_cell this
    refine ⟨some a, a.block, a.off, len, cap, (List.range len).map F, e, ⟨by rw [rvals_length]; simp, fun hp => ?_, fun j v hj => ?_⟩, by simp, hle, hm, fun r hr => ?_⟩
    · have := hsp hp
      cases a with
      | mk b o s => simp only at this; subst this; rfl
    · have hjl := (List.getElem?_eq_some_iff.1 hj).1
      rw [rvals_length, List.length_map, List.length_range] at hjl
      have hq : j / 4 < len := by omega
      have hk := List.getElem?_eq_getElem (l := rcells (F (j / 4))) (i := j % 4) (by simp [rcells]; omega)
      have h2 := rvals_get (l := (List.range len).map F) (i := j / 4) (k := j % 4) (by simpa using hq) (by rw [rget_map hq]; exact hk)
      rw [show j / 4 * 4 + j % 4 = j by omega, hj] at h2
      have h3 := (hF _ hq).1 (j % 4) v (by rw [hk]; exact h2.symm)
      have hs2 := hsp (by omega)
      rw [addr_split hs2, addr_split rfl] at h3
      simp only at h3
      rw [show a.off + j / 4 * 4 + j % 4 = a.off + j by omega] at h3
      exact h3
    · obtain ⟨i, hi, rfl⟩ := List.mem_map.1 hr
      exact (hF i (List.mem_range.1 hi)).2
end Go.Proofs.Ytlfahohbkgdabaa

/- Contracts of functions of the given program, printed by a program of this project. -/
set_option linter.unusedVariables false
set_option linter.unusedSimpArgs false
namespace Go.Proofs.Ytlfahohbkgdabaa
open Go Go.RowKit
set_option maxRecDepth 100000
set_option maxHeartbeats 8000000

theorem refSmallQ (r : Rect) (w : World) (hr : R64 r) :
    Calls Try.prog 41 #[.agg #[.int .i64 r.x0, .int .i64 r.y0, .int .i64 r.x1, .int .i64 r.y1]] w fun e w' => e = .returned (.agg #[.int .i64 ((smallR r).x0), .int .i64 ((smallR r).y0), .int .i64 ((smallR r).x1), .int .i64 ((smallR r).y1)]) ∧ Below w.heap.size w w' := by
 obtain ⟨⟨h0, h0'⟩, ⟨h1, h1'⟩, ⟨h2, h2'⟩, ⟨h3, h3'⟩⟩ := hr
 refine enter 26 [(0, .agg #[iq r.x0, iq r.y0, iq r.x1, iq r.y1])] [] Try.func41 rfl Try.ntmps41 rfl (by kernel_rfl) (Tab.start w) ?_
 refine cont_seq ?_
 refine cont_region 2 rfl ?_
 refine batch2 [0, 0] 2 0 (fun b1 b2 => [(1, .pointer (pB b1)), (2, .pointer (pB b2))]) (fun b1 b2 => [.cells b2 [iq 0, iq 0, iq 0, iq 0] 53 true, .cells b1 [iq r.x0, iq r.y0, iq r.x1, iq r.y1] 53 true]) rfl rfl [1, 2] (fun _ _ => rfl) (fun b1 b2 => by kernel_rfl) (fun b1 b2 => by kernel_rfl) (fun b1 b2 => ?_)
 refine cont_done ?_
 refine then_normal ?_
 refine cont_seq ?_
 refine cont_region 5 rfl ?_
 refine bS [0, 1] 2 3 [(1, .pointer (pB b1)), (2, .pointer (pB b2)), (6, iq r.x0)] ?_
 refine pl_step 3 2 rfl rfl ?_
 refine call_pure (d := 7) (iq (aroundI r.x0 24)) (by kernel_rfl) (fun w hT => refAround r.x0 24 w (by omega) (by omega)) ?_
 have hq3_ := aroundI_range r.x0 (m := 24) (by omega)
 refine bS [0] 4 1 [(1, .pointer (pB b1)), (2, .pointer (pB b2)), (8, iq (IntKind.i64.wrap ((aroundI r.x0 24) - 4)))] ?_
 refine cont_recast 8 (iq (IntKind.i64.wrap ((aroundI r.x0 24) - 4))) (iq ((aroundI r.x0 24) - 4)) rfl (wrapI (by omega) (by omega)) ?_
 refine bS [0] 5 0 [(1, .pointer (pB b1)), (2, .pointer (pB b2)), (3, iq ((aroundI r.x0 24) - 4))] ?_
 refine cont_done ?_
 refine then_normal ?_
 refine cont_seq ?_
 refine cont_region 5 rfl ?_
 refine bS [0, 1] 2 3 [(1, .pointer (pB b1)), (2, .pointer (pB b2)), (3, iq ((aroundI r.x0 24) - 4)), (10, iq r.y0)] ?_
 refine pl_step 3 2 rfl rfl ?_
 refine call_pure (d := 11) (iq (aroundI r.y0 24)) (by kernel_rfl) (fun w hT => refAround r.y0 24 w (by omega) (by omega)) ?_
 have hq4_ := aroundI_range r.y0 (m := 24) (by omega)
 refine bS [0] 4 1 [(1, .pointer (pB b1)), (2, .pointer (pB b2)), (3, iq ((aroundI r.x0 24) - 4)), (12, iq (IntKind.i64.wrap ((aroundI r.y0 24) - 4)))] ?_
 refine cont_recast 12 (iq (IntKind.i64.wrap ((aroundI r.y0 24) - 4))) (iq ((aroundI r.y0 24) - 4)) rfl (wrapI (by omega) (by omega)) ?_
 refine bS [0] 5 0 [(1, .pointer (pB b1)), (2, .pointer (pB b2)), (3, iq ((aroundI r.x0 24) - 4)), (4, iq ((aroundI r.y0 24) - 4))] ?_
 refine cont_done ?_
 refine then_normal ?_
 refine cont_seq ?_
 refine drawn_enter 14 [0] rfl (by kernel_rfl) ?_
 refine takes 0 [0] [(0, 0), (1, 0), (2, 0), (3, 0), (7, 0), (8, 0), (4, 1), (9, 1)] 6 [9, 4, 8, 7, 3, 2, 1, 0] [(2, .pointer (pB b2)), (13, iq ((aroundI r.x0 24) - 4)), (14, iq ((aroundI r.y0 24) - 4)), (15, iq ((aroundI r.x0 24) - 4)), (17, iq r.x1), (20, iq ((aroundI r.y0 24) - 4)), (22, iq r.y1)] (by kernel_rfl) (pok_then pok_body) (by kernel_rfl) rfl rfl (by kernel_rfl) (by kernel_rfl) ?_
 refine drawn_one 5 5 rfl (by kernel_rfl) ?_
 refine call_pure (d := 18) (iq (aroundI r.x1 13)) (by kernel_rfl) (fun w hT => refAround r.x1 13 w (by omega) (by omega)) ?_
 have hq5_ := aroundI_range r.x1 (m := 13) (by omega)
 refine drawn_next 0 [0] (by kernel_rfl) ?_
 refine takes 0 [0] [(6, 0)] 4 [6, 5, 9, 4, 8, 7, 3, 2, 1, 0] [(2, .pointer (pB b2)), (13, iq ((aroundI r.x0 24) - 4)), (14, iq ((aroundI r.y0 24) - 4)), (19, iq (IntKind.i64.wrap (((aroundI r.x0 24) - 4) + (aroundI r.x1 13)))), (20, iq ((aroundI r.y0 24) - 4)), (22, iq r.y1)] (by kernel_rfl) (pok_then pok_body) (by kernel_rfl) rfl rfl (by kernel_rfl) (by kernel_rfl) ?_
 refine cont_recast 19 (iq (IntKind.i64.wrap (((aroundI r.x0 24) - 4) + (aroundI r.x1 13)))) (iq (((aroundI r.x0 24) - 4) + (aroundI r.x1 13))) rfl (wrapI (by omega) (by omega)) ?_
 refine drawn_one 10 3 rfl (by kernel_rfl) ?_
 refine call_pure (d := 23) (iq (aroundI r.y1 13)) (by kernel_rfl) (fun w hT => refAround r.y1 13 w (by omega) (by omega)) ?_
 have hq6_ := aroundI_range r.y1 (m := 13) (by omega)
 refine drawn_next 0 [0] (by kernel_rfl) ?_
 refine takes 0 [0] [(11, 0)] 2 [11, 10, 6, 5, 9, 4, 8, 7, 3, 2, 1, 0] [(2, .pointer (pB b2)), (13, iq ((aroundI r.x0 24) - 4)), (14, iq ((aroundI r.y0 24) - 4)), (19, iq (((aroundI r.x0 24) - 4) + (aroundI r.x1 13))), (24, iq (IntKind.i64.wrap (((aroundI r.y0 24) - 4) + (aroundI r.y1 13))))] (by kernel_rfl) (pok_then pok_body) (by kernel_rfl) rfl rfl (by kernel_rfl) (by kernel_rfl) ?_
 refine cont_recast 24 (iq (IntKind.i64.wrap (((aroundI r.y0 24) - 4) + (aroundI r.y1 13)))) (iq (((aroundI r.y0 24) - 4) + (aroundI r.y1 13))) rfl (wrapI (by omega) (by omega)) ?_
 refine takes 0 [0] [(12, 0)] 1 [12, 11, 10, 6, 5, 9, 4, 8, 7, 3, 2, 1, 0] [(2, .pointer (pB b2)), (25, .agg #[iq ((aroundI r.x0 24) - 4), iq ((aroundI r.y0 24) - 4), iq (((aroundI r.x0 24) - 4) + (aroundI r.x1 13)), iq (((aroundI r.y0 24) - 4) + (aroundI r.y1 13))])] (by kernel_rfl) (pok_then pok_body) (by kernel_rfl) rfl rfl (by kernel_rfl) (by kernel_rfl) ?_
 refine drawn_one 13 0 rfl (by kernel_rfl) ?_
 refine one_step 0 [(2, .pointer (pB b2))] [.cells b2 [iq ((aroundI r.x0 24) - 4), iq ((aroundI r.y0 24) - 4), iq (((aroundI r.x0 24) - 4) + (aroundI r.x1 13)), iq (((aroundI r.y0 24) - 4) + (aroundI r.y1 13))] 53 true, .cells b1 [iq r.x0, iq r.y0, iq r.x1, iq r.y1] 53 true] (by kernel_rfl) (by kernel_rfl) ?_
 refine drawn_next 0 [0] (by kernel_rfl) ?_
 refine drawn_done (by kernel_rfl) ?_
 refine then_normal ?_
 refine cont_ret ?_
 refine ret_one (.inl rfl) rfl 0 (.agg #[iq ((aroundI r.x0 24) - 4), iq ((aroundI r.y0 24) - 4), iq (((aroundI r.x0 24) - 4) + (aroundI r.x1 13)), iq (((aroundI r.y0 24) - 4) + (aroundI r.y1 13))]) (by kernel_rfl) (by kernel_rfl) (fun w hT => ?_)
 exact ⟨rfl, hT.post rfl⟩

theorem refHasL (A : Option Addr) (g o n cap : Nat) (xs : List Rect) (x y : Int) (w : World) (hT0 : Tab w w [.gen (rdE (A) g o n 4 (rvals xs))]) (hn : n ≤ 1000000000000) :
    Calls Try.prog 38 #[.slice A n cap, .int .i64 x, .int .i64 y] w fun e w' => e = .returned (.bool (hasL xs x y)) ∧ Below w.heap.size w w' := by
 obtain ⟨hra, hrl⟩ := Rd.factsR (hT0.ok 0 _ rfl)
 refine enter 21 [(0, .slice A n cap), (1, iq x), (2, iq y)] [.gen (rdE (A) g o n 4 (rvals xs))] Try.func38 rfl Try.ntmps38 rfl (by kernel_rfl) hT0 ?_
 refine cont_seq ?_
 refine cont_region 1 rfl ?_
 refine bS [0] 1 0 [(0, .slice A n cap), (1, iq x), (2, iq y)] ?_
 refine cont_done ?_
 refine then_normal ?_
 refine cont_seq ?_
 refine cont_seq ?_
 refine cont_region 1 rfl ?_
 refine bS [0] 1 0 [(0, .slice A n cap), (1, iq x), (2, iq y), (7, iq 0)] ?_
 refine cont_done ?_
 refine then_normal ?_
 refine cont_block ?_
 refine cont_loop (α := Nat) (fun x_ : Nat => x_ ≤ n ∧ ∀ j, j < x_ → hasB (rget xs j).x0 (rget xs j).y0 (rget xs j).x1 (rget xs j).y1 x y = false) (fun x_ : Nat => [(0, .slice A n cap), (1, iq x), (2, iq y), (7, iq (x_ : Int))]) (fun x_ : Nat => [.gen (rdE (A) g o n 4 (rvals xs))]) (fun x_ : Nat => n - x_) 0 (⟨by omega, fun j hj => by omega⟩) (by kernel_rfl) (by kernel_rfl) ?_
 rintro i hinv1_
 replace hinv1_ : i ≤ n ∧ ∀ j, j < i → hasB (rget xs j).x0 (rget xs j).y0 (rget xs j).x1 (rget xs j).y1 x y = false := hinv1_
 refine cont_norm [(0, .slice A n cap), (1, iq x), (2, iq y), (7, iq (i : Int))] _ (by kernel_rfl) rfl ?_
 obtain ⟨hi, hns⟩ := hinv1_
 refine cont_seq ?_
 refine cont_seq ?_
 refine cont_region 4 rfl ?_
 refine bS [0, 0, 0, 0] 4 0 [(0, .slice A n cap), (1, iq x), (2, iq y), (7, iq (i : Int)), (11, .bool (decide ((i : Int) < (n : Int))))] ?_
 refine cont_done ?_
 refine then_normal ?_
 refine cont_split 11 (decide ((i : Int) < (n : Int))) rfl (fun c2_ => ?_) (fun c2_ => ?_)
 ·
  replace c2_ := of_decide_eq_true c2_
  refine cont_true rfl ?_
  refine cont_skip ?_
  refine then_normal ?_
  refine cont_seq ?_
  refine cont_block ?_
  refine cont_seq ?_
  refine cont_region 7 rfl ?_
  refine bS [0, 0] 2 5 [(0, .slice A n cap), (1, iq x), (2, iq y), (7, iq (i : Int)), (14, .slice A n cap), (15, iq (i : Int))] ?_
  refine pl_step 3 4 rfl rfl ?_
  refine cont_recast 14 (.slice A n cap) (.slice (some ⟨g, o, none⟩) n cap) rfl (by rw [hra (by omega)]) ?_
  refine sem_step 16 (Instr.indexAt 58 (.slice (some ⟨g, o, none⟩) n cap) (iq (i : Int))) (.pointer (some ⟨g, o + i * 4, none⟩)) (by kernel_rfl) (fun w hT => run_indexAt (e := 53) (sz := 4) _ (by kernel_rfl) (by kernel_rfl) (by omega) (by omega) (by omega) w) ?_
  refine pl_step 4 3 rfl rfl ?_
  refine sem_step 17 (Instr.loadAt 53 (.pointer (some ⟨g, o + i * 4, none⟩))) (.agg #[iq ((rget xs i).x0), iq ((rget xs i).y0), iq ((rget xs i).x1), iq ((rget xs i).y1)]) (by kernel_rfl) (fun w hT => run_loadN (m := 4) (cs := rcells (rget xs i)) (by kernel_rfl) (by kernel_rfl) rfl (Rd.rect (hT.ok 0 _ rfl) (by omega))) ?_
  refine bS [0, 0] 6 1 [(0, .slice A n cap), (1, iq x), (2, iq y), (7, iq (i : Int)), (17, .agg #[iq ((rget xs i).x0), iq ((rget xs i).y0), iq ((rget xs i).x1), iq ((rget xs i).y1)]), (18, iq x), (19, iq y)] ?_
  refine pl_step 7 0 rfl rfl ?_
  refine call_pure (d := 20) (.bool (hasB ((rget xs i).x0) ((rget xs i).y0) ((rget xs i).x1) ((rget xs i).y1) x y)) (by kernel_rfl) (fun w hT => refHas ((rget xs i).x0) ((rget xs i).y0) ((rget xs i).x1) ((rget xs i).y1) x y w) ?_
  refine cont_done ?_
  refine then_normal ?_
  refine cont_split 20 (hasB ((rget xs i).x0) ((rget xs i).y0) ((rget xs i).x1) ((rget xs i).y1) x y) rfl (fun c3_ => ?_) (fun c3_ => ?_)
  ·
   refine cont_true rfl ?_
   refine cont_seq ?_
   refine cont_region 1 rfl ?_
   refine bS [0] 1 0 [(6, .bool true)] ?_
   refine cont_done ?_
   refine then_normal ?_
   refine cont_ret ?_
   refine blk_ret ?_
   refine then_ret ?_
   refine then_ret ?_
   refine blk_ret ?_
   refine then_ret ?_
   refine ret_one (.inl rfl) rfl 0 (.bool true) (by kernel_rfl) (by kernel_rfl) (fun w hT => ?_)
   exact ⟨ret_bool (List.any_eq_true.2 ⟨rget xs i, rget_mem (by omega), ‹_›⟩).symm, hT.post rfl⟩
  refine cont_false rfl ?_
  refine cont_skip ?_
  refine blk_normal ?_
  refine then_normal ?_
  refine cont_region 3 rfl ?_
  refine bS [0, 0] 2 1 [(0, .slice A n cap), (1, iq x), (2, iq y), (13, iq (IntKind.i64.wrap ((i : Int) + 1)))] ?_
  refine cont_recast 13 (iq (IntKind.i64.wrap ((i : Int) + 1))) (iq ((i : Int) + 1)) rfl (wrapI (by omega) (by omega)) ?_
  refine bS [0] 3 0 [(0, .slice A n cap), (1, iq x), (2, iq y), (7, iq ((i : Int) + 1))] ?_
  refine cont_done ?_
  refine then_normal ?_
  refine cont_again (i + 1) (show (i + 1) ≤ n ∧ ∀ j, j < (i + 1) → hasB (rget xs j).x0 (rget xs j).y0 (rget xs j).x1 (rget xs j).y1 x y = false from ⟨by omega, fun j hj => by rcases Nat.lt_succ_iff_lt_or_eq.1 hj with h_ | h_; exact hns j h_; subst h_; assumption⟩) (show n - (i + 1) < n - i from by omega) (by kernel_rfl) (by kernel_rfl)
 replace c2_ := of_decide_eq_false c2_
 refine cont_false rfl ?_
 refine cont_exit ?_
 refine then_exit ?_
 refine then_exit ?_
 refine blk_exit ?_
 refine then_normal ?_
 refine cont_seq ?_
 refine cont_region 1 rfl ?_
 refine bS [0] 1 0 [(6, .bool false)] ?_
 refine cont_done ?_
 refine then_normal ?_
 refine cont_ret ?_
 refine ret_one (.inl rfl) rfl 0 (.bool false) (by kernel_rfl) (by kernel_rfl) (fun w hT => ?_)
 refine ⟨ret_bool ?_, hT.post rfl⟩
 symm
 unfold hasL
 rw [List.any_eq_false]
 intro r hr
 obtain ⟨j, hj, e_⟩ := List.mem_iff_getElem.1 hr
 have h_ := hns j (by omega)
 rw [← rget_eq hj, e_] at h_
 rw [h_]; simp

theorem refKeepB (p q : Bool) (how : Int) (w : World) :
    Calls Try.prog 90 #[.bool p, .bool q, .int .i64 how] w fun e w' => e = .returned (.bool (docK how p q)) ∧ Below w.heap.size w w' := by
 refine enter 29 [(0, .bool p), (1, .bool q), (2, iq how)] [] Try.func90 rfl Try.ntmps90 rfl (by kernel_rfl) (Tab.start w) ?_
 refine cont_seq ?_
 refine cont_region 1 rfl ?_
 refine bS [0] 1 0 [(0, .bool p), (1, .bool q), (2, iq how)] ?_
 refine cont_done ?_
 refine then_normal ?_
 refine cont_seq ?_
 refine cont_seq ?_
 refine cont_region 2 rfl ?_
 refine bS [0, 0] 2 0 [(0, .bool p), (1, .bool q), (2, iq how), (8, .bool (how == 0))] ?_
 refine cont_done ?_
 refine then_normal ?_
 refine cont_split 8 (how == 0) rfl (fun c1_ => ?_) (fun c1_ => ?_)
 ·
  replace c1_ := eq_of_beqt c1_
  refine cont_true rfl ?_
  refine cont_seq ?_
  refine cont_region 5 rfl ?_
  refine bS [0, 0] 2 3 [(1, .bool q), (10, .bool p)] ?_
  refine cont_split 10 p rfl (fun c2_ => ?_) (fun c2_ => ?_)
  ·
   refine bS [0, 0, 0] 5 0 [(6, .bool true)] ?_
   refine cont_done ?_
   refine then_normal ?_
   refine cont_ret ?_
   refine then_ret ?_
   refine ret_one (.inl rfl) rfl 0 (.bool true) (by kernel_rfl) (by kernel_rfl) (fun w hT => ?_)
   exact ⟨ret_bool (by simp [docK, *]), hT.post rfl⟩
  refine bS [0, 0, 0] 5 0 [(6, .bool q)] ?_
  refine cont_done ?_
  refine then_normal ?_
  refine cont_ret ?_
  refine then_ret ?_
  refine ret_one (.inl rfl) rfl 0 (.bool q) (by kernel_rfl) (by kernel_rfl) (fun w hT => ?_)
  exact ⟨ret_bool (by simp [docK, *]), hT.post rfl⟩
 replace c1_ := ne_of_beqf c1_
 refine cont_false rfl ?_
 refine cont_skip ?_
 refine then_normal ?_
 refine cont_seq ?_
 refine cont_seq ?_
 refine cont_region 2 rfl ?_
 refine bS [0, 0] 2 0 [(0, .bool p), (1, .bool q), (2, iq how), (14, .bool (how == 1))] ?_
 refine cont_done ?_
 refine then_normal ?_
 refine cont_split 14 (how == 1) rfl (fun c3_ => ?_) (fun c3_ => ?_)
 ·
  replace c3_ := eq_of_beqt c3_
  refine cont_true rfl ?_
  refine cont_seq ?_
  refine cont_region 5 rfl ?_
  refine bS [0, 0] 2 3 [(1, .bool q), (16, .bool p)] ?_
  refine cont_split 16 p rfl (fun c4_ => ?_) (fun c4_ => ?_)
  ·
   refine bS [0, 0, 0] 5 0 [(6, .bool q)] ?_
   refine cont_done ?_
   refine then_normal ?_
   refine cont_ret ?_
   refine then_ret ?_
   refine ret_one (.inl rfl) rfl 0 (.bool q) (by kernel_rfl) (by kernel_rfl) (fun w hT => ?_)
   exact ⟨ret_bool (by simp [docK, *]), hT.post rfl⟩
  refine bS [0, 0, 0] 5 0 [(6, .bool false)] ?_
  refine cont_done ?_
  refine then_normal ?_
  refine cont_ret ?_
  refine then_ret ?_
  refine ret_one (.inl rfl) rfl 0 (.bool false) (by kernel_rfl) (by kernel_rfl) (fun w hT => ?_)
  exact ⟨ret_bool (by simp [docK, *]), hT.post rfl⟩
 replace c3_ := ne_of_beqf c3_
 refine cont_false rfl ?_
 refine cont_skip ?_
 refine then_normal ?_
 refine cont_seq ?_
 refine cont_seq ?_
 refine cont_region 2 rfl ?_
 refine bS [0, 0] 2 0 [(0, .bool p), (1, .bool q), (20, .bool (how == 2))] ?_
 refine cont_done ?_
 refine then_normal ?_
 refine cont_split 20 (how == 2) rfl (fun c5_ => ?_) (fun c5_ => ?_)
 ·
  replace c5_ := eq_of_beqt c5_
  refine cont_true rfl ?_
  refine cont_seq ?_
  refine cont_region 6 rfl ?_
  refine bS [0, 0] 2 4 [(1, .bool q), (22, .bool p)] ?_
  refine cont_split 22 p rfl (fun c6_ => ?_) (fun c6_ => ?_)
  ·
   refine bS [0, 0, 0, 0] 6 0 [(6, .bool (!q))] ?_
   refine cont_done ?_
   refine then_normal ?_
   refine cont_ret ?_
   refine then_ret ?_
   refine ret_one (.inl rfl) rfl 0 (.bool (!q)) (by kernel_rfl) (by kernel_rfl) (fun w hT => ?_)
   exact ⟨ret_bool (by simp [docK, *]), hT.post rfl⟩
  refine bS [0, 0, 0, 0] 6 0 [(6, .bool false)] ?_
  refine cont_done ?_
  refine then_normal ?_
  refine cont_ret ?_
  refine then_ret ?_
  refine ret_one (.inl rfl) rfl 0 (.bool false) (by kernel_rfl) (by kernel_rfl) (fun w hT => ?_)
  exact ⟨ret_bool (by simp [docK, *]), hT.post rfl⟩
 replace c5_ := ne_of_beqf c5_
 refine cont_false rfl ?_
 refine cont_skip ?_
 refine then_normal ?_
 refine cont_seq ?_
 refine cont_region 4 rfl ?_
 refine bS [0, 0] 2 2 [(26, .bool p), (27, .bool q)] ?_
 refine cont_split 26 p rfl (fun c7_ => ?_) (fun c7_ => ?_)
 ·
  refine cont_split 27 q rfl (fun c8_ => ?_) (fun c8_ => ?_)
  ·
   refine bS [0, 0] 4 0 [(6, .bool false)] ?_
   refine cont_done ?_
   refine then_normal ?_
   refine cont_ret ?_
   refine ret_one (.inl rfl) rfl 0 (.bool false) (by kernel_rfl) (by kernel_rfl) (fun w hT => ?_)
   exact ⟨ret_bool (by simp [docK, *]), hT.post rfl⟩
  refine bS [0, 0] 4 0 [(6, .bool true)] ?_
  refine cont_done ?_
  refine then_normal ?_
  refine cont_ret ?_
  refine ret_one (.inl rfl) rfl 0 (.bool true) (by kernel_rfl) (by kernel_rfl) (fun w hT => ?_)
  exact ⟨ret_bool (by simp [docK, *]), hT.post rfl⟩
 refine cont_split 27 q rfl (fun c9_ => ?_) (fun c9_ => ?_)
 ·
  refine bS [0, 0] 4 0 [(6, .bool true)] ?_
  refine cont_done ?_
  refine then_normal ?_
  refine cont_ret ?_
  refine ret_one (.inl rfl) rfl 0 (.bool true) (by kernel_rfl) (by kernel_rfl) (fun w hT => ?_)
  exact ⟨ret_bool (by simp [docK, *]), hT.post rfl⟩
 refine bS [0, 0] 4 0 [(6, .bool false)] ?_
 refine cont_done ?_
 refine then_normal ?_
 refine cont_ret ?_
 refine ret_one (.inl rfl) rfl 0 (.bool false) (by kernel_rfl) (by kernel_rfl) (fun w hT => ?_)
 exact ⟨ret_bool (by simp [docK, *]), hT.post rfl⟩

theorem refSpans (A : Option Addr) (g o n cap : Nat) (xs : List Rect) (A' : Option Addr) (g' o' n' cap' : Nat) (xs' : List Rect) (w : World) (hT0 : Tab w w [.gen (rdE (A) g o n 4 (rvals xs)), .gen (rdE (A') g' o' n' 4 (rvals xs'))]) (hn : n ≤ 1000000000000) :
    Calls Try.prog 91 #[.slice A n cap, .slice A' n' cap'] w fun e w' => e = .returned (.bool (eqF span1 xs xs')) ∧ Below w.heap.size w w' := by
 obtain ⟨hra, hrl⟩ := Rd.factsR (hT0.ok 0 _ rfl)
 obtain ⟨hra', hrl'⟩ := Rd.factsR (hT0.ok 1 _ rfl)
 refine enter 41 [(0, .slice A n cap), (1, .slice A' n' cap')] [.gen (rdE (A) g o n 4 (rvals xs)), .gen (rdE (A') g' o' n' 4 (rvals xs'))] Try.func91 rfl Try.ntmps91 rfl (by kernel_rfl) hT0 ?_
 refine cont_seq ?_
 refine cont_region 1 rfl ?_
 refine bS [0] 1 0 [(0, .slice A n cap), (1, .slice A' n' cap')] ?_
 refine cont_done ?_
 refine then_normal ?_
 refine cont_seq ?_
 refine cont_seq ?_
 refine cont_region 5 rfl ?_
 refine bS [0, 0, 0, 0, 0] 5 0 [(0, .slice A n cap), (1, .slice A' n' cap'), (10, .bool ((n : Int) != ((n' : Nat) : Int)))] ?_
 refine cont_done ?_
 refine then_normal ?_
 refine cont_split 10 ((n : Int) != ((n' : Nat) : Int)) rfl (fun c1_ => ?_) (fun c1_ => ?_)
 ·
  replace c1_ := ne_of_bne c1_
  refine cont_true rfl ?_
  refine cont_seq ?_
  refine cont_region 1 rfl ?_
  refine bS [0] 1 0 [(4, .bool false)] ?_
  refine cont_done ?_
  refine then_normal ?_
  refine cont_ret ?_
  refine then_ret ?_
  refine ret_one (.inl rfl) rfl 0 (.bool false) (by kernel_rfl) (by kernel_rfl) (fun w hT => ?_)
  exact ⟨ret_bool (by first | exact (eqF_no (j := i) (by omega) (by omega) (by simp_all [span1])).symm | exact (eqF_len (by omega)).symm), hT.post rfl⟩
 replace c1_ := eq_of_bne_false c1_
 refine cont_false rfl ?_
 refine cont_skip ?_
 refine then_normal ?_
 refine cont_seq ?_
 refine cont_seq ?_
 refine cont_region 1 rfl ?_
 refine bS [0] 1 0 [(0, .slice A n cap), (1, .slice A' n' cap'), (5, iq 0)] ?_
 refine cont_done ?_
 refine then_normal ?_
 refine cont_block ?_
 refine cont_loop (α := Nat) (fun x_ : Nat => x_ ≤ n ∧ ∀ j, j < x_ → span1 (rget xs j) (rget xs' j) = true) (fun x_ : Nat => [(0, .slice A n cap), (1, .slice A' n' cap'), (5, iq (x_ : Int))]) (fun x_ : Nat => [.gen (rdE (A) g o n 4 (rvals xs)), .gen (rdE (A') g' o' n' 4 (rvals xs'))]) (fun x_ : Nat => n - x_) 0 (⟨by omega, fun j hj => by omega⟩) (by kernel_rfl) (by kernel_rfl) ?_
 rintro i hinv2_
 replace hinv2_ : i ≤ n ∧ ∀ j, j < i → span1 (rget xs j) (rget xs' j) = true := hinv2_
 refine cont_norm [(0, .slice A n cap), (1, .slice A' n' cap'), (5, iq (i : Int))] _ (by kernel_rfl) rfl ?_
 obtain ⟨hi, hns⟩ := hinv2_
 refine cont_seq ?_
 refine cont_seq ?_
 refine cont_region 4 rfl ?_
 refine bS [0, 0, 0, 0] 4 0 [(0, .slice A n cap), (1, .slice A' n' cap'), (5, iq (i : Int)), (14, .bool (decide ((i : Int) < (n : Int))))] ?_
 refine cont_done ?_
 refine then_normal ?_
 refine cont_split 14 (decide ((i : Int) < (n : Int))) rfl (fun c3_ => ?_) (fun c3_ => ?_)
 ·
  replace c3_ := of_decide_eq_true c3_
  refine cont_true rfl ?_
  refine cont_skip ?_
  refine then_normal ?_
  refine cont_seq ?_
  refine cont_block ?_
  refine cont_seq ?_
  refine drawn_enter 24 [] rfl (by kernel_rfl) ?_
  refine takes 0 [] [(0, 0), (1, 0), (5, 0), (6, 0)] 20 [6, 5, 1, 0] [(0, .slice A n cap), (1, .slice A' n' cap'), (5, iq (i : Int)), (17, .slice A n cap), (18, iq (i : Int)), (22, .slice A' n' cap'), (23, iq (i : Int))] (by kernel_rfl) (pok_then (pok_blk (pok_then (pok_then (pok_blk (pok_then pok_body)))))) (by kernel_rfl) rfl rfl (by kernel_rfl) (by kernel_rfl) ?_
  refine cont_recast 17 (.slice A n cap) (.slice (some ⟨g, o, none⟩) n cap) rfl (by rw [hra (by omega)]) ?_
  refine sem_take 0 [] 2 19 19 (Instr.indexAt 58 (.slice (some ⟨g, o, none⟩) n cap) (iq (i : Int))) (.pointer (some ⟨g, o + i * 4, none⟩)) (by kernel_rfl) (pok_then (pok_blk (pok_then (pok_then (pok_blk (pok_then pok_body)))))) (by kernel_rfl) rfl (by kernel_rfl) (by kernel_rfl) (fun w hT => run_indexAt (e := 53) (sz := 4) _ (by kernel_rfl) (by kernel_rfl) (by omega) (by omega) (by omega) w) ?_
  refine takes 0 [] [(3, 0)] 18 [3, 2, 6, 5, 1, 0] [(0, .slice A n cap), (1, .slice A' n' cap'), (5, iq (i : Int)), (20, .pointer (some ⟨g, o + i * 4, none⟩)), (22, .slice A' n' cap'), (23, iq (i : Int))] (by kernel_rfl) (pok_then (pok_blk (pok_then (pok_then (pok_blk (pok_then pok_body)))))) (by kernel_rfl) rfl rfl (by kernel_rfl) (by kernel_rfl) ?_
  refine sem_take 0 [] 4 17 21 (Instr.loadAt 3 (.pointer (some ⟨g, o + i * 4, none⟩))) (iq ((rget xs i).x0)) (by kernel_rfl) (pok_then (pok_blk (pok_then (pok_then (pok_blk (pok_then pok_body)))))) (by kernel_rfl) rfl (by kernel_rfl) (by kernel_rfl) (fun w hT => run_load1 (by kernel_rfl) (Rd.cellF (hT 0 _ rfl) i 0 _ (by omega) rfl)) ?_
  refine cont_recast 22 (.slice A' n' cap') (.slice (some ⟨g', o', none⟩) n' cap') rfl (by rw [hra' (by omega)]) ?_
  refine sem_take 0 [] 7 16 24 (Instr.indexAt 58 (.slice (some ⟨g', o', none⟩) n' cap') (iq (i : Int))) (.pointer (some ⟨g', o' + i * 4, none⟩)) (by kernel_rfl) (pok_then (pok_blk (pok_then (pok_then (pok_blk (pok_then pok_body)))))) (by kernel_rfl) rfl (by kernel_rfl) (by kernel_rfl) (fun w hT => run_indexAt (e := 53) (sz := 4) _ (by kernel_rfl) (by kernel_rfl) (by omega) (by omega) (by omega) w) ?_
  refine takes 0 [] [(8, 0)] 15 [8, 7, 4, 3, 2, 6, 5, 1, 0] [(0, .slice A n cap), (1, .slice A' n' cap'), (5, iq (i : Int)), (21, iq ((rget xs i).x0)), (25, .pointer (some ⟨g', o' + i * 4, none⟩))] (by kernel_rfl) (pok_then (pok_blk (pok_then (pok_then (pok_blk (pok_then pok_body)))))) (by kernel_rfl) rfl rfl (by kernel_rfl) (by kernel_rfl) ?_
  refine sem_take 0 [] 9 14 26 (Instr.loadAt 3 (.pointer (some ⟨g', o' + i * 4, none⟩))) (iq ((rget xs' i).x0)) (by kernel_rfl) (pok_then (pok_blk (pok_then (pok_then (pok_blk (pok_then pok_body)))))) (by kernel_rfl) rfl (by kernel_rfl) (by kernel_rfl) (fun w hT => run_load1 (by kernel_rfl) (Rd.cellF (hT 1 _ rfl) i 0 _ (by omega) rfl)) ?_
  refine takes 0 [] [(10, 0), (11, 0)] 12 [11, 10, 9, 8, 7, 4, 3, 2, 6, 5, 1, 0] [(0, .slice A n cap), (1, .slice A' n' cap'), (5, iq (i : Int)), (28, .bool (((rget xs i).x0) != ((rget xs' i).x0)))] (by kernel_rfl) (pok_then (pok_blk (pok_then (pok_then (pok_blk (pok_then pok_body)))))) (by kernel_rfl) rfl rfl (by kernel_rfl) (by kernel_rfl) ?_
  refine cont_split 28 (((rget xs i).x0) != ((rget xs' i).x0)) rfl (fun c4_ => ?_) (fun c4_ => ?_)
  ·
   replace c4_ := ne_of_bne c4_
   refine takes 0 [] [(12, 0), (13, 0), (17, 0), (18, 0), (14, 0), (19, 0), (15, 0), (20, 0), (16, 0), (21, 0), (22, 0), (23, 0)] 0 [23, 22, 21, 16, 20, 15, 19, 14, 18, 17, 13, 12, 11, 10, 9, 8, 7, 4, 3, 2, 6, 5, 1, 0] [(0, .slice A n cap), (1, .slice A' n' cap'), (5, iq (i : Int)), (29, undef), (30, undef), (31, undef), (32, undef), (33, undef), (34, undef), (35, undef), (36, undef), (37, undef), (38, undef), (39, undef), (40, .bool true)] (by kernel_rfl) (pok_then (pok_blk (pok_then (pok_then (pok_blk (pok_then pok_body)))))) (by kernel_rfl) rfl rfl (by kernel_rfl) (by kernel_rfl) ?_
   refine drawn_done (by kernel_rfl) ?_
   refine then_normal ?_
   refine cont_true rfl ?_
   refine cont_seq ?_
   refine cont_region 1 rfl ?_
   refine bS [0] 1 0 [(4, .bool false)] ?_
   refine cont_done ?_
   refine then_normal ?_
   refine cont_ret ?_
   refine blk_ret ?_
   refine then_ret ?_
   refine then_ret ?_
   refine blk_ret ?_
   refine then_ret ?_
   refine ret_one (.inl rfl) rfl 0 (.bool false) (by kernel_rfl) (by kernel_rfl) (fun w hT => ?_)
   exact ⟨ret_bool (by first | exact (eqF_no (j := i) (by omega) (by omega) (by simp_all [span1])).symm | exact (eqF_len (by omega)).symm), hT.post rfl⟩
  replace c4_ := eq_of_bne_false c4_
  refine takes 0 [] [(12, 0), (13, 0), (17, 0), (18, 0)] 8 [18, 17, 13, 12, 11, 10, 9, 8, 7, 4, 3, 2, 6, 5, 1, 0] [(0, .slice A n cap), (1, .slice A' n' cap'), (5, iq (i : Int)), (28, .bool false), (29, .slice A n cap), (30, iq (i : Int)), (34, .slice A' n' cap'), (35, iq (i : Int))] (by kernel_rfl) (pok_then (pok_blk (pok_then (pok_then (pok_blk (pok_then pok_body)))))) (by kernel_rfl) rfl rfl (by kernel_rfl) (by kernel_rfl) ?_
  refine cont_recast 29 (.slice A n cap) (.slice (some ⟨g, o, none⟩) n cap) rfl (by rw [hra (by omega)]) ?_
  refine sem_take 0 [] 14 7 31 (Instr.indexAt 58 (.slice (some ⟨g, o, none⟩) n cap) (iq (i : Int))) (.pointer (some ⟨g, o + i * 4, none⟩)) (by kernel_rfl) (pok_then (pok_blk (pok_then (pok_then (pok_blk (pok_then pok_body)))))) (by kernel_rfl) rfl (by kernel_rfl) (by kernel_rfl) (fun w hT => run_indexAt (e := 53) (sz := 4) _ (by kernel_rfl) (by kernel_rfl) (by omega) (by omega) (by omega) w) ?_
  refine takes 0 [] [(15, 0)] 6 [15, 14, 18, 17, 13, 12, 11, 10, 9, 8, 7, 4, 3, 2, 6, 5, 1, 0] [(0, .slice A n cap), (1, .slice A' n' cap'), (5, iq (i : Int)), (28, .bool false), (29, .slice (some ⟨g, o, none⟩) n cap), (30, iq (i : Int)), (31, .pointer (some ⟨g, o + i * 4, none⟩)), (32, .pointer (some ⟨g, o + i * 4 + 2, none⟩)), (34, .slice A' n' cap'), (35, iq (i : Int))] (by kernel_rfl) (pok_then (pok_blk (pok_then (pok_then (pok_blk (pok_then pok_body)))))) (by kernel_rfl) rfl rfl (by kernel_rfl) (by kernel_rfl) ?_
  refine sem_take 0 [] 16 5 33 (Instr.loadAt 3 (.pointer (some ⟨g, o + i * 4 + 2, none⟩))) (iq ((rget xs i).x1)) (by kernel_rfl) (pok_then (pok_blk (pok_then (pok_then (pok_blk (pok_then pok_body)))))) (by kernel_rfl) rfl (by kernel_rfl) (by kernel_rfl) (fun w hT => run_load1 (by kernel_rfl) (Rd.cellF (hT 0 _ rfl) i 2 _ (by omega) rfl)) ?_
  refine cont_recast 34 (.slice A' n' cap') (.slice (some ⟨g', o', none⟩) n' cap') rfl (by rw [hra' (by omega)]) ?_
  refine sem_take 0 [] 19 4 36 (Instr.indexAt 58 (.slice (some ⟨g', o', none⟩) n' cap') (iq (i : Int))) (.pointer (some ⟨g', o' + i * 4, none⟩)) (by kernel_rfl) (pok_then (pok_blk (pok_then (pok_then (pok_blk (pok_then pok_body)))))) (by kernel_rfl) rfl (by kernel_rfl) (by kernel_rfl) (fun w hT => run_indexAt (e := 53) (sz := 4) _ (by kernel_rfl) (by kernel_rfl) (by omega) (by omega) (by omega) w) ?_
  refine takes 0 [] [(20, 0)] 3 [20, 19, 16, 15, 14, 18, 17, 13, 12, 11, 10, 9, 8, 7, 4, 3, 2, 6, 5, 1, 0] [(0, .slice A n cap), (1, .slice A' n' cap'), (5, iq (i : Int)), (28, .bool false), (29, .slice (some ⟨g, o, none⟩) n cap), (30, iq (i : Int)), (31, .pointer (some ⟨g, o + i * 4, none⟩)), (32, .pointer (some ⟨g, o + i * 4 + 2, none⟩)), (33, iq ((rget xs i).x1)), (34, .slice (some ⟨g', o', none⟩) n' cap'), (35, iq (i : Int)), (36, .pointer (some ⟨g', o' + i * 4, none⟩)), (37, .pointer (some ⟨g', o' + i * 4 + 2, none⟩))] (by kernel_rfl) (pok_then (pok_blk (pok_then (pok_then (pok_blk (pok_then pok_body)))))) (by kernel_rfl) rfl rfl (by kernel_rfl) (by kernel_rfl) ?_
  refine sem_take 0 [] 21 2 38 (Instr.loadAt 3 (.pointer (some ⟨g', o' + i * 4 + 2, none⟩))) (iq ((rget xs' i).x1)) (by kernel_rfl) (pok_then (pok_blk (pok_then (pok_then (pok_blk (pok_then pok_body)))))) (by kernel_rfl) rfl (by kernel_rfl) (by kernel_rfl) (fun w hT => run_load1 (by kernel_rfl) (Rd.cellF (hT 1 _ rfl) i 2 _ (by omega) rfl)) ?_
  refine takes 0 [] [(22, 0), (23, 0)] 0 [23, 22, 21, 20, 19, 16, 15, 14, 18, 17, 13, 12, 11, 10, 9, 8, 7, 4, 3, 2, 6, 5, 1, 0] [(0, .slice A n cap), (1, .slice A' n' cap'), (5, iq (i : Int)), (29, .slice (some ⟨g, o, none⟩) n cap), (30, iq (i : Int)), (31, .pointer (some ⟨g, o + i * 4, none⟩)), (32, .pointer (some ⟨g, o + i * 4 + 2, none⟩)), (33, iq ((rget xs i).x1)), (34, .slice (some ⟨g', o', none⟩) n' cap'), (35, iq (i : Int)), (36, .pointer (some ⟨g', o' + i * 4, none⟩)), (37, .pointer (some ⟨g', o' + i * 4 + 2, none⟩)), (38, iq ((rget xs' i).x1)), (39, .bool (((rget xs i).x1) != ((rget xs' i).x1))), (40, .bool (((rget xs i).x1) != ((rget xs' i).x1)))] (by kernel_rfl) (pok_then (pok_blk (pok_then (pok_then (pok_blk (pok_then pok_body)))))) (by kernel_rfl) rfl rfl (by kernel_rfl) (by kernel_rfl) ?_
  refine drawn_done (by kernel_rfl) ?_
  refine then_normal ?_
  refine cont_split 40 (((rget xs i).x1) != ((rget xs' i).x1)) rfl (fun c5_ => ?_) (fun c5_ => ?_)
  ·
   refine cont_recast 39 (.bool (((rget xs i).x1) != ((rget xs' i).x1))) (.bool true) rfl (congrArg Value.bool c5_) ?_
   replace c5_ := ne_of_bne c5_
   refine cont_true rfl ?_
   refine cont_seq ?_
   refine cont_region 1 rfl ?_
   refine bS [0] 1 0 [(4, .bool false)] ?_
   refine cont_done ?_
   refine then_normal ?_
   refine cont_ret ?_
   refine blk_ret ?_
   refine then_ret ?_
   refine then_ret ?_
   refine blk_ret ?_
   refine then_ret ?_
   refine ret_one (.inl rfl) rfl 0 (.bool false) (by kernel_rfl) (by kernel_rfl) (fun w hT => ?_)
   exact ⟨ret_bool (by first | exact (eqF_no (j := i) (by omega) (by omega) (by simp_all [span1])).symm | exact (eqF_len (by omega)).symm), hT.post rfl⟩
  refine cont_recast 39 (.bool (((rget xs i).x1) != ((rget xs' i).x1))) (.bool false) rfl (congrArg Value.bool c5_) ?_
  replace c5_ := eq_of_bne_false c5_
  refine cont_false rfl ?_
  refine cont_skip ?_
  refine blk_normal ?_
  refine then_normal ?_
  refine cont_region 3 rfl ?_
  refine bS [0, 0] 2 1 [(0, .slice A n cap), (1, .slice A' n' cap'), (16, iq (IntKind.i64.wrap ((i : Int) + 1))), (29, .slice (some ⟨g, o, none⟩) n cap), (30, iq (i : Int)), (31, .pointer (some ⟨g, o + i * 4, none⟩)), (32, .pointer (some ⟨g, o + i * 4 + 2, none⟩)), (33, iq ((rget xs i).x1)), (34, .slice (some ⟨g', o', none⟩) n' cap'), (35, iq (i : Int)), (36, .pointer (some ⟨g', o' + i * 4, none⟩)), (37, .pointer (some ⟨g', o' + i * 4 + 2, none⟩)), (38, iq ((rget xs' i).x1)), (39, .bool false)] ?_
  refine cont_recast 16 (iq (IntKind.i64.wrap ((i : Int) + 1))) (iq ((i : Int) + 1)) rfl (wrapI (by omega) (by omega)) ?_
  refine bS [0] 3 0 [(0, .slice A n cap), (1, .slice A' n' cap'), (5, iq ((i : Int) + 1)), (29, .slice (some ⟨g, o, none⟩) n cap), (30, iq (i : Int)), (31, .pointer (some ⟨g, o + i * 4, none⟩)), (32, .pointer (some ⟨g, o + i * 4 + 2, none⟩)), (33, iq ((rget xs i).x1)), (34, .slice (some ⟨g', o', none⟩) n' cap'), (35, iq (i : Int)), (36, .pointer (some ⟨g', o' + i * 4, none⟩)), (37, .pointer (some ⟨g', o' + i * 4 + 2, none⟩)), (38, iq ((rget xs' i).x1)), (39, .bool false)] ?_
  refine cont_done ?_
  refine then_normal ?_
  refine cont_again (i + 1) (show (i + 1) ≤ n ∧ ∀ j, j < (i + 1) → span1 (rget xs j) (rget xs' j) = true from ⟨by omega, fun j hj => by rcases Nat.lt_succ_iff_lt_or_eq.1 hj with h_ | h_; exact hns j h_; subst h_; simp_all [span1]⟩) (show n - (i + 1) < n - i from by omega) (by kernel_rfl) (by kernel_rfl)
 replace c3_ := of_decide_eq_false c3_
 refine cont_false rfl ?_
 refine cont_exit ?_
 refine then_exit ?_
 refine then_exit ?_
 refine blk_exit ?_
 refine then_normal ?_
 refine cont_seq ?_
 refine cont_region 1 rfl ?_
 refine bS [0] 1 0 [(4, .bool true)] ?_
 refine cont_done ?_
 refine then_normal ?_
 refine cont_ret ?_
 refine ret_one (.inl rfl) rfl 0 (.bool true) (by kernel_rfl) (by kernel_rfl) (fun w hT => ?_)
 exact ⟨ret_bool (eqF_all (by omega) (fun j hj => hns j (by omega))).symm, hT.post rfl⟩

theorem refAdd (A : Option Addr) (g o n cap : Nat) (xs : List Int) (y : Int) (w : World) (hT0 : Tab w w [.gen (rdE (A) g o n 1 (ivals .i64 xs))]) (hrise : Rise xs) (hn : n ≤ 1000000000) :
    Calls Try.prog 89 #[.slice A n cap, .int .i64 y] w fun e w' => (e = .returned (.slice A n cap) ∧ y ∈ xs ∧ Below w.heap.size w w') ∨ (y ∉ xs ∧ ∃ (A_ : Option Addr) (g_ k_ cp_ : Nat), e = .returned (.slice A_ k_ cp_) ∧ Tab w w' [.gen (rowE (A_) g_ k_ cp_ 3 1 (ivals .i64 (addL' xs y)) true)]) := by
 obtain ⟨hra, hrl⟩ := Rd.facts (hT0.ok 0 _ rfl)
 refine enter 49 [(0, .slice A n cap), (1, iq y)] [.gen (rdE (A) g o n 1 (ivals .i64 xs))] Try.func89 rfl Try.ntmps89 rfl (by kernel_rfl) hT0 ?_
 refine cont_seq ?_
 refine cont_region 1 rfl ?_
 refine bS [0] 1 0 [(0, .slice A n cap), (1, iq y)] ?_
 refine cont_done ?_
 refine then_normal ?_
 refine cont_seq ?_
 refine cont_region 1 rfl ?_
 refine bS [0] 1 0 [(0, .slice A n cap), (1, iq y), (5, .slice none 0 0)] ?_
 refine cont_done ?_
 refine then_normal ?_
 refine cont_seq ?_
 refine cont_region 1 rfl ?_
 refine bS [0] 1 0 [(0, .slice A n cap), (1, iq y), (5, .slice none 0 0), (6, .bool false)] ?_
 refine cont_done ?_
 refine then_normal ?_
 refine cont_seq ?_
 refine cont_seq ?_
 refine cont_region 1 rfl ?_
 refine bS [0] 1 0 [(0, .slice A n cap), (1, iq y), (5, .slice none 0 0), (6, .bool false), (7, iq 0)] ?_
 refine cont_done ?_
 refine then_normal ?_
 refine cont_block ?_
 refine cont_nilrow 3 1 ?_
 refine cont_norm [(0, .slice A n cap), (1, iq y), (5, .slice none 0 0), (6, .bool false), (7, iq 0)] _ (by kernel_rfl) rfl ?_
 refine cont_rowEq (k := .i64) 0 ([]) (insP xs y 0) rfl ((insP_zero _ _).symm) ?_
 refine cont_loop (α := Nat × Nat × Option Addr × Nat × Nat × Bool) (fun x_ : Nat × Nat × Option Addr × Nat × Nat × Bool => x_.1 ≤ n ∧ x_.2.1 ≤ x_.1 + 1 ∧ (∀ j, j < x_.1 → xs.getD j 0 ≠ y) ∧ x_.2.2.2.2.2 = anyGt (xs.take x_.1) y ∧ (x_.2.2.2.2.2 = false → x_.2.1 ≤ x_.1)) (fun x_ : Nat × Nat × Option Addr × Nat × Nat × Bool => [(0, .slice A n cap), (1, iq y), (5, .slice x_.2.2.1 x_.2.1 x_.2.2.2.2.1), (6, .bool x_.2.2.2.2.2), (7, iq (x_.1 : Int))]) (fun x_ : Nat × Nat × Option Addr × Nat × Nat × Bool => [.gen (rowE (x_.2.2.1) x_.2.2.2.1 x_.2.1 x_.2.2.2.2.1 3 1 (ivals .i64 (insP xs y x_.1)) true), .gen (rdE (A) g o n 1 (ivals .i64 xs))]) (fun x_ : Nat × Nat × Option Addr × Nat × Nat × Bool => n - x_.1) (0, 0, none, 0, 0, false) (show (0) ≤ n ∧ (0) ≤ (0) + 1 ∧ (∀ j, j < (0) → xs.getD j 0 ≠ y) ∧ (false) = anyGt (xs.take (0)) y ∧ ((false) = false → (0) ≤ (0)) from ⟨by omega, by omega, fun j hj => by omega, (anyGt_zero _ _).symm, fun _ => by omega⟩) (by kernel_rfl) (by kernel_rfl) ?_
 rintro ⟨i, kq, Aq, gq, cq, dn⟩ hinv2_
 replace hinv2_ : i ≤ n ∧ kq ≤ i + 1 ∧ (∀ j, j < i → xs.getD j 0 ≠ y) ∧ dn = anyGt (xs.take i) y ∧ (dn = false → kq ≤ i) := hinv2_
 refine cont_norm [(0, .slice A n cap), (1, iq y), (5, .slice Aq kq cq), (6, .bool dn), (7, iq (i : Int))] _ (by kernel_rfl) rfl ?_
 obtain ⟨hi, hkq, hne, hdn, hkd⟩ := hinv2_
 refine cont_seq ?_
 refine cont_seq ?_
 refine cont_region 4 rfl ?_
 refine bS [0, 0, 0, 0] 4 0 [(0, .slice A n cap), (1, iq y), (5, .slice Aq kq cq), (6, .bool dn), (7, iq (i : Int)), (11, .bool (decide ((i : Int) < (n : Int))))] ?_
 refine cont_done ?_
 refine then_normal ?_
 refine cont_split 11 (decide ((i : Int) < (n : Int))) rfl (fun c3_ => ?_) (fun c3_ => ?_)
 ·
  replace c3_ := of_decide_eq_true c3_
  refine cont_true rfl ?_
  refine cont_skip ?_
  refine then_normal ?_
  refine cont_seq ?_
  refine cont_block ?_
  refine cont_seq ?_
  refine cont_seq ?_
  refine cont_region 6 rfl ?_
  refine bS [0, 0] 2 4 [(0, .slice A n cap), (1, iq y), (5, .slice Aq kq cq), (6, .bool dn), (7, iq (i : Int)), (14, .slice A n cap), (15, iq (i : Int))] ?_
  refine pl_step 3 3 rfl rfl ?_
  refine cont_recast 14 (.slice A n cap) (.slice (some ⟨g, o, none⟩) n cap) rfl (by rw [hra (by omega)]) ?_
  refine sem_step 16 (Instr.indexAt 34 (.slice (some ⟨g, o, none⟩) n cap) (iq (i : Int))) (.pointer (some ⟨g, o + i, none⟩)) (by kernel_rfl) (fun w hT => run_indexAt (e := 3) (sz := 1) _ (by kernel_rfl) (by kernel_rfl) (by omega) (by omega) (by omega) w) ?_
  refine pl_step 4 2 rfl rfl ?_
  refine sem_step 17 (Instr.loadAt 3 (.pointer (some ⟨g, o + i, none⟩))) (iq (xs.getD i 0)) (by kernel_rfl) (fun w hT => run_load1 (by kernel_rfl) (Rd.cell (hT.ok 1 _ rfl) (i) _ (ivals_get (by omega)))) ?_
  refine bS [0, 0] 6 0 [(0, .slice A n cap), (1, iq y), (5, .slice Aq kq cq), (6, .bool dn), (7, iq (i : Int)), (19, .bool ((xs.getD i 0) == y))] ?_
  refine cont_done ?_
  refine then_normal ?_
  refine cont_split 19 ((xs.getD i 0) == y) rfl (fun c4_ => ?_) (fun c4_ => ?_)
  ·
   replace c4_ := eq_of_beqt c4_
   refine cont_true rfl ?_
   refine cont_seq ?_
   refine cont_region 2 rfl ?_
   refine bS [0, 0] 2 0 [(4, .slice A n cap)] ?_
   refine cont_done ?_
   refine then_normal ?_
   refine cont_ret ?_
   refine then_ret ?_
   refine blk_ret ?_
   refine then_ret ?_
   refine then_ret ?_
   refine blk_ret ?_
   refine then_ret ?_
   refine ret_one (.inl rfl) rfl 0 (.slice A n cap) (by kernel_rfl) (by kernel_rfl) (fun w hT => ?_)
   exact .inl ⟨by rw [hra (by omega)], by rw [← show xs.getD i 0 = y by assumption]; exact getD_mem (by omega), hT.post rfl⟩
  replace c4_ := ne_of_beqf c4_
  refine cont_false rfl ?_
  refine cont_skip ?_
  refine then_normal ?_
  refine cont_seq ?_
  refine cont_seq ?_
  refine cont_region 10 rfl ?_
  refine bS [0, 0, 0] 3 7 [(0, .slice A n cap), (1, iq y), (5, .slice Aq kq cq), (6, .bool dn), (7, iq (i : Int)), (23, .bool (!dn))] ?_
  refine cont_split 23 (!dn) rfl (fun c5_ => ?_) (fun c5_ => ?_)
  ·
   replace c5_ : dn = false := by simpa using c5_
   have hdf_ : dn = false := c5_
   have hkq2 := hkd hdf_
   refine bS [0, 0] 5 5 [(0, .slice A n cap), (1, iq y), (5, .slice Aq kq cq), (6, .bool dn), (7, iq (i : Int)), (23, .bool true), (24, .slice A n cap), (25, iq (i : Int))] ?_
   refine pl_step 6 4 rfl rfl ?_
   refine cont_recast 24 (.slice A n cap) (.slice (some ⟨g, o, none⟩) n cap) rfl (by rw [hra (by omega)]) ?_
   refine sem_step 26 (Instr.indexAt 34 (.slice (some ⟨g, o, none⟩) n cap) (iq (i : Int))) (.pointer (some ⟨g, o + i, none⟩)) (by kernel_rfl) (fun w hT => run_indexAt (e := 3) (sz := 1) _ (by kernel_rfl) (by kernel_rfl) (by omega) (by omega) (by omega) w) ?_
   refine pl_step 7 3 rfl rfl ?_
   refine sem_step 27 (Instr.loadAt 3 (.pointer (some ⟨g, o + i, none⟩))) (iq (xs.getD i 0)) (by kernel_rfl) (fun w hT => run_load1 (by kernel_rfl) (Rd.cell (hT.ok 1 _ rfl) (i) _ (ivals_get (by omega)))) ?_
   refine bS [0, 0, 0] 10 0 [(0, .slice A n cap), (1, iq y), (5, .slice Aq kq cq), (6, .bool dn), (7, iq (i : Int)), (24, .slice (some ⟨g, o, none⟩) n cap), (25, iq (i : Int)), (26, .pointer (some ⟨g, o + i, none⟩)), (27, iq (xs.getD i 0)), (28, iq y), (29, .bool (decide ((xs.getD i 0) > y))), (30, .bool (decide ((xs.getD i 0) > y)))] ?_
   refine cont_done ?_
   refine then_normal ?_
   refine cont_split 30 (decide ((xs.getD i 0) > y)) rfl (fun c6_ => ?_) (fun c6_ => ?_)
   ·
    refine cont_recast 29 (.bool (decide ((xs.getD i 0) > y))) (.bool true) rfl (congrArg Value.bool c6_) ?_
    replace c6_ := of_decide_eq_true c6_
    refine cont_true rfl ?_
    refine cont_seq ?_
    refine cont_region 5 rfl ?_
    refine batch1 [0, 0, 0] 3 2 (fun b7 => [(0, .slice A n cap), (1, iq y), (7, iq (i : Int)), (24, .slice (some ⟨g, o, none⟩) n cap), (25, iq (i : Int)), (26, .pointer (some ⟨g, o + i, none⟩)), (27, iq (xs.getD i 0)), (28, iq y), (29, .bool true), (31, .slice Aq kq cq), (33, .slice (pB b7) 1 1)]) (fun b7 => [.cells b7 [iq y] 3 true, .gen (rowE (Aq) gq kq cq 3 1 (ivals .i64 (insP xs y i)) true), .gen (rdE (A) g o n 1 (ivals .i64 xs))]) rfl rfl [0, 1, 7, 24, 25, 26, 27, 28, 29, 31, 33] (fun _ => rfl) (fun b7 => by kernel_rfl) (fun b7 => by kernel_rfl) (fun b7 => ?_)
    refine pl_step 4 1 rfl rfl ?_
    refine sem_stepW (α := Option Addr × Nat × Nat) 34 (Builtin.append_ #[34, 34] 34 #[.slice Aq kq cq, .slice (pB b7) 1 1]) (fun x_ => .slice x_.1 (kq + 1) x_.2.2) (fun x_ => [.cells b7 [iq y] 3 true, .gen (rowE (x_.1) x_.2.1 (kq + 1) x_.2.2 3 1 (ivals .i64 ((insP xs y i) ++ [y])) true), .gen (rdE (A) g o n 1 (ivals .i64 xs))]) (fun _ => True) (by kernel_rfl) (fun w hT => append_own (n' := (kq + 1)) (z := iq 0) hT (i := 1) (bytes := 8) rfl (by kernel_rfl) (by kernel_rfl) rfl (by decide) (by decide) (Rd.ofCells (vals := ivals .i64 [y]) (hT.ok 0 _ rfl) rfl rfl) (ivals_one .i64 [y]) (by omega) (ivals_append .i64 (insP xs y i) [y]) rfl) ?_
    rintro ⟨A8, g8, cp8⟩ -
    refine cont_norm [(0, .slice A n cap), (1, iq y), (7, iq (i : Int)), (24, .slice (some ⟨g, o, none⟩) n cap), (25, iq (i : Int)), (26, .pointer (some ⟨g, o + i, none⟩)), (27, iq (xs.getD i 0)), (28, iq y), (29, .bool true), (31, .slice Aq kq cq), (33, .slice (pB b7) 1 1), (34, .slice A8 (kq + 1) cp8)] _ (by kernel_rfl) rfl ?_
    refine cont_fact (F := (0 < (kq + 1) → (A8 : Option Addr) = pB g8) ∧ ((insP xs y i) ++ [y]).length = (kq + 1) ∧ (kq + 1) ≤ cp8 ∧ cp8 ≤ maxLen) (fun w hT => Row.facts (hT.ok 1 _ rfl)) (fun hr9_ => ?_)
    obtain ⟨hr9_a, hr9_l, hr9_c, hr9_m⟩ := hr9_
    unfold maxLen at hr9_m
    refine bS [0] 5 0 [(0, .slice A n cap), (1, iq y), (5, .slice A8 (kq + 1) cp8), (7, iq (i : Int)), (24, .slice (some ⟨g, o, none⟩) n cap), (25, iq (i : Int)), (26, .pointer (some ⟨g, o + i, none⟩)), (27, iq (xs.getD i 0)), (28, iq y), (29, .bool true)] ?_
    refine cont_forget 0 rfl ?_
    refine cont_done ?_
    refine then_normal ?_
    refine cont_region 1 rfl ?_
    refine bS [0] 1 0 [(0, .slice A n cap), (1, iq y), (5, .slice A8 (kq + 1) cp8), (6, .bool true), (7, iq (i : Int)), (24, .slice (some ⟨g, o, none⟩) n cap), (25, iq (i : Int)), (26, .pointer (some ⟨g, o + i, none⟩)), (27, iq (xs.getD i 0)), (28, iq y), (29, .bool true)] ?_
    refine cont_done ?_
    refine then_normal ?_
    refine cont_region 8 rfl ?_
    refine bS [0, 0, 0] 3 5 [(0, .slice A n cap), (1, iq y), (6, .bool true), (7, iq (i : Int)), (24, .slice (some ⟨g, o, none⟩) n cap), (25, iq (i : Int)), (26, .pointer (some ⟨g, o + i, none⟩)), (27, iq (xs.getD i 0)), (28, iq y), (29, .bool true), (35, .slice A8 (kq + 1) cp8), (36, .slice A n cap), (37, iq (i : Int))] ?_
    refine pl_step 4 4 rfl rfl ?_
    refine cont_recast 36 (.slice A n cap) (.slice (some ⟨g, o, none⟩) n cap) rfl (by rw [hra (by omega)]) ?_
    refine sem_step 38 (Instr.indexAt 34 (.slice (some ⟨g, o, none⟩) n cap) (iq (i : Int))) (.pointer (some ⟨g, o + i, none⟩)) (by kernel_rfl) (fun w hT => run_indexAt (e := 3) (sz := 1) _ (by kernel_rfl) (by kernel_rfl) (by omega) (by omega) (by omega) w) ?_
    refine pl_step 5 3 rfl rfl ?_
    refine sem_step 39 (Instr.loadAt 3 (.pointer (some ⟨g, o + i, none⟩))) (iq (xs.getD i 0)) (by kernel_rfl) (fun w hT => run_load1 (by kernel_rfl) (Rd.cell (hT.ok 1 _ rfl) (i) _ (ivals_get (by omega)))) ?_
    refine batch1 [0] 6 2 (fun b10 => [(0, .slice A n cap), (1, iq y), (6, .bool true), (7, iq (i : Int)), (24, .slice (some ⟨g, o, none⟩) n cap), (25, iq (i : Int)), (26, .pointer (some ⟨g, o + i, none⟩)), (27, iq (xs.getD i 0)), (28, iq y), (29, .bool true), (35, .slice A8 (kq + 1) cp8), (40, .slice (pB b10) 1 1)]) (fun b10 => [.cells b10 [iq (xs.getD i 0)] 3 true, .gen (rowE (A8) g8 (kq + 1) cp8 3 1 (ivals .i64 ((insP xs y i) ++ [y])) true), .gen (rdE (A) g o n 1 (ivals .i64 xs))]) rfl rfl [0, 1, 6, 7, 24, 25, 26, 27, 28, 29, 35, 40] (fun _ => rfl) (fun b10 => by kernel_rfl) (fun b10 => by kernel_rfl) (fun b10 => ?_)
    refine pl_step 7 1 rfl rfl ?_
    refine sem_stepW (α := Option Addr × Nat × Nat) 41 (Builtin.append_ #[34, 34] 34 #[.slice A8 (kq + 1) cp8, .slice (pB b10) 1 1]) (fun x_ => .slice x_.1 ((kq + 1) + 1) x_.2.2) (fun x_ => [.cells b10 [iq (xs.getD i 0)] 3 true, .gen (rowE (x_.1) x_.2.1 ((kq + 1) + 1) x_.2.2 3 1 (ivals .i64 (((insP xs y i) ++ [y]) ++ [xs.getD i 0])) true), .gen (rdE (A) g o n 1 (ivals .i64 xs))]) (fun _ => True) (by kernel_rfl) (fun w hT => append_own (n' := ((kq + 1) + 1)) (z := iq 0) hT (i := 1) (bytes := 8) rfl (by kernel_rfl) (by kernel_rfl) rfl (by decide) (by decide) (Rd.ofCells (vals := ivals .i64 [xs.getD i 0]) (hT.ok 0 _ rfl) rfl rfl) (ivals_one .i64 [xs.getD i 0]) (by omega) (ivals_append .i64 ((insP xs y i) ++ [y]) [xs.getD i 0]) rfl) ?_
    rintro ⟨A11, g11, cp11⟩ -
    refine cont_norm [(0, .slice A n cap), (1, iq y), (6, .bool true), (7, iq (i : Int)), (24, .slice (some ⟨g, o, none⟩) n cap), (25, iq (i : Int)), (26, .pointer (some ⟨g, o + i, none⟩)), (27, iq (xs.getD i 0)), (28, iq y), (29, .bool true), (35, .slice A8 (kq + 1) cp8), (40, .slice (pB b10) 1 1), (41, .slice A11 ((kq + 1) + 1) cp11)] _ (by kernel_rfl) rfl ?_
    refine cont_fact (F := (0 < ((kq + 1) + 1) → (A11 : Option Addr) = pB g11) ∧ (((insP xs y i) ++ [y]) ++ [xs.getD i 0]).length = ((kq + 1) + 1) ∧ ((kq + 1) + 1) ≤ cp11 ∧ cp11 ≤ maxLen) (fun w hT => Row.facts (hT.ok 1 _ rfl)) (fun hr12_ => ?_)
    obtain ⟨hr12_a, hr12_l, hr12_c, hr12_m⟩ := hr12_
    unfold maxLen at hr12_m
    refine bS [0] 8 0 [(0, .slice A n cap), (1, iq y), (5, .slice A11 ((kq + 1) + 1) cp11), (6, .bool true), (7, iq (i : Int)), (24, .slice (some ⟨g, o, none⟩) n cap), (25, iq (i : Int)), (26, .pointer (some ⟨g, o + i, none⟩)), (27, iq (xs.getD i 0)), (28, iq y), (29, .bool true)] ?_
    refine cont_forget 0 rfl ?_
    refine cont_done ?_
    refine blk_normal ?_
    refine then_normal ?_
    refine cont_region 3 rfl ?_
    refine bS [0, 0] 2 1 [(0, .slice A n cap), (1, iq y), (5, .slice A11 ((kq + 1) + 1) cp11), (6, .bool true), (13, iq (IntKind.i64.wrap ((i : Int) + 1))), (24, .slice (some ⟨g, o, none⟩) n cap), (25, iq (i : Int)), (26, .pointer (some ⟨g, o + i, none⟩)), (27, iq (xs.getD i 0)), (28, iq y), (29, .bool true)] ?_
    refine cont_recast 13 (iq (IntKind.i64.wrap ((i : Int) + 1))) (iq ((i : Int) + 1)) rfl (wrapI (by omega) (by omega)) ?_
    refine bS [0] 3 0 [(0, .slice A n cap), (1, iq y), (5, .slice A11 ((kq + 1) + 1) cp11), (6, .bool true), (7, iq ((i : Int) + 1)), (24, .slice (some ⟨g, o, none⟩) n cap), (25, iq (i : Int)), (26, .pointer (some ⟨g, o + i, none⟩)), (27, iq (xs.getD i 0)), (28, iq y), (29, .bool true)] ?_
    refine cont_done ?_
    refine then_normal ?_
    refine cont_rowEq (k := .i64) 0 (((insP xs y i) ++ [y]) ++ [xs.getD i 0]) (insP xs y (i + 1)) rfl (insP_gt (by omega) (hdn ▸ hdf_) (by omega) hne) ?_
    refine cont_again (i + 1, ((kq + 1) + 1), A11, g11, cp11, true) (show (i + 1) ≤ n ∧ (((kq + 1) + 1)) ≤ (i + 1) + 1 ∧ (∀ j, j < (i + 1) → xs.getD j 0 ≠ y) ∧ (true) = anyGt (xs.take (i + 1)) y ∧ ((true) = false → (((kq + 1) + 1)) ≤ (i + 1)) from ⟨by omega, by omega, fun j hj => by rcases Nat.lt_succ_iff_lt_or_eq.1 hj with h_ | h_; exact hne j h_; subst h_; assumption, by rw [anyGt_succ (by omega), decide_eq_true (by omega)]; simp, fun h_ => by first | exact absurd h_ (by decide) | (rw [hdt_] at h_; cases h_) | (have := hkd hdf_; omega)⟩) (show n - (i + 1) < n - i from by omega) (by kernel_rfl) (by kernel_rfl)
   refine cont_recast 29 (.bool (decide ((xs.getD i 0) > y))) (.bool false) rfl (congrArg Value.bool c6_) ?_
   replace c6_ := of_decide_eq_false c6_
   refine cont_false rfl ?_
   refine cont_skip ?_
   refine then_normal ?_
   refine cont_region 8 rfl ?_
   refine bS [0, 0, 0] 3 5 [(0, .slice A n cap), (1, iq y), (6, .bool dn), (7, iq (i : Int)), (24, .slice (some ⟨g, o, none⟩) n cap), (25, iq (i : Int)), (26, .pointer (some ⟨g, o + i, none⟩)), (27, iq (xs.getD i 0)), (28, iq y), (29, .bool false), (35, .slice Aq kq cq), (36, .slice A n cap), (37, iq (i : Int))] ?_
   refine pl_step 4 4 rfl rfl ?_
   refine cont_recast 36 (.slice A n cap) (.slice (some ⟨g, o, none⟩) n cap) rfl (by rw [hra (by omega)]) ?_
   refine sem_step 38 (Instr.indexAt 34 (.slice (some ⟨g, o, none⟩) n cap) (iq (i : Int))) (.pointer (some ⟨g, o + i, none⟩)) (by kernel_rfl) (fun w hT => run_indexAt (e := 3) (sz := 1) _ (by kernel_rfl) (by kernel_rfl) (by omega) (by omega) (by omega) w) ?_
   refine pl_step 5 3 rfl rfl ?_
   refine sem_step 39 (Instr.loadAt 3 (.pointer (some ⟨g, o + i, none⟩))) (iq (xs.getD i 0)) (by kernel_rfl) (fun w hT => run_load1 (by kernel_rfl) (Rd.cell (hT.ok 1 _ rfl) (i) _ (ivals_get (by omega)))) ?_
   refine batch1 [0] 6 2 (fun b13 => [(0, .slice A n cap), (1, iq y), (6, .bool dn), (7, iq (i : Int)), (24, .slice (some ⟨g, o, none⟩) n cap), (25, iq (i : Int)), (26, .pointer (some ⟨g, o + i, none⟩)), (27, iq (xs.getD i 0)), (28, iq y), (29, .bool false), (35, .slice Aq kq cq), (40, .slice (pB b13) 1 1)]) (fun b13 => [.cells b13 [iq (xs.getD i 0)] 3 true, .gen (rowE (Aq) gq kq cq 3 1 (ivals .i64 (insP xs y i)) true), .gen (rdE (A) g o n 1 (ivals .i64 xs))]) rfl rfl [0, 1, 6, 7, 24, 25, 26, 27, 28, 29, 35, 40] (fun _ => rfl) (fun b13 => by kernel_rfl) (fun b13 => by kernel_rfl) (fun b13 => ?_)
   refine pl_step 7 1 rfl rfl ?_
   refine sem_stepW (α := Option Addr × Nat × Nat) 41 (Builtin.append_ #[34, 34] 34 #[.slice Aq kq cq, .slice (pB b13) 1 1]) (fun x_ => .slice x_.1 (kq + 1) x_.2.2) (fun x_ => [.cells b13 [iq (xs.getD i 0)] 3 true, .gen (rowE (x_.1) x_.2.1 (kq + 1) x_.2.2 3 1 (ivals .i64 ((insP xs y i) ++ [xs.getD i 0])) true), .gen (rdE (A) g o n 1 (ivals .i64 xs))]) (fun _ => True) (by kernel_rfl) (fun w hT => append_own (n' := (kq + 1)) (z := iq 0) hT (i := 1) (bytes := 8) rfl (by kernel_rfl) (by kernel_rfl) rfl (by decide) (by decide) (Rd.ofCells (vals := ivals .i64 [xs.getD i 0]) (hT.ok 0 _ rfl) rfl rfl) (ivals_one .i64 [xs.getD i 0]) (by omega) (ivals_append .i64 (insP xs y i) [xs.getD i 0]) rfl) ?_
   rintro ⟨A14, g14, cp14⟩ -
   refine cont_norm [(0, .slice A n cap), (1, iq y), (6, .bool dn), (7, iq (i : Int)), (24, .slice (some ⟨g, o, none⟩) n cap), (25, iq (i : Int)), (26, .pointer (some ⟨g, o + i, none⟩)), (27, iq (xs.getD i 0)), (28, iq y), (29, .bool false), (35, .slice Aq kq cq), (40, .slice (pB b13) 1 1), (41, .slice A14 (kq + 1) cp14)] _ (by kernel_rfl) rfl ?_
   refine cont_fact (F := (0 < (kq + 1) → (A14 : Option Addr) = pB g14) ∧ ((insP xs y i) ++ [xs.getD i 0]).length = (kq + 1) ∧ (kq + 1) ≤ cp14 ∧ cp14 ≤ maxLen) (fun w hT => Row.facts (hT.ok 1 _ rfl)) (fun hr15_ => ?_)
   obtain ⟨hr15_a, hr15_l, hr15_c, hr15_m⟩ := hr15_
   unfold maxLen at hr15_m
   refine bS [0] 8 0 [(0, .slice A n cap), (1, iq y), (5, .slice A14 (kq + 1) cp14), (6, .bool dn), (7, iq (i : Int)), (24, .slice (some ⟨g, o, none⟩) n cap), (25, iq (i : Int)), (26, .pointer (some ⟨g, o + i, none⟩)), (27, iq (xs.getD i 0)), (28, iq y), (29, .bool false)] ?_
   refine cont_forget 0 rfl ?_
   refine cont_done ?_
   refine blk_normal ?_
   refine then_normal ?_
   refine cont_region 3 rfl ?_
   refine bS [0, 0] 2 1 [(0, .slice A n cap), (1, iq y), (5, .slice A14 (kq + 1) cp14), (6, .bool dn), (13, iq (IntKind.i64.wrap ((i : Int) + 1))), (24, .slice (some ⟨g, o, none⟩) n cap), (25, iq (i : Int)), (26, .pointer (some ⟨g, o + i, none⟩)), (27, iq (xs.getD i 0)), (28, iq y), (29, .bool false)] ?_
   refine cont_recast 13 (iq (IntKind.i64.wrap ((i : Int) + 1))) (iq ((i : Int) + 1)) rfl (wrapI (by omega) (by omega)) ?_
   refine bS [0] 3 0 [(0, .slice A n cap), (1, iq y), (5, .slice A14 (kq + 1) cp14), (6, .bool dn), (7, iq ((i : Int) + 1)), (24, .slice (some ⟨g, o, none⟩) n cap), (25, iq (i : Int)), (26, .pointer (some ⟨g, o + i, none⟩)), (27, iq (xs.getD i 0)), (28, iq y), (29, .bool false)] ?_
   refine cont_done ?_
   refine then_normal ?_
   have hst_ : insP xs y i ++ [xs.getD i 0] = insP xs y (i + 1) ∧ anyGt (xs.take (i + 1)) y = dn := by
     rw [hdf_]; exact insP_low (by omega) (hdn.symm.trans hdf_) (by omega)
   refine cont_rowEq (k := .i64) 0 ((insP xs y i) ++ [xs.getD i 0]) (insP xs y (i + 1)) rfl hst_.1 ?_
   refine cont_again (i + 1, (kq + 1), A14, g14, cp14, dn) (show (i + 1) ≤ n ∧ ((kq + 1)) ≤ (i + 1) + 1 ∧ (∀ j, j < (i + 1) → xs.getD j 0 ≠ y) ∧ (dn) = anyGt (xs.take (i + 1)) y ∧ ((dn) = false → ((kq + 1)) ≤ (i + 1)) from ⟨by omega, by omega, fun j hj => by rcases Nat.lt_succ_iff_lt_or_eq.1 hj with h_ | h_; exact hne j h_; subst h_; assumption, by rw [hst_.2, hdf_], fun h_ => by first | exact absurd h_ (by decide) | (rw [hdt_] at h_; cases h_) | (have := hkd hdf_; omega)⟩) (show n - (i + 1) < n - i from by omega) (by kernel_rfl) (by kernel_rfl)
  replace c5_ : dn = true := by simpa using c5_
  have hdt_ : dn = true := c5_
  refine bS [0, 0, 0, 0, 0, 0, 0] 10 0 [(0, .slice A n cap), (1, iq y), (5, .slice Aq kq cq), (6, .bool dn), (7, iq (i : Int)), (24, undef), (25, undef), (26, undef), (27, undef), (28, undef), (29, undef), (30, .bool false)] ?_
  refine cont_done ?_
  refine then_normal ?_
  refine cont_false rfl ?_
  refine cont_skip ?_
  refine then_normal ?_
  refine cont_region 8 rfl ?_
  refine bS [0, 0, 0] 3 5 [(0, .slice A n cap), (1, iq y), (6, .bool dn), (7, iq (i : Int)), (24, undef), (25, undef), (26, undef), (27, undef), (28, undef), (29, undef), (35, .slice Aq kq cq), (36, .slice A n cap), (37, iq (i : Int))] ?_
  refine pl_step 4 4 rfl rfl ?_
  refine cont_recast 36 (.slice A n cap) (.slice (some ⟨g, o, none⟩) n cap) rfl (by rw [hra (by omega)]) ?_
  refine sem_step 38 (Instr.indexAt 34 (.slice (some ⟨g, o, none⟩) n cap) (iq (i : Int))) (.pointer (some ⟨g, o + i, none⟩)) (by kernel_rfl) (fun w hT => run_indexAt (e := 3) (sz := 1) _ (by kernel_rfl) (by kernel_rfl) (by omega) (by omega) (by omega) w) ?_
  refine pl_step 5 3 rfl rfl ?_
  refine sem_step 39 (Instr.loadAt 3 (.pointer (some ⟨g, o + i, none⟩))) (iq (xs.getD i 0)) (by kernel_rfl) (fun w hT => run_load1 (by kernel_rfl) (Rd.cell (hT.ok 1 _ rfl) (i) _ (ivals_get (by omega)))) ?_
  refine batch1 [0] 6 2 (fun b16 => [(0, .slice A n cap), (1, iq y), (6, .bool dn), (7, iq (i : Int)), (24, undef), (25, undef), (26, undef), (27, undef), (28, undef), (29, undef), (35, .slice Aq kq cq), (40, .slice (pB b16) 1 1)]) (fun b16 => [.cells b16 [iq (xs.getD i 0)] 3 true, .gen (rowE (Aq) gq kq cq 3 1 (ivals .i64 (insP xs y i)) true), .gen (rdE (A) g o n 1 (ivals .i64 xs))]) rfl rfl [0, 1, 6, 7, 24, 25, 26, 27, 28, 29, 35, 40] (fun _ => rfl) (fun b16 => by kernel_rfl) (fun b16 => by kernel_rfl) (fun b16 => ?_)
  refine pl_step 7 1 rfl rfl ?_
  refine sem_stepW (α := Option Addr × Nat × Nat) 41 (Builtin.append_ #[34, 34] 34 #[.slice Aq kq cq, .slice (pB b16) 1 1]) (fun x_ => .slice x_.1 (kq + 1) x_.2.2) (fun x_ => [.cells b16 [iq (xs.getD i 0)] 3 true, .gen (rowE (x_.1) x_.2.1 (kq + 1) x_.2.2 3 1 (ivals .i64 ((insP xs y i) ++ [xs.getD i 0])) true), .gen (rdE (A) g o n 1 (ivals .i64 xs))]) (fun _ => True) (by kernel_rfl) (fun w hT => append_own (n' := (kq + 1)) (z := iq 0) hT (i := 1) (bytes := 8) rfl (by kernel_rfl) (by kernel_rfl) rfl (by decide) (by decide) (Rd.ofCells (vals := ivals .i64 [xs.getD i 0]) (hT.ok 0 _ rfl) rfl rfl) (ivals_one .i64 [xs.getD i 0]) (by omega) (ivals_append .i64 (insP xs y i) [xs.getD i 0]) rfl) ?_
  rintro ⟨A17, g17, cp17⟩ -
  refine cont_norm [(0, .slice A n cap), (1, iq y), (6, .bool dn), (7, iq (i : Int)), (24, undef), (25, undef), (26, undef), (27, undef), (28, undef), (29, undef), (35, .slice Aq kq cq), (40, .slice (pB b16) 1 1), (41, .slice A17 (kq + 1) cp17)] _ (by kernel_rfl) rfl ?_
  refine cont_fact (F := (0 < (kq + 1) → (A17 : Option Addr) = pB g17) ∧ ((insP xs y i) ++ [xs.getD i 0]).length = (kq + 1) ∧ (kq + 1) ≤ cp17 ∧ cp17 ≤ maxLen) (fun w hT => Row.facts (hT.ok 1 _ rfl)) (fun hr18_ => ?_)
  obtain ⟨hr18_a, hr18_l, hr18_c, hr18_m⟩ := hr18_
  unfold maxLen at hr18_m
  refine bS [0] 8 0 [(0, .slice A n cap), (1, iq y), (5, .slice A17 (kq + 1) cp17), (6, .bool dn), (7, iq (i : Int)), (24, undef), (25, undef), (26, undef), (27, undef), (28, undef), (29, undef)] ?_
  refine cont_forget 0 rfl ?_
  refine cont_done ?_
  refine blk_normal ?_
  refine then_normal ?_
  refine cont_region 3 rfl ?_
  refine bS [0, 0] 2 1 [(0, .slice A n cap), (1, iq y), (5, .slice A17 (kq + 1) cp17), (6, .bool dn), (13, iq (IntKind.i64.wrap ((i : Int) + 1))), (24, undef), (25, undef), (26, undef), (27, undef), (28, undef), (29, undef)] ?_
  refine cont_recast 13 (iq (IntKind.i64.wrap ((i : Int) + 1))) (iq ((i : Int) + 1)) rfl (wrapI (by omega) (by omega)) ?_
  refine bS [0] 3 0 [(0, .slice A n cap), (1, iq y), (5, .slice A17 (kq + 1) cp17), (6, .bool dn), (7, iq ((i : Int) + 1)), (24, undef), (25, undef), (26, undef), (27, undef), (28, undef), (29, undef)] ?_
  refine cont_done ?_
  refine then_normal ?_
  have hst_ : insP xs y i ++ [xs.getD i 0] = insP xs y (i + 1) ∧ anyGt (xs.take (i + 1)) y = dn := by
    rw [hdt_]; exact insP_on hrise (by omega) (hdn.symm.trans hdt_)
  refine cont_rowEq (k := .i64) 0 ((insP xs y i) ++ [xs.getD i 0]) (insP xs y (i + 1)) rfl hst_.1 ?_
  refine cont_again (i + 1, (kq + 1), A17, g17, cp17, dn) (show (i + 1) ≤ n ∧ ((kq + 1)) ≤ (i + 1) + 1 ∧ (∀ j, j < (i + 1) → xs.getD j 0 ≠ y) ∧ (dn) = anyGt (xs.take (i + 1)) y ∧ ((dn) = false → ((kq + 1)) ≤ (i + 1)) from ⟨by omega, by omega, fun j hj => by rcases Nat.lt_succ_iff_lt_or_eq.1 hj with h_ | h_; exact hne j h_; subst h_; assumption, by rw [hst_.2, hdt_], fun h_ => by first | exact absurd h_ (by decide) | (rw [hdt_] at h_; cases h_) | (have := hkd hdf_; omega)⟩) (show n - (i + 1) < n - i from by omega) (by kernel_rfl) (by kernel_rfl)
 replace c3_ := of_decide_eq_false c3_
 refine cont_false rfl ?_
 refine cont_exit ?_
 refine then_exit ?_
 refine then_exit ?_
 refine blk_exit ?_
 refine then_normal ?_
 refine cont_seq ?_
 refine cont_seq ?_
 refine cont_region 2 rfl ?_
 refine bS [0, 0] 2 0 [(1, iq y), (5, .slice Aq kq cq), (43, .bool (!dn))] ?_
 refine cont_done ?_
 refine then_normal ?_
 refine cont_split 43 (!dn) rfl (fun c19_ => ?_) (fun c19_ => ?_)
 ·
  replace c19_ : dn = false := by simpa using c19_
  have hdf_ : dn = false := c19_
  have hkq2 := hkd hdf_
  refine cont_true rfl ?_
  refine cont_region 5 rfl ?_
  refine batch1 [0, 0, 0] 3 2 (fun b20 => [(44, .slice Aq kq cq), (46, .slice (pB b20) 1 1)]) (fun b20 => [.cells b20 [iq y] 3 true, .gen (rowE (Aq) gq kq cq 3 1 (ivals .i64 (insP xs y i)) true), .gen (rdE (A) g o n 1 (ivals .i64 xs))]) rfl rfl [44, 46] (fun _ => rfl) (fun b20 => by kernel_rfl) (fun b20 => by kernel_rfl) (fun b20 => ?_)
  refine pl_step 4 1 rfl rfl ?_
  refine sem_stepW (α := Option Addr × Nat × Nat) 47 (Builtin.append_ #[34, 34] 34 #[.slice Aq kq cq, .slice (pB b20) 1 1]) (fun x_ => .slice x_.1 (kq + 1) x_.2.2) (fun x_ => [.cells b20 [iq y] 3 true, .gen (rowE (x_.1) x_.2.1 (kq + 1) x_.2.2 3 1 (ivals .i64 ((insP xs y i) ++ [y])) true), .gen (rdE (A) g o n 1 (ivals .i64 xs))]) (fun _ => True) (by kernel_rfl) (fun w hT => append_own (n' := (kq + 1)) (z := iq 0) hT (i := 1) (bytes := 8) rfl (by kernel_rfl) (by kernel_rfl) rfl (by decide) (by decide) (Rd.ofCells (vals := ivals .i64 [y]) (hT.ok 0 _ rfl) rfl rfl) (ivals_one .i64 [y]) (by omega) (ivals_append .i64 (insP xs y i) [y]) rfl) ?_
  rintro ⟨A21, g21, cp21⟩ -
  refine cont_norm [(44, .slice Aq kq cq), (46, .slice (pB b20) 1 1), (47, .slice A21 (kq + 1) cp21)] _ (by kernel_rfl) rfl ?_
  refine cont_fact (F := (0 < (kq + 1) → (A21 : Option Addr) = pB g21) ∧ ((insP xs y i) ++ [y]).length = (kq + 1) ∧ (kq + 1) ≤ cp21 ∧ cp21 ≤ maxLen) (fun w hT => Row.facts (hT.ok 1 _ rfl)) (fun hr22_ => ?_)
  obtain ⟨hr22_a, hr22_l, hr22_c, hr22_m⟩ := hr22_
  unfold maxLen at hr22_m
  refine bS [0] 5 0 [(5, .slice A21 (kq + 1) cp21)] ?_
  refine cont_forget 0 rfl ?_
  refine cont_done ?_
  refine then_normal ?_
  refine cont_seq ?_
  refine cont_region 2 rfl ?_
  refine bS [0, 0] 2 0 [(4, .slice A21 (kq + 1) cp21)] ?_
  refine cont_done ?_
  refine then_normal ?_
  refine cont_ret ?_
  refine ret_one (.inl rfl) rfl 0 (.slice A21 (kq + 1) cp21) (by kernel_rfl) (by kernel_rfl) (fun w hT => ?_)
  replace hT := hT.erase 1 (fun e h hw => by cases h; first | rfl | cases hw)
  refine .inr ⟨notin (i := i) (by omega) hne, ?_⟩
  rw [insP_last (by omega) (hdn.symm.trans hdf_) hne] at hT
  exact ⟨_, _, _, _, rfl, hT⟩
 replace c19_ : dn = true := by simpa using c19_
 have hdt_ : dn = true := c19_
 refine cont_false rfl ?_
 refine cont_skip ?_
 refine then_normal ?_
 refine cont_seq ?_
 refine cont_region 2 rfl ?_
 refine bS [0, 0] 2 0 [(4, .slice Aq kq cq)] ?_
 refine cont_done ?_
 refine then_normal ?_
 refine cont_ret ?_
 refine ret_one (.inl rfl) rfl 0 (.slice Aq kq cq) (by kernel_rfl) (by kernel_rfl) (fun w hT => ?_)
 replace hT := hT.erase 1 (fun e h hw => by cases h; first | rfl | cases hw)
 refine .inr ⟨notin (i := i) (by omega) hne, ?_⟩
 rw [insP_end (by omega) (hdn.symm.trans hdt_) hne] at hT
 exact ⟨_, _, _, _, rfl, hT⟩

end Go.Proofs.Ytlfahohbkgdabaa

