/- Plain words of regions: runs of numbers, bands, the region of points; what a merge of two lists of rectangles comes to. -/
import Derived.Test.YtekgdfaggagfmaaPeIm
set_option linter.unusedVariables false
set_option linter.unusedSimpArgs false
namespace Go.Proofs.Ytekgdfaggagfmaa
open Go Go.RowKit

/-! ### Runs: the last one first -/
section
variable {β : Type}
abbrev Run (β : Type) := Int × Int × β
def RunsOk : List (Run β) → Prop
  | [] => True
  | r :: t => r.1 < r.2.1 ∧ (match t with | [] => True | s :: _ => s.2.1 ≤ r.1 ∧ (s.2.1 = r.1 → s.2.2 ≠ r.2.2)) ∧ RunsOk t
def look : List (Run β) → Int → Option β
  | [], _ => none
  | r :: t, p => if r.1 ≤ p ∧ p < r.2.1 then some r.2.2 else look t p
theorem RunsOk.tail {r : Run β} {t : List (Run β)} (h : RunsOk (r :: t)) : RunsOk t := h.2.2
theorem RunsOk.below {r : Run β} {t : List (Run β)} (h : RunsOk (r :: t)) : ∀ s ∈ t, s.2.1 ≤ r.1 := by
  induction t generalizing r with
  | nil => intro s hs; cases hs
  | cons q t ih =>
    intro s hs
    obtain ⟨_, ⟨h1, _⟩, h2⟩ := h
    rcases List.mem_cons.1 hs with rfl | hs
    · exact h1
    · have := ih h2 s hs
      have := h2.1
      omega
end

/-! ### Spans along X: runs without a value -/
abbrev Spans := List (Run Unit)
def spR (y y' : Int) (s : Run Unit) : Rect := ⟨s.1, y, s.2.1, y'⟩
/-- The rectangles of a band, from the left. -/
def bandR (y y' : Int) (sp : Spans) : List Rect := (sp.map (spR y y')).reverse
/-- A grid: numbers that rise. -/
def Rise (xs : List Int) : Prop := ∀ i, i + 1 < xs.length → xs.getD i 0 < xs.getD (i + 1) 0
theorem Rise.lt {xs : List Int} (h : Rise xs) {i j : Nat} (hij : i < j) (hj : j < xs.length) : xs.getD i 0 < xs.getD j 0 := by
  induction j with
  | zero => omega
  | succ j ih =>
    have h1 := h j hj
    by_cases e : i = j
    · subst e; exact h1
    · have := ih (by omega) (by omega); omega
theorem Rise.le {xs : List Int} (h : Rise xs) {i j : Nat} (hij : i ≤ j) (hj : j < xs.length) : xs.getD i 0 ≤ xs.getD j 0 := by
  by_cases e : i = j
  · subst e; omega
  · have := h.lt (i := i) (j := j) (by omega) hj; omega

/-! ### Bands: runs of spans -/
abbrev Bands := List (Run Spans)
def flatR : Bands → List Rect
  | [] => []
  | b :: t => flatR t ++ bandR b.1 b.2.1 b.2.2
def memB (bs : Bands) (x y : Int) : Bool := match look bs y with
  | some sp => (look sp x).isSome
  | none => false
structure BandsOk (bs : Bands) : Prop where
  runs : RunsOk bs
  each : ∀ b ∈ bs, RunsOk b.2.2 ∧ b.2.2 ≠ []
/-- A list is the region of these points. -/
def IsReg (l : List Rect) (F : Int → Int → Bool) : Prop := ∃ bs, BandsOk bs ∧ l = flatR bs ∧ ∀ x y, memB bs x y = F x y
theorem IsReg.congr {l : List Rect} {F G : Int → Int → Bool} (h : IsReg l F) (e : ∀ x y, F x y = G x y) : IsReg l G := by
  obtain ⟨bs, h1, rfl, h2⟩ := h
  exact ⟨bs, h1, rfl, fun x y => (h2 x y).trans (e x y)⟩

/-! ### The merge of bands -/
end Go.Proofs.Ytekgdfaggagfmaa

