/- Regions moved, scaled, kept small; the rectangle round all. Plain laws. -/
import Derived.Test.YtlfahohbkgdabaaPaRm
set_option linter.unusedVariables false
set_option linter.unusedSimpArgs false
namespace Go.Proofs.Ytlfahohbkgdabaa
open Go Go.RowKit

/-! ### What is made of each, up to the first error -/
/-! ### Regions under ways that keep the order -/
structure Mono (φ : Int → Int) : Prop where
  lt : ∀ {a b : Int}, a < b → φ a < φ b
theorem Mono.inj {φ : Int → Int} (h : Mono φ) {a b : Int} (e : φ a = φ b) : a = b := by
  rcases Int.lt_trichotomy a b with c | c | c
  · have := h.lt c; omega
  · exact c
  · have := h.lt c; omega
theorem Mono.le {φ : Int → Int} (h : Mono φ) {a b : Int} (e : a ≤ b) : φ a ≤ φ b := by
  rcases Int.lt_or_eq_of_le e with c | c
  · exact Int.le_of_lt (h.lt c)
  · subst c; exact Int.le_refl _
/-! ### The rectangle round all -/
theorem InBox.ne {r : Rect} (h : InBox r) : emptyR r = false := emptyB_false.2 ⟨h.x.2.1, h.y.2.1⟩
theorem Good.ne {l : List Rect} (h : Good l) : ∀ r ∈ l, emptyR r = false := fun r hr => (boxed_rects h.reg h.box r hr).ne
end Go.Proofs.Ytlfahohbkgdabaa

