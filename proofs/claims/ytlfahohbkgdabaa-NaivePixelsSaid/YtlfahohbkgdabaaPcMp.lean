/- The symbolic executor: maps with whole numbers as keys, as entries of the table. Generic in the program. -/
import Derived.Test.YtlfahohbkgdabaaPcSd
set_option linter.unusedVariables false
set_option linter.unusedSimpArgs false
namespace Go.Proofs.Ytlfahohbkgdabaa
open Go Go.RowKit

abbrev MS := List (Int × Value)
/-- Block b is a map that holds these, in the order in which they came; no key twice; the stamps are old. -/
structure MapAt (w : World) (b : Nat) (ms : MS) : Prop where
  here : ∃ es clock, w.heap[b]? = some (.map es clock) ∧ es.toList.map (fun e => (e.key, e.val)) = ms.map (fun p => (Value.int .i64 p.1, p.2)) ∧ (∀ e ∈ es.toList, e.born < clock) ∧ (es.toList.map (·.born)).Nodup

def mapE (b : Nat) (ms : MS) (own : Bool) : GenEnt :=
  { blk := fun k => k = b, wr := true, own := own, ok := fun w => MapAt w b ms,
    stable := fun w w' hb h => by
      obtain ⟨es, c, h1, h2⟩ := h.here
      exact ⟨es, c, (hb b rfl).trans h1, h2⟩,
    inb := fun w k h hk => by
      obtain ⟨es, c, h1, h2⟩ := h.here
      rw [hk]
      exact (Array.getElem?_eq_some_iff.1 h1).1 }

section
variable {P : Program}
end

/-! ### Plain laws of such lists -/
end Go.Proofs.Ytlfahohbkgdabaa

