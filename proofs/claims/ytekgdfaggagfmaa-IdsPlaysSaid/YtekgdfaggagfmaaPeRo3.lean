/- A client's ids, kind by kind. -/
import Derived.Test.YtekgdfaggagfmaaPeRo2
set_option linter.unusedVariables false
namespace Go.Proofs.Ytekgdfaggagfmaa
open Go Go.RowKit
theorem iget_nodup {x v : Int} : ∀ {l : IL}, (l.map (·.1)).Nodup → (x, v) ∈ l → iget l x = some v := by
  intro l
  induction l with
  | nil => intro _ h; cases h
  | cons p l ih =>
    intro hn hm
    rw [List.map_cons, List.nodup_cons] at hn
    rcases List.mem_cons.1 hm with e | e
    · subst e; simp [iget]
    · have hne : x ≠ p.1 := fun h => hn.1 (h ▸ List.mem_map.2 ⟨(x, v), e, rfl⟩)
      have := ih hn.2 e
      simp [iget, hne, this]
theorem IdsOk.kindOf {most : Int} {l : IL} (h : IdsOk most l) {x k : Int} (hm : (x, k) ∈ l) : kindL l x = k := by
  unfold kindL; rw [iget_nodup h.keys hm]; rfl
end Go.Proofs.Ytekgdfaggagfmaa

