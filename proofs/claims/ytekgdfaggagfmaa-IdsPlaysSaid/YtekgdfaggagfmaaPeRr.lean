/- Rows of rectangles: four cells an element; read, written, appended to, cut, cleared. Generic in the program. -/
import Derived.Test.YtekgdfaggagfmaaPeAp
import Derived.Test.YtekgdfaggagfmaaPeRh
import Derived.Lib.SliceRun
set_option linter.unusedVariables false
set_option linter.unusedSimpArgs false
namespace Go.Proofs.Ytekgdfaggagfmaa
open Go Go.RowKit
variable {dfs : List Deferred}

section
variable {P : Program}
/-! ### Cut to a length -/
/-! ### Parts, read -/
theorem run_sliceLo {t e : TypeId} {g o n cap sz : Nat} {kl : IntKind} {l : Int} (ln : Nat) (hu : P.underlying t = some (.slice e)) (hi : (P.info? e).map (·.size) = some sz) (h0 : 0 ≤ l) (h1 : l ≤ (n : Int)) (h2 : n ≤ cap) (hl : l.toNat = ln) (w : World) :
    (Instr.sliceAt t (.slice (some ⟨g, o, none⟩) n cap) (some (.int kl l)) none none).run P w = .ok (.slice (sliceA g o ln cap sz) (n - ln) (cap - ln)) w := by
  subst hl
  obtain ⟨i, hi1, hi2⟩ := Option.map_eq_some_iff.1 hi
  have ha : (⟨g, o, none⟩ : Addr).add (l.toNat * sz) = ⟨g, o + l.toNat * sz, none⟩ := by unfold Addr.add; split <;> simp_all
  simp only [Instr.sliceAt, Instr.slice, Instr.sliceBounds, Instr.sliceBound, asIntOf]
  simp [Sem.run_bind, run_underlying hu, h0, h1, show (n : Int) ≤ cap by omega, sizeOf, typeInfo, hi1, hi2, ha, sliceA]
/-! ### clear -/
end
end Go.Proofs.Ytekgdfaggagfmaa

