/- Outputs: the plain words. -/
import Derived.Test.YtgmonhehilcegaaPdRq
set_option linter.unusedVariables false
set_option linter.unusedSimpArgs false
namespace Go.Proofs.Ytgmonhehilcegaa
open Go Go.RowKit
variable {dfs : List Deferred}
theorem drawn_three {P : Program} {Q : Exit → Act → World → Prop} {n : Nat} {w0 : World} {L : List (Nat × Value)} {T : List Ent} {ops : Array Oper} {m fuel : Nat} {l : List Nat} {S : World → Prop} (i j k fuel' : Nat) (hf : fuel = fuel' + 1) (hr : Region.ready .any ops (marked m l) = [i, j, k])
    (h : Cont dfs (wpOp P ops Q i (fun a w => S w ∧ AH P ops Q S m fuel' (i :: l) a w)) n w0 L T)
    (h' : Cont dfs (wpOp P ops Q j (fun a w => S w ∧ AH P ops Q S m fuel' (j :: l) a w)) n w0 L T)
    (h3 : Cont dfs (wpOp P ops Q k (fun a w => S w ∧ AH P ops Q S m fuel' (k :: l) a w)) n w0 L T) : Cont dfs (AH P ops Q S m fuel l) n w0 L T := by
  subst hf
  intro a w ha hfr hT
  refine wpAnyH_all hr (by simp) (fun q hq => ?_)
  simp only [List.mem_cons, List.not_mem_nil, or_false] at hq
  rcases hq with rfl | rfl | rfl
  · exact h a w ha hfr hT
  · exact h' a w ha hfr hT
  · exact h3 a w ha hfr hT
theorem can_one {r : Rect} (h : emptyR r = false) : canR [r] = [r] :=
  ((may_iff [r]).1 (fun i hi => by
    have : i = 0 := by simpa using hi
    subst this
    exact ⟨h, fun h0 => by omega, fun h0 => by omega, fun h0 => by omega⟩)).symm
end Go.Proofs.Ytgmonhehilcegaa

