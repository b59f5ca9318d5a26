/- Lists of structs that hold slices: how they are read, how a law's argument of that kind opens. -/
import Derived.Test.YtgpcgfjfmjehgaaPgRowR
set_option linter.unusedVariables false
set_option linter.unusedSimpArgs false
namespace Go.Proofs.Ytgpcgfjfmjehgaa
open Go Go.ChangeShapes Go.WideShapes Go.ChangeAt Go.RowKit Go.Deep
variable {dfs : List Deferred}
/-! ### The cells of a list of structs -/
section
end
/-! ### What lies behind the slices of each -/
theorem Tab.olds {w : World} : ∀ {T : List Ent}, (∀ (i : Nat) (e : Ent), T[i]? = some e → e.ok w ∧ e.own = false ∧ e.wr = false) → Tab w w T := by
  intro T
  induction T with
  | nil => intro _; exact Tab.start w
  | cons e T ih =>
    intro h
    have h0 := h 0 e rfl
    refine Tab.addOld (ih (fun i x hx => h (i + 1) x (by simpa using hx))) e h0.1 h0.2.1 (fun i x hx hw => ?_)
    have h1 := h (i + 1) x (by simpa using hx)
    rcases hw with hw | hw
    · rw [h0.2.2] at hw; cases hw
    · rw [h1.2.2] at hw; cases hw
end Go.Proofs.Ytgpcgfjfmjehgaa

