/- Contracts of functions of the given program, printed by a program of this project. -/
import Derived.Test.YtekgdfaggagfmaaPeDd
import Derived.Test.YtekgdfaggagfmaaProg
set_option linter.unusedVariables false
set_option linter.unusedSimpArgs false
namespace Go.Proofs.Ytekgdfaggagfmaa
open Go Go.RowKit
set_option maxRecDepth 100000
set_option maxHeartbeats 8000000

structure X11 where
  x0 : Int
  x1 : Int
instance : Inhabited X11 := ⟨⟨0, 0⟩⟩
def X11.cells (d : X11) : List Value := [.int .i64 d.x0, .int .i64 d.x1]
theorem X11.size (d : X11) : (X11.cells d).length = 2 := rfl
structure X11.Good (w : World) (d : X11) : Prop where
  w0 : -9223372036854775808 ≤ d.x0 ∧ d.x0 ≤ 9223372036854775807
  w1 : -9223372036854775808 ≤ d.x1 ∧ d.x1 ≤ 9223372036854775807
theorem X11.one : ∀ a : X11, ∀ u ∈ X11.cells a, u.oneCell' = true := by
  intro a u hu
  simp only [X11.cells, List.mem_cons, List.not_mem_nil, or_false] at hu
  rcases hu with rfl | rfl <;> rfl
section
open Go.ChangeShapes Go.WideShapes Go.ChangeAt Go.RowKit Go.Deep
theorem X11.openC {H : Type} {enc : TypeId × Value → H} {W : World} (cs : List Value) (n : Nat) (x : DataW H × List MemPlace) (hl : cs.length = 2) (hf : DataW.trod enc Try.prog W 0 (fun _ => true) true n 57 cs = some x) : ∃ d : X11, cs = X11.cells d ∧ X11.Good W d := by
  match cs, hl with
  | [c0, c1], _ =>
    obtain ⟨n1, y1, t1⟩ := trod_sub Try.underlying57 hf (i := 0) rfl (ty := 3) rfl (cs' := [c0]) (by kernel_rfl)
    obtain ⟨x0, rfl, w0⟩ := open_intC Try.underlying3 t1
    obtain ⟨n2, y2, t2⟩ := trod_sub Try.underlying57 hf (i := 1) rfl (ty := 3) rfl (cs' := [c1]) (by kernel_rfl)
    obtain ⟨x1, rfl, w1⟩ := open_intC Try.underlying3 t2
    exact ⟨⟨x0, x1⟩, rfl, ⟨wf64 w0, wf64 w1⟩⟩
end

end Go.Proofs.Ytekgdfaggagfmaa

