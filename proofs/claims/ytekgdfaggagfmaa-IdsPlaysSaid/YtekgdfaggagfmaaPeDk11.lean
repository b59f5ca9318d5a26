/- Contracts of functions of the given program, printed by a program of this project. -/
import Derived.Test.YtekgdfaggagfmaaPeDd
import Derived.Test.YtekgdfaggagfmaaProg
set_option linter.unusedVariables false
set_option linter.unusedSimpArgs false
namespace Go.Proofs.Ytekgdfaggagfmaa
open Go Go.RowKit
set_option maxRecDepth 100000
set_option maxHeartbeats 8000000

structure Deed11 where
  x0 : Int
  x1 : Int
  x2 : Int
instance : Inhabited Deed11 := ⟨⟨0, 0, 0⟩⟩
def Deed11.cells (d : Deed11) : List Value := [.int .i64 d.x0, .int .i64 d.x1, .int .i64 d.x2]
theorem Deed11.size (d : Deed11) : (Deed11.cells d).length = 3 := rfl
structure Deed11.Good (w : World) (d : Deed11) : Prop where
  w0 : -9223372036854775808 ≤ d.x0 ∧ d.x0 ≤ 9223372036854775807
  w1 : -9223372036854775808 ≤ d.x1 ∧ d.x1 ≤ 9223372036854775807
  w2 : -9223372036854775808 ≤ d.x2 ∧ d.x2 ≤ 9223372036854775807
section
open Go.ChangeShapes Go.WideShapes Go.ChangeAt Go.RowKit Go.Deep
theorem Deed11.openC {H : Type} {enc : TypeId × Value → H} {W : World} (cs : List Value) (n : Nat) (x : DataW H × List MemPlace) (hl : cs.length = 3) (hf : DataW.trod enc Try.prog W 0 (fun _ => true) true n 36 cs = some x) : ∃ d : Deed11, cs = Deed11.cells d ∧ Deed11.Good W d := by
  match cs, hl with
  | [c0, c1, c2], _ =>
    obtain ⟨n1, y1, t1⟩ := trod_sub Try.underlying36 hf (i := 0) rfl (ty := 3) rfl (cs' := [c0]) (by kernel_rfl)
    obtain ⟨x0, rfl, w0⟩ := open_intC Try.underlying3 t1
    obtain ⟨n2, y2, t2⟩ := trod_sub Try.underlying36 hf (i := 1) rfl (ty := 3) rfl (cs' := [c1]) (by kernel_rfl)
    obtain ⟨x1, rfl, w1⟩ := open_intC Try.underlying3 t2
    obtain ⟨n3, y3, t3⟩ := trod_sub Try.underlying36 hf (i := 2) rfl (ty := 3) rfl (cs' := [c2]) (by kernel_rfl)
    obtain ⟨x2, rfl, w2⟩ := open_intC Try.underlying3 t3
    exact ⟨⟨x0, x1, x2⟩, rfl, ⟨wf64 w0, wf64 w1, wf64 w2⟩⟩
end

end Go.Proofs.Ytekgdfaggagfmaa

