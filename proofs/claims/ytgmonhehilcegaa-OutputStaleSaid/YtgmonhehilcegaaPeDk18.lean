/- Contracts of functions of the given program, printed by a program of this project. -/
import Derived.Test.YtgmonhehilcegaaPeDd
import Derived.Test.YtgmonhehilcegaaProg
set_option linter.unusedVariables false
set_option linter.unusedSimpArgs false
namespace Go.Proofs.Ytgmonhehilcegaa
open Go Go.RowKit
set_option maxRecDepth 100000
set_option maxHeartbeats 8000000

structure Deed18 where
  x0 : Int
  A1 : Option Addr
  g1 : Nat
  o1 : Nat
  m1 : Nat
  k1 : Nat
  x1 : List Rect
  x2 : Int
  x3 : Int
  x4 : Int
  x5 : Int
  x6 : Int
instance : Inhabited Deed18 := ⟨⟨0, none, 0, 0, 0, 0, [], 0, 0, 0, 0, 0⟩⟩
def Deed18.cells (d : Deed18) : List Value := [.int .i64 d.x0, .slice d.A1 d.m1 d.k1, .int .i64 d.x2, .int .i64 d.x3, .int .i64 d.x4, .int .i64 d.x5, .int .u32 d.x6]
theorem Deed18.size (d : Deed18) : (Deed18.cells d).length = 7 := rfl
structure Deed18.Good (w : World) (d : Deed18) : Prop where
  w0 : -9223372036854775808 ≤ d.x0 ∧ d.x0 ≤ 9223372036854775807
  r1 : Rd w d.A1 d.g1 d.o1 d.m1 4 (rvals d.x1)
  l1 : d.x1.length = d.m1
  c1 : d.m1 ≤ d.k1
  m1 : d.k1 ≤ maxLen
  b1 : ∀ r ∈ d.x1, R64 r
  w2 : -9223372036854775808 ≤ d.x2 ∧ d.x2 ≤ 9223372036854775807
  w3 : -9223372036854775808 ≤ d.x3 ∧ d.x3 ≤ 9223372036854775807
  w4 : -9223372036854775808 ≤ d.x4 ∧ d.x4 ≤ 9223372036854775807
  w5 : -9223372036854775808 ≤ d.x5 ∧ d.x5 ≤ 9223372036854775807
  w6 : 0 ≤ d.x6 ∧ d.x6 < 4294967296
section
open Go.ChangeShapes Go.WideShapes Go.ChangeAt Go.RowKit Go.Deep
theorem Deed18.openC {H : Type} {enc : TypeId × Value → H} {W : World} (cs : List Value) (n : Nat) (x : DataW H × List MemPlace) (hl : cs.length = 7) (hf : DataW.trod enc Try.prog W 0 (fun _ => true) true n 64 cs = some x) : ∃ d : Deed18, cs = Deed18.cells d ∧ Deed18.Good W d := by
  match cs, hl with
  | [c0, c1, c2, c3, c4, c5, c6], _ =>
    obtain ⟨n1, y1, t1⟩ := trod_sub Try.underlying64 hf (i := 0) rfl (ty := 3) rfl (cs' := [c0]) (by kernel_rfl)
    obtain ⟨x0, rfl, w0⟩ := open_intC Try.underlying3 t1
    obtain ⟨n2, y2, t2⟩ := trod_sub Try.underlying64 hf (i := 1) rfl (ty := 62) rfl (cs' := [c1]) (by kernel_rfl)
    obtain ⟨A1, g1, o1, m1, k1, x1, rfl, hr1, hl1, hc1, hm1, w1⟩ := open_rectsC Try.underlying62 Try.underlying28 rfl rfl rfl rfl rfl rfl rfl rfl Try.underlying3 (by kernel_rfl) (by kernel_rfl) t2
    obtain ⟨n3, y3, t3⟩ := trod_sub Try.underlying64 hf (i := 2) rfl (ty := 28) rfl (cs' := [c2, c3, c4, c5]) (by kernel_rfl)
    obtain ⟨n4, y4, t4⟩ := trod_sub Try.underlying28 t3 (i := 0) rfl (ty := 3) rfl (cs' := [c2]) (by kernel_rfl)
    obtain ⟨x2, rfl, w2⟩ := open_intC Try.underlying3 t4
    obtain ⟨n5, y5, t5⟩ := trod_sub Try.underlying28 t3 (i := 1) rfl (ty := 3) rfl (cs' := [c3]) (by kernel_rfl)
    obtain ⟨x3, rfl, w3⟩ := open_intC Try.underlying3 t5
    obtain ⟨n6, y6, t6⟩ := trod_sub Try.underlying28 t3 (i := 2) rfl (ty := 3) rfl (cs' := [c4]) (by kernel_rfl)
    obtain ⟨x4, rfl, w4⟩ := open_intC Try.underlying3 t6
    obtain ⟨n7, y7, t7⟩ := trod_sub Try.underlying28 t3 (i := 3) rfl (ty := 3) rfl (cs' := [c5]) (by kernel_rfl)
    obtain ⟨x5, rfl, w5⟩ := open_intC Try.underlying3 t7
    obtain ⟨n8, y8, t8⟩ := trod_sub Try.underlying64 hf (i := 3) rfl (ty := 54) rfl (cs' := [c6]) (by kernel_rfl)
    obtain ⟨x6, rfl, w6⟩ := open_intC Try.underlying54 t8
    exact ⟨⟨x0, A1, g1, o1, m1, k1, x1, x2, x3, x4, x5, x6⟩, rfl, ⟨wf64 w0, hr1, hl1, hc1, hm1, w1, wf64 w2, wf64 w3, wf64 w4, wf64 w5, wf32 w6⟩⟩
end

end Go.Proofs.Ytgmonhehilcegaa

