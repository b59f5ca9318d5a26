/- Contracts of functions of the given program, printed by a program of this project. -/
import Derived.Test.YtgmonhehilcegaaPeL18
import Derived.Test.YtgmonhehilcegaaProg
set_option linter.unusedVariables false
set_option linter.unusedSimpArgs false
namespace Go.Proofs.Ytgmonhehilcegaa
open Go Go.RowKit
set_option maxRecDepth 100000
set_option maxHeartbeats 8000000

theorem refBox17 (a b W H : Int) (w : World) (hW : W = 1 + aroundI a 16) (hH : H = 1 + aroundI b 16) (ha : -9223372036854775808 ≤ a ∧ a ≤ 9223372036854775807) (hb : -9223372036854775808 ≤ b ∧ b ≤ 9223372036854775807) :
    Calls Try.prog 31 #[.int .i64 a, .int .i64 b] w fun e w' => e = .returned (.agg #[.int .i64 0, .int .i64 0, .int .i64 W, .int .i64 H]) ∧ Below w.heap.size w w' := by
 refine enter 12 [(0, iq a), (1, iq b)] [] Try.func31 rfl Try.ntmps31 rfl (by kernel_rfl) (Tab.start w) ?_
 refine cont_seq ?_
 refine cont_region 1 rfl ?_
 refine batch1 [0] 1 0 (fun b1 => [(0, iq a), (1, iq b), (4, .pointer (pB b1))]) (fun b1 => [.cells b1 [iq 0, iq 0, iq 0, iq 0] 28 true]) rfl rfl [0, 1, 4] (fun _ => rfl) (fun b1 => by kernel_rfl) (fun b1 => by kernel_rfl) (fun b1 => ?_)
 refine cont_done ?_
 refine then_normal ?_
 refine cont_seq ?_
 refine cont_region 8 rfl ?_
 refine bS [0] 1 7 [(1, iq b), (4, .pointer (pB b1)), (5, iq a)] ?_
 refine pl_step 2 6 rfl rfl ?_
 refine call_pure (d := 6) (iq (aroundI a 16)) (by kernel_rfl) (fun w hT => refAround a 16 w (by omega) (by omega)) ?_
 have hq2_ := aroundI_range a (m := 16) (by omega)
 refine bS [0] 3 5 [(1, iq b), (4, .pointer (pB b1)), (7, iq (IntKind.i64.wrap (1 + (aroundI a 16))))] ?_
 refine cont_recast 7 (iq (IntKind.i64.wrap (1 + (aroundI a 16)))) (iq (1 + (aroundI a 16))) rfl (wrapI (by omega) (by omega)) ?_
 refine bS [0] 4 4 [(4, .pointer (pB b1)), (7, iq (1 + (aroundI a 16))), (8, iq b)] ?_
 refine pl_step 5 3 rfl rfl ?_
 refine call_pure (d := 9) (iq (aroundI b 16)) (by kernel_rfl) (fun w hT => refAround b 16 w (by omega) (by omega)) ?_
 have hq3_ := aroundI_range b (m := 16) (by omega)
 refine bS [0] 6 2 [(4, .pointer (pB b1)), (7, iq (1 + (aroundI a 16))), (10, iq (IntKind.i64.wrap (1 + (aroundI b 16))))] ?_
 refine cont_recast 10 (iq (IntKind.i64.wrap (1 + (aroundI b 16)))) (iq (1 + (aroundI b 16))) rfl (wrapI (by omega) (by omega)) ?_
 refine batch0 [0, 0] 8 0 [(4, .pointer (pB b1))] [.cells b1 [iq 0, iq 0, iq (1 + (aroundI a 16)), iq (1 + (aroundI b 16))] 28 true] rfl rfl (by kernel_rfl) (by kernel_rfl) ?_
 refine cont_done ?_
 refine then_normal ?_
 refine cont_ret ?_
 refine ret_one (.inl rfl) rfl 0 (.agg #[iq 0, iq 0, iq (1 + (aroundI a 16)), iq (1 + (aroundI b 16))]) (by kernel_rfl) (by kernel_rfl) (fun w hT => ?_)
 exact ⟨by rw [hW, hH], hT.post rfl⟩

end Go.Proofs.Ytgmonhehilcegaa

