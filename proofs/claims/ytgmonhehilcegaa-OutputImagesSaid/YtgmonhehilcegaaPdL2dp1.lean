/- Contracts of functions of the given program, printed by a program of this project. -/
import Derived.Test.YtgmonhehilcegaaPdL2c
import Derived.Test.YtgmonhehilcegaaPdL4b
import Derived.Test.YtgmonhehilcegaaPdRd2
import Derived.Test.YtgmonhehilcegaaPdRowR
import Derived.Test.YtgmonhehilcegaaProg
set_option linter.unusedVariables false
set_option linter.unusedSimpArgs false
namespace Go.Proofs.Ytgmonhehilcegaa
open Go Go.RowKit
set_option maxRecDepth 100000
set_option maxHeartbeats 8000000

theorem refSmallQ (r : Rect) (w : World) (hr : R64 r) :
    Calls Try.prog 47 #[.agg #[.int .i64 r.x0, .int .i64 r.y0, .int .i64 r.x1, .int .i64 r.y1]] w fun e w' => e = .returned (.agg #[.int .i64 ((smallR r).x0), .int .i64 ((smallR r).y0), .int .i64 ((smallR r).x1), .int .i64 ((smallR r).y1)]) ∧ Below w.heap.size w w' := by
 obtain ⟨⟨h0, h0'⟩, ⟨h1, h1'⟩, ⟨h2, h2'⟩, ⟨h3, h3'⟩⟩ := hr
 refine enter 26 [(0, .agg #[iq r.x0, iq r.y0, iq r.x1, iq r.y1])] [] Try.func47 rfl Try.ntmps47 rfl (by kernel_rfl) (Tab.start w) ?_
 refine cont_seq ?_
 refine cont_region 2 rfl ?_
 refine batch2 [0, 0] 2 0 (fun b1 b2 => [(1, .pointer (pB b1)), (2, .pointer (pB b2))]) (fun b1 b2 => [.cells b2 [iq 0, iq 0, iq 0, iq 0] 28 true, .cells b1 [iq r.x0, iq r.y0, iq r.x1, iq r.y1] 28 true]) rfl rfl [1, 2] (fun _ _ => rfl) (fun b1 b2 => by kernel_rfl) (fun b1 b2 => by kernel_rfl) (fun b1 b2 => ?_)
 refine cont_done ?_
 refine then_normal ?_
 refine cont_seq ?_
 refine cont_region 5 rfl ?_
 refine bS [0, 1] 2 3 [(1, .pointer (pB b1)), (2, .pointer (pB b2)), (6, iq r.x0)] ?_
 refine pl_step 3 2 rfl rfl ?_
 refine call_pure (d := 7) (iq (aroundI r.x0 24)) (by kernel_rfl) (fun w hT => refAround r.x0 24 w (by omega) (by omega)) ?_
 have hq3_ := aroundI_range r.x0 (m := 24) (by omega)
 refine bS [0] 4 1 [(1, .pointer (pB b1)), (2, .pointer (pB b2)), (8, iq (IntKind.i64.wrap ((aroundI r.x0 24) - 4)))] ?_
 refine cont_recast 8 (iq (IntKind.i64.wrap ((aroundI r.x0 24) - 4))) (iq ((aroundI r.x0 24) - 4)) rfl (wrapI (by omega) (by omega)) ?_
 refine bS [0] 5 0 [(1, .pointer (pB b1)), (2, .pointer (pB b2)), (3, iq ((aroundI r.x0 24) - 4))] ?_
 refine cont_done ?_
 refine then_normal ?_
 refine cont_seq ?_
 refine cont_region 5 rfl ?_
 refine bS [0, 1] 2 3 [(1, .pointer (pB b1)), (2, .pointer (pB b2)), (3, iq ((aroundI r.x0 24) - 4)), (10, iq r.y0)] ?_
 refine pl_step 3 2 rfl rfl ?_
 refine call_pure (d := 11) (iq (aroundI r.y0 24)) (by kernel_rfl) (fun w hT => refAround r.y0 24 w (by omega) (by omega)) ?_
 have hq4_ := aroundI_range r.y0 (m := 24) (by omega)
 refine bS [0] 4 1 [(1, .pointer (pB b1)), (2, .pointer (pB b2)), (3, iq ((aroundI r.x0 24) - 4)), (12, iq (IntKind.i64.wrap ((aroundI r.y0 24) - 4)))] ?_
 refine cont_recast 12 (iq (IntKind.i64.wrap ((aroundI r.y0 24) - 4))) (iq ((aroundI r.y0 24) - 4)) rfl (wrapI (by omega) (by omega)) ?_
 refine bS [0] 5 0 [(1, .pointer (pB b1)), (2, .pointer (pB b2)), (3, iq ((aroundI r.x0 24) - 4)), (4, iq ((aroundI r.y0 24) - 4))] ?_
 refine cont_done ?_
 refine then_normal ?_
 refine cont_seq ?_
 refine drawn_enter 14 [0] rfl (by kernel_rfl) ?_
 refine takes 0 [0] [(0, 0), (1, 0), (2, 0), (3, 0), (7, 0), (8, 0), (4, 1), (9, 1)] 6 [9, 4, 8, 7, 3, 2, 1, 0] [(2, .pointer (pB b2)), (13, iq ((aroundI r.x0 24) - 4)), (14, iq ((aroundI r.y0 24) - 4)), (15, iq ((aroundI r.x0 24) - 4)), (17, iq r.x1), (20, iq ((aroundI r.y0 24) - 4)), (22, iq r.y1)] (by kernel_rfl) (pok_then pok_body) (by kernel_rfl) rfl rfl (by kernel_rfl) (by kernel_rfl) ?_
 refine drawn_one 5 5 rfl (by kernel_rfl) ?_
 refine call_pure (d := 18) (iq (aroundI r.x1 13)) (by kernel_rfl) (fun w hT => refAround r.x1 13 w (by omega) (by omega)) ?_
 have hq5_ := aroundI_range r.x1 (m := 13) (by omega)
 refine drawn_next 0 [0] (by kernel_rfl) ?_
 refine takes 0 [0] [(6, 0)] 4 [6, 5, 9, 4, 8, 7, 3, 2, 1, 0] [(2, .pointer (pB b2)), (13, iq ((aroundI r.x0 24) - 4)), (14, iq ((aroundI r.y0 24) - 4)), (19, iq (IntKind.i64.wrap (((aroundI r.x0 24) - 4) + (aroundI r.x1 13)))), (20, iq ((aroundI r.y0 24) - 4)), (22, iq r.y1)] (by kernel_rfl) (pok_then pok_body) (by kernel_rfl) rfl rfl (by kernel_rfl) (by kernel_rfl) ?_
 refine cont_recast 19 (iq (IntKind.i64.wrap (((aroundI r.x0 24) - 4) + (aroundI r.x1 13)))) (iq (((aroundI r.x0 24) - 4) + (aroundI r.x1 13))) rfl (wrapI (by omega) (by omega)) ?_
 refine drawn_one 10 3 rfl (by kernel_rfl) ?_
 refine call_pure (d := 23) (iq (aroundI r.y1 13)) (by kernel_rfl) (fun w hT => refAround r.y1 13 w (by omega) (by omega)) ?_
 have hq6_ := aroundI_range r.y1 (m := 13) (by omega)
 refine drawn_next 0 [0] (by kernel_rfl) ?_
 refine takes 0 [0] [(11, 0)] 2 [11, 10, 6, 5, 9, 4, 8, 7, 3, 2, 1, 0] [(2, .pointer (pB b2)), (13, iq ((aroundI r.x0 24) - 4)), (14, iq ((aroundI r.y0 24) - 4)), (19, iq (((aroundI r.x0 24) - 4) + (aroundI r.x1 13))), (24, iq (IntKind.i64.wrap (((aroundI r.y0 24) - 4) + (aroundI r.y1 13))))] (by kernel_rfl) (pok_then pok_body) (by kernel_rfl) rfl rfl (by kernel_rfl) (by kernel_rfl) ?_
 refine cont_recast 24 (iq (IntKind.i64.wrap (((aroundI r.y0 24) - 4) + (aroundI r.y1 13)))) (iq (((aroundI r.y0 24) - 4) + (aroundI r.y1 13))) rfl (wrapI (by omega) (by omega)) ?_
 refine takes 0 [0] [(12, 0)] 1 [12, 11, 10, 6, 5, 9, 4, 8, 7, 3, 2, 1, 0] [(2, .pointer (pB b2)), (25, .agg #[iq ((aroundI r.x0 24) - 4), iq ((aroundI r.y0 24) - 4), iq (((aroundI r.x0 24) - 4) + (aroundI r.x1 13)), iq (((aroundI r.y0 24) - 4) + (aroundI r.y1 13))])] (by kernel_rfl) (pok_then pok_body) (by kernel_rfl) rfl rfl (by kernel_rfl) (by kernel_rfl) ?_
 refine drawn_one 13 0 rfl (by kernel_rfl) ?_
 refine one_step 0 [(2, .pointer (pB b2))] [.cells b2 [iq ((aroundI r.x0 24) - 4), iq ((aroundI r.y0 24) - 4), iq (((aroundI r.x0 24) - 4) + (aroundI r.x1 13)), iq (((aroundI r.y0 24) - 4) + (aroundI r.y1 13))] 28 true, .cells b1 [iq r.x0, iq r.y0, iq r.x1, iq r.y1] 28 true] (by kernel_rfl) (by kernel_rfl) ?_
 refine drawn_next 0 [0] (by kernel_rfl) ?_
 refine drawn_done (by kernel_rfl) ?_
 refine then_normal ?_
 refine cont_ret ?_
 refine ret_one (.inl rfl) rfl 0 (.agg #[iq ((aroundI r.x0 24) - 4), iq ((aroundI r.y0 24) - 4), iq (((aroundI r.x0 24) - 4) + (aroundI r.x1 13)), iq (((aroundI r.y0 24) - 4) + (aroundI r.y1 13))]) (by kernel_rfl) (by kernel_rfl) (fun w hT => ?_)
 exact ⟨rfl, hT.post rfl⟩

end Go.Proofs.Ytgmonhehilcegaa

