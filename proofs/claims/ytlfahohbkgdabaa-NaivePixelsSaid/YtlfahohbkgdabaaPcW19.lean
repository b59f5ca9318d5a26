/- Contracts of functions of the given program, printed by a program of this project. -/
import Derived.Test.YtlfahohbkgdabaaPcL17b
import Derived.Test.YtlfahohbkgdabaaProg
set_option linter.unusedVariables false
set_option linter.unusedSimpArgs false
namespace Go.Proofs.Ytlfahohbkgdabaa
open Go Go.RowKit
set_option maxRecDepth 100000
set_option maxHeartbeats 8000000

theorem payPixel0 (c : Int) (w : World) :
    Calls Try.prog 51 #[.int .u32 c, .slice none 0 0] w fun e w' => e = .returned (.int .u32 c) ∧ Below w.heap.size w w' := by
 refine enter 18 [(0, .int .u32 c), (1, .slice none 0 0)] [] Try.func51 rfl Try.ntmps51 rfl (by kernel_rfl) (Tab.start w) ?_
 refine cont_seq ?_
 refine cont_region 1 rfl ?_
 refine bS [0] 1 0 [(0, .int .u32 c), (1, .slice none 0 0)] ?_
 refine cont_done ?_
 refine then_normal ?_
 refine cont_seq ?_
 refine cont_seq ?_
 refine cont_region 3 rfl ?_
 refine bS [0, 0, 0] 3 0 [(0, .int .u32 c), (7, .slice none 0 0), (8, iq 0), (9, iq 0)] ?_
 refine cont_done ?_
 refine then_normal ?_
 refine cont_block ?_
 refine cont_rounds 1 ?_
 refine cont_round 1 0 rfl ?_
 refine cont_seq ?_
 refine cont_region 1 rfl ?_
 refine bS [0] 1 0 [(0, .int .u32 c), (7, .slice none 0 0), (8, iq 0), (9, iq 0), (10, .bool false)] ?_
 refine cont_done ?_
 refine then_normal ?_
 refine cont_seq ?_
 refine cont_false rfl ?_
 refine cont_exit ?_
 refine then_exit ?_
 refine then_exit ?_
 refine blk_exit ?_
 refine then_normal ?_
 refine cont_seq ?_
 refine cont_region 2 rfl ?_
 refine bS [0, 0] 2 0 [(4, .int .u32 c)] ?_
 refine cont_done ?_
 refine then_normal ?_
 refine cont_ret ?_
 refine ret_one (.inl rfl) rfl 0 (.int .u32 c) (by kernel_rfl) (by kernel_rfl) (fun w hT => ?_)
 exact ⟨rfl, hT.post rfl⟩

theorem naivePixel0 (w : World) :
    Calls Try.prog 14 #[.agg #[.int .i64 0, .slice none 0 0], .int .i64 3, .int .i64 3, .int .u32 4278190081] w fun e w' => e = .returned (.int .u32 4278190081) ∧ Below w.heap.size w w' := by
 refine enter 39 [(0, .agg #[iq 0, .slice none 0 0]), (1, iq 3), (2, iq 3), (3, .int .u32 4278190081)] [] Try.func14 rfl Try.ntmps14 rfl (by kernel_rfl) (Tab.start w) ?_
 refine cont_seq ?_
 refine cont_region 2 rfl ?_
 refine batch1 [0, 0] 2 0 (fun b1 => [(1, iq 3), (2, iq 3), (3, .int .u32 4278190081), (4, .pointer (pB b1))]) (fun b1 => [.cells b1 [iq 0, .slice none 0 0] 29 true]) rfl rfl [1, 2, 3, 4] (fun _ => rfl) (fun b1 => by kernel_rfl) (fun b1 => by kernel_rfl) (fun b1 => ?_)
 refine cont_done ?_
 refine then_normal ?_
 refine cont_seq ?_
 refine cont_region 1 rfl ?_
 refine bS [0] 1 0 [(1, iq 3), (2, iq 3), (3, .int .u32 4278190081), (4, .pointer (pB b1)), (9, .slice none 0 0)] ?_
 refine cont_done ?_
 refine then_normal ?_
 refine cont_seq ?_
 refine cont_seq ?_
 refine cont_region 4 rfl ?_
 refine bS [0, 0, 0, 0] 4 0 [(1, iq 3), (2, iq 3), (3, .int .u32 4278190081), (9, .slice none 0 0), (15, .slice none 0 0), (16, iq 0), (17, iq 0)] ?_
 refine cont_forget 0 rfl ?_
 refine cont_done ?_
 refine then_normal ?_
 refine cont_block ?_
 refine cont_rounds 1 ?_
 refine cont_round 1 0 rfl ?_
 refine cont_seq ?_
 refine cont_region 1 rfl ?_
 refine bS [0] 1 0 [(1, iq 3), (2, iq 3), (3, .int .u32 4278190081), (9, .slice none 0 0), (15, .slice none 0 0), (16, iq 0), (17, iq 0), (18, .bool false)] ?_
 refine cont_done ?_
 refine then_normal ?_
 refine cont_seq ?_
 refine cont_false rfl ?_
 refine cont_exit ?_
 refine then_exit ?_
 refine then_exit ?_
 refine blk_exit ?_
 refine then_normal ?_
 refine cont_seq ?_
 refine cont_region 4 rfl ?_
 refine bS [0, 0] 2 2 [(36, .int .u32 4278190081), (37, .slice none 0 0)] ?_
 refine pl_step 3 1 rfl rfl ?_
 refine call_pure (d := 38) (.int .u32 4278190081) (by kernel_rfl) (fun w hT => payPixel0 4278190081 w) ?_
 refine bS [0] 4 0 [(8, .int .u32 4278190081)] ?_
 refine cont_done ?_
 refine then_normal ?_
 refine cont_ret ?_
 refine ret_one (.inl rfl) rfl 0 (.int .u32 4278190081) (by kernel_rfl) (by kernel_rfl) (fun w hT => ?_)
 exact ⟨rfl, hT.post rfl⟩

theorem lives19 (w : World) :
    Calls Try.prog 16 #[] w fun e w' => e = .returned (.bool true) ∧ Below w.heap.size w w' := by
 refine enter 4 [] [] Try.func16 rfl Try.ntmps16 rfl (by kernel_rfl) (Tab.start w) ?_
 refine cont_seq ?_
 refine cont_region 1 rfl ?_
 refine bS [0] 1 0 [] ?_
 refine cont_done ?_
 refine then_normal ?_
 refine cont_seq ?_
 refine cont_region 4 rfl ?_
 refine bS [0] 1 3 [(1, .agg #[iq 0, .slice none 0 0])] ?_
 refine pl_step 2 2 rfl rfl ?_
 refine call_pure (d := 2) (.int .u32 4278190081) (by kernel_rfl) (fun w hT => naivePixel0 w) ?_
 refine bS [0, 0] 4 0 [(0, .bool true)] ?_
 refine cont_done ?_
 refine then_normal ?_
 refine cont_ret ?_
 refine ret_one (.inl rfl) rfl 0 (.bool true) (by kernel_rfl) (by kernel_rfl) (fun w hT => ?_)
 exact ⟨ret_bool (by decide +kernel), hT.post rfl⟩

end Go.Proofs.Ytlfahohbkgdabaa

