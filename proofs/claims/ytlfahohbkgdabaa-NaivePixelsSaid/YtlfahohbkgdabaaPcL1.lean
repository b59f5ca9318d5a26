/- Contracts of functions of the given program, printed by a program of this project. -/
import Derived.Test.YtlfahohbkgdabaaPcIm
import Derived.Test.YtlfahohbkgdabaaProg
import Derived.Test.YtlfahohbkgdabaaPcBs
set_option linter.unusedVariables false
set_option linter.unusedSimpArgs false
namespace Go.Proofs.Ytlfahohbkgdabaa
open Go Go.RowKit
set_option maxRecDepth 100000
set_option maxHeartbeats 8000000

theorem rectHas (a b c d x y : Int) (w : World) :
    Calls Try.prog 57 #[.agg #[.int .i64 a, .int .i64 b, .int .i64 c, .int .i64 d], .int .i64 x, .int .i64 y] w fun e w' => e = .returned (.bool (hasB a b c d x y)) ∧ Below w.heap.size w w' := by
 refine enter 29 [(0, .agg #[iq a, iq b, iq c, iq d]), (1, iq x), (2, iq y)] [] Try.func57 rfl Try.ntmps57 rfl (by kernel_rfl) (Tab.start w) ?_
 refine cont_seq ?_
 refine cont_region 2 rfl ?_
 refine batch1 [0, 0] 2 0 (fun b1 => [(1, iq x), (2, iq y), (3, .pointer (pB b1))]) (fun b1 => [.cells b1 [iq a, iq b, iq c, iq d] 53 true]) rfl rfl [1, 2, 3] (fun _ => rfl) (fun b1 => by kernel_rfl) (fun b1 => by kernel_rfl) (fun b1 => ?_)
 refine cont_done ?_
 refine then_normal ?_
 refine cont_seq ?_
 refine cont_region 23 rfl ?_
 refine bS [0, 0, 0, 0, 0] 5 18 [(1, iq x), (2, iq y), (3, .pointer (pB b1)), (11, .bool (decide (x ≥ a)))] ?_
 refine cont_split 11 (decide (x ≥ a)) rfl (fun c2_ => ?_) (fun c2_ => ?_)
 ·
  replace c2_ := of_decide_eq_true c2_
  refine bS [0, 0, 0, 0, 0, 0] 11 12 [(2, iq y), (3, .pointer (pB b1)), (17, .bool (decide (x < c)))] ?_
  refine cont_split 17 (decide (x < c)) rfl (fun c3_ => ?_) (fun c3_ => ?_)
  ·
   replace c3_ := of_decide_eq_true c3_
   refine bS [0, 0, 0, 0, 0, 0] 17 6 [(2, iq y), (3, .pointer (pB b1)), (23, .bool (decide (y ≥ b)))] ?_
   refine cont_split 23 (decide (y ≥ b)) rfl (fun c4_ => ?_) (fun c4_ => ?_)
   ·
    replace c4_ := of_decide_eq_true c4_
    refine bS [0, 0, 0, 0, 0, 0] 23 0 [(6, .bool (decide (y < d)))] ?_
    refine cont_forget 0 rfl ?_
    refine cont_done ?_
    refine then_normal ?_
    refine cont_ret ?_
    refine ret_one (.inl rfl) rfl 0 (.bool (decide (y < d))) (by kernel_rfl) (by kernel_rfl) (fun w hT => ?_)
    exact ⟨ret_bool (by simp [hasB, *] <;> omega), hT.post rfl⟩
   replace c4_ := of_decide_eq_false c4_
   refine bS [0, 0, 0, 0, 0, 0] 23 0 [(6, .bool false)] ?_
   refine cont_forget 0 rfl ?_
   refine cont_done ?_
   refine then_normal ?_
   refine cont_ret ?_
   refine ret_one (.inl rfl) rfl 0 (.bool false) (by kernel_rfl) (by kernel_rfl) (fun w hT => ?_)
   exact ⟨ret_bool (by simp [hasB, *] <;> omega), hT.post rfl⟩
  replace c3_ := of_decide_eq_false c3_
  refine bS [0, 0, 0, 0, 0, 0, 0, 0, 0, 0, 0, 0] 23 0 [(6, .bool false)] ?_
  refine cont_forget 0 rfl ?_
  refine cont_done ?_
  refine then_normal ?_
  refine cont_ret ?_
  refine ret_one (.inl rfl) rfl 0 (.bool false) (by kernel_rfl) (by kernel_rfl) (fun w hT => ?_)
  exact ⟨ret_bool (by simp [hasB, *] <;> omega), hT.post rfl⟩
 replace c2_ := of_decide_eq_false c2_
 refine bS [0, 0, 0, 0, 0, 0, 0, 0, 0, 0, 0, 0, 0, 0, 0, 0, 0, 0] 23 0 [(6, .bool false)] ?_
 refine cont_forget 0 rfl ?_
 refine cont_done ?_
 refine then_normal ?_
 refine cont_ret ?_
 refine ret_one (.inl rfl) rfl 0 (.bool false) (by kernel_rfl) (by kernel_rfl) (fun w hT => ?_)
 exact ⟨ret_bool (by simp [hasB, *] <;> omega), hT.post rfl⟩

theorem rectEmpty (a b c d : Int) (w : World) :
    Calls Try.prog 94 #[.agg #[.int .i64 a, .int .i64 b, .int .i64 c, .int .i64 d]] w fun e w' => e = .returned (.bool (emptyB a b c d)) ∧ Below w.heap.size w w' := by
 refine enter 15 [(0, .agg #[iq a, iq b, iq c, iq d])] [] Try.func94 rfl Try.ntmps94 rfl (by kernel_rfl) (Tab.start w) ?_
 refine cont_seq ?_
 refine cont_region 2 rfl ?_
 refine batch1 [0, 0] 2 0 (fun b1 => [(1, .pointer (pB b1))]) (fun b1 => [.cells b1 [iq a, iq b, iq c, iq d] 53 true]) rfl rfl [1] (fun _ => rfl) (fun b1 => by kernel_rfl) (fun b1 => by kernel_rfl) (fun b1 => ?_)
 refine cont_done ?_
 refine then_normal ?_
 refine cont_seq ?_
 refine cont_region 13 rfl ?_
 refine bS [0, 0, 0, 0, 0, 0] 6 7 [(1, .pointer (pB b1)), (8, .bool (decide (a ≥ c)))] ?_
 refine cont_split 8 (decide (a ≥ c)) rfl (fun c2_ => ?_) (fun c2_ => ?_)
 ·
  replace c2_ := of_decide_eq_true c2_
  refine bS [0, 0, 0, 0, 0, 0, 0] 13 0 [(2, .bool true)] ?_
  refine cont_forget 0 rfl ?_
  refine cont_done ?_
  refine then_normal ?_
  refine cont_ret ?_
  refine ret_one (.inl rfl) rfl 0 (.bool true) (by kernel_rfl) (by kernel_rfl) (fun w hT => ?_)
  exact ⟨ret_bool (by simp [emptyB, *] <;> omega), hT.post rfl⟩
 replace c2_ := of_decide_eq_false c2_
 refine bS [0, 0, 0, 0, 0, 0, 0] 13 0 [(2, .bool (decide (b ≥ d)))] ?_
 refine cont_forget 0 rfl ?_
 refine cont_done ?_
 refine then_normal ?_
 refine cont_ret ?_
 refine ret_one (.inl rfl) rfl 0 (.bool (decide (b ≥ d))) (by kernel_rfl) (by kernel_rfl) (fun w hT => ?_)
 exact ⟨ret_bool (by simp [emptyB, *] <;> omega), hT.post rfl⟩

theorem rectCut (a b c d a' b' c' d' : Int) (w : World) :
    Calls Try.prog 110 #[.agg #[.int .i64 a, .int .i64 b, .int .i64 c, .int .i64 d], .agg #[.int .i64 a', .int .i64 b', .int .i64 c', .int .i64 d']] w fun e w' => e = .returned (.agg #[.int .i64 ((cutR a b c d a' b' c' d').x0), .int .i64 ((cutR a b c d a' b' c' d').y0), .int .i64 ((cutR a b c d a' b' c' d').x1), .int .i64 ((cutR a b c d a' b' c' d').y1)]) ∧ Below w.heap.size w w' := by
 refine enter 31 [(0, .agg #[iq a, iq b, iq c, iq d]), (1, .agg #[iq a', iq b', iq c', iq d'])] [] Try.func110 rfl Try.ntmps110 rfl (by kernel_rfl) (Tab.start w) ?_
 refine cont_seq ?_
 refine cont_region 3 rfl ?_
 refine batch3 [0, 0, 0] 3 0 (fun b1 b2 b3 => [(2, .pointer (pB b1)), (3, .pointer (pB b2)), (4, .pointer (pB b3))]) (fun b1 b2 b3 => [.cells b3 [iq 0, iq 0, iq 0, iq 0] 53 true, .cells b2 [iq a', iq b', iq c', iq d'] 53 true, .cells b1 [iq a, iq b, iq c, iq d] 53 true]) rfl rfl [2, 3, 4] (fun _ _ _ => rfl) (fun b1 b2 b3 => by kernel_rfl) (fun b1 b2 b3 => by kernel_rfl) (fun b1 b2 b3 => ?_)
 refine cont_done ?_
 refine then_normal ?_
 refine cont_seq ?_
 refine cont_region 23 rfl ?_
 refine batch1 [0, 2, 0, 1, 0, 0, 2, 0, 1, 0, 0, 2, 0, 1, 0, 0, 2, 0, 1, 0, 0, 0, 0] 23 0 (fun b4 => [(4, .pointer (pB b3)), (5, .pointer (pB b4))]) (fun b4 => [.cells b4 [iq (mx a a'), iq (mx b b'), iq (mn c c'), iq (mn d d')] 53 true, .cells b3 [iq 0, iq 0, iq 0, iq 0] 53 true, .cells b2 [iq a', iq b', iq c', iq d'] 53 true, .cells b1 [iq a, iq b, iq c, iq d] 53 true]) rfl rfl [4, 5] (fun _ => rfl) (fun b4 => by kernel_rfl) (fun b4 => by kernel_rfl) (fun b4 => ?_)
 refine cont_forget 2 rfl ?_
 refine cont_forget 2 rfl ?_
 refine cont_done ?_
 refine then_normal ?_
 refine cont_seq ?_
 refine cont_seq ?_
 refine cont_region 2 rfl ?_
 refine bS [0] 1 1 [(4, .pointer (pB b3)), (5, .pointer (pB b4)), (27, .agg #[iq (mx a a'), iq (mx b b'), iq (mn c c'), iq (mn d d')])] ?_
 refine pl_step 2 0 rfl rfl ?_
 refine call_pure (d := 28) (.bool (emptyB (mx a a') (mx b b') (mn c c') (mn d d'))) (by kernel_rfl) (fun w hT => rectEmpty (mx a a') (mx b b') (mn c c') (mn d d') w) ?_
 refine cont_done ?_
 refine then_normal ?_
 refine cont_split 28 (emptyB (mx a a') (mx b b') (mn c c') (mn d d')) rfl (fun c5_ => ?_) (fun c5_ => ?_)
 ·
  refine cont_true rfl ?_
  refine cont_seq ?_
  refine cont_region 2 rfl ?_
  refine bS [0, 1] 2 0 [(4, .pointer (pB b3))] ?_
  refine cont_forget 0 rfl ?_
  refine cont_done ?_
  refine then_normal ?_
  refine cont_ret ?_
  refine then_ret ?_
  refine ret_one (.inl rfl) rfl 0 (.agg #[iq 0, iq 0, iq 0, iq 0]) (by kernel_rfl) (by kernel_rfl) (fun w hT => ?_)
  simp only [mx_eq, mn_eq] at *
  exact ⟨by simp [cutR, *], hT.post rfl⟩
 refine cont_false rfl ?_
 refine cont_skip ?_
 refine then_normal ?_
 refine cont_seq ?_
 refine cont_region 2 rfl ?_
 refine batch0 [0, 1] 2 0 [(4, .pointer (pB b3))] [.cells b4 [iq (mx a a'), iq (mx b b'), iq (mn c c'), iq (mn d d')] 53 true, .cells b3 [iq (mx a a'), iq (mx b b'), iq (mn c c'), iq (mn d d')] 53 true] rfl rfl (by kernel_rfl) (by kernel_rfl) ?_
 refine cont_forget 0 rfl ?_
 refine cont_done ?_
 refine then_normal ?_
 refine cont_ret ?_
 refine ret_one (.inl rfl) rfl 0 (.agg #[iq (mx a a'), iq (mx b b'), iq (mn c c'), iq (mn d d')]) (by kernel_rfl) (by kernel_rfl) (fun w hT => ?_)
 simp only [mx_eq, mn_eq] at *
 exact ⟨by simp [cutR, *], hT.post rfl⟩

theorem colorCut (n : Int) (w : World) :
    Calls Try.prog 114 #[.int .i64 n] w fun e w' => e = .returned (.int .i64 (clip n)) ∧ Below w.heap.size w w' := by
 refine enter 6 [(0, iq n)] [] Try.func114 rfl Try.ntmps114 rfl (by kernel_rfl) (Tab.start w) ?_
 refine cont_seq ?_
 refine cont_region 1 rfl ?_
 refine bS [0] 1 0 [(0, iq n)] ?_
 refine cont_done ?_
 refine then_normal ?_
 refine cont_seq ?_
 refine cont_region 4 rfl ?_
 refine bS [0, 0, 0, 0] 4 0 [(2, iq (mn (mx n 0) 255))] ?_
 refine cont_done ?_
 refine then_normal ?_
 refine cont_ret ?_
 refine ret_one (.inl rfl) rfl 0 (iq (mn (mx n 0) 255)) (by kernel_rfl) (by kernel_rfl) (fun w hT => ?_)
 exact ⟨ret_int (by simp only [clip, mx_eq, mn_eq]), hT.post rfl⟩

theorem colorMake (a r g b : Int) (w : World) :
    Calls Try.prog 113 #[.int .i64 a, .int .i64 r, .int .i64 g, .int .i64 b] w fun e w' => e = .returned (.int .u32 (mkC a r g b)) ∧ Below w.heap.size w w' := by
 have ha := clip_range a
 have hr := clip_range r
 have hg := clip_range g
 have hb := clip_range b
 refine enter 28 [(0, iq a), (1, iq r), (2, iq g), (3, iq b)] [] Try.func113 rfl Try.ntmps113 rfl (by kernel_rfl) (Tab.start w) ?_
 refine cont_seq ?_
 refine cont_region 1 rfl ?_
 refine bS [0] 1 0 [(0, iq a), (1, iq r), (2, iq g), (3, iq b)] ?_
 refine cont_done ?_
 refine then_normal ?_
 refine cont_seq ?_
 refine cont_region 1 rfl ?_
 refine bS [0] 1 0 [(0, iq a), (1, iq r), (2, iq g), (3, iq b), (9, .int .u32 0)] ?_
 refine cont_done ?_
 refine then_normal ?_
 refine cont_seq ?_
 refine cont_seq ?_
 refine cont_region 6 rfl ?_
 refine bS [0, 0, 0, 0, 0, 0] 6 0 [(9, .int .u32 0), (16, .agg #[iq a, iq r, iq g, iq b]), (17, iq 0)] ?_
 refine cont_done ?_
 refine then_normal ?_
 refine cont_block ?_
 refine cont_rounds 5 ?_
 refine cont_round 5 4 rfl ?_
 refine cont_seq ?_
 refine cont_region 1 rfl ?_
 refine bS [0] 1 0 [(9, .int .u32 0), (16, .agg #[iq a, iq r, iq g, iq b]), (17, iq 0), (18, .bool true)] ?_
 refine cont_done ?_
 refine then_normal ?_
 refine cont_seq ?_
 refine cont_true rfl ?_
 refine cont_skip ?_
 refine then_normal ?_
 refine cont_seq ?_
 refine cont_block ?_
 refine cont_seq ?_
 refine cont_region 2 rfl ?_
 refine bS [0, 0] 2 0 [(9, .int .u32 0), (11, iq a), (16, .agg #[iq a, iq r, iq g, iq b]), (17, iq 0)] ?_
 refine cont_done ?_
 refine then_normal ?_
 refine cont_region 7 rfl ?_
 refine bS [0, 0, 0] 3 4 [(16, .agg #[iq a, iq r, iq g, iq b]), (17, iq 0), (21, .int .u32 0), (22, iq a)] ?_
 refine pl_step 4 3 rfl rfl ?_
 refine call_pure (d := 23) (iq (clip a)) (by kernel_rfl) (fun w hT => colorCut a w) ?_
 refine bS [0] 5 2 [(16, .agg #[iq a, iq r, iq g, iq b]), (17, iq 0), (21, .int .u32 0), (24, .int .u32 (IntKind.u32.wrap (clip a)))] ?_
 refine cont_recast 24 (.int .u32 (IntKind.u32.wrap (clip a))) (.int .u32 (clip a)) rfl (wrapU32 (by omega) (by omega)) ?_
 refine bS [0] 6 1 [(16, .agg #[iq a, iq r, iq g, iq b]), (17, iq 0), (25, .int .u32 (IntKind.u32.wrap (bitOr 32 0 (clip a))))] ?_
 refine cont_recast 25 (.int .u32 (IntKind.u32.wrap (bitOr 32 0 (clip a)))) (.int .u32 (clip a)) rfl (bitOr0V (by omega) (by omega)) ?_
 refine bS [0] 7 0 [(9, .int .u32 (clip a)), (16, .agg #[iq a, iq r, iq g, iq b]), (17, iq 0)] ?_
 refine cont_done ?_
 refine blk_normal ?_
 refine then_normal ?_
 refine cont_region 2 rfl ?_
 refine bS [0, 0] 2 0 [(9, .int .u32 (clip a)), (16, .agg #[iq a, iq r, iq g, iq b]), (17, iq 1)] ?_
 refine cont_done ?_
 refine then_normal ?_
 refine cont_round 4 3 rfl ?_
 refine cont_seq ?_
 refine cont_region 1 rfl ?_
 refine bS [0] 1 0 [(9, .int .u32 (clip a)), (16, .agg #[iq a, iq r, iq g, iq b]), (17, iq 1), (18, .bool true)] ?_
 refine cont_done ?_
 refine then_normal ?_
 refine cont_seq ?_
 refine cont_true rfl ?_
 refine cont_skip ?_
 refine then_normal ?_
 refine cont_seq ?_
 refine cont_block ?_
 refine cont_seq ?_
 refine cont_region 2 rfl ?_
 refine bS [0, 0] 2 0 [(9, .int .u32 (clip a)), (11, iq r), (16, .agg #[iq a, iq r, iq g, iq b]), (17, iq 1)] ?_
 refine cont_done ?_
 refine then_normal ?_
 refine cont_region 7 rfl ?_
 refine bS [0, 0] 2 5 [(11, iq r), (16, .agg #[iq a, iq r, iq g, iq b]), (17, iq 1), (21, .int .u32 (IntKind.u32.wrap ((clip a) * 256)))] ?_
 refine cont_recast 21 (.int .u32 (IntKind.u32.wrap ((clip a) * 256))) (.int .u32 ((clip a) * 256)) rfl (wrapU32 (by omega) (by omega)) ?_
 refine bS [0] 3 4 [(16, .agg #[iq a, iq r, iq g, iq b]), (17, iq 1), (21, .int .u32 ((clip a) * 256)), (22, iq r)] ?_
 refine pl_step 4 3 rfl rfl ?_
 refine call_pure (d := 23) (iq (clip r)) (by kernel_rfl) (fun w hT => colorCut r w) ?_
 refine bS [0] 5 2 [(16, .agg #[iq a, iq r, iq g, iq b]), (17, iq 1), (21, .int .u32 ((clip a) * 256)), (24, .int .u32 (IntKind.u32.wrap (clip r)))] ?_
 refine cont_recast 24 (.int .u32 (IntKind.u32.wrap (clip r))) (.int .u32 (clip r)) rfl (wrapU32 (by omega) (by omega)) ?_
 refine bS [0] 6 1 [(16, .agg #[iq a, iq r, iq g, iq b]), (17, iq 1), (25, .int .u32 (IntKind.u32.wrap (bitOr 32 ((clip a) * 256) (clip r))))] ?_
 refine cont_recast 25 (.int .u32 (IntKind.u32.wrap (bitOr 32 ((clip a) * 256) (clip r)))) (.int .u32 ((clip a) * 256 + clip r)) rfl (bitOr8V (by omega) (by omega) (by omega) (by omega)) ?_
 refine bS [0] 7 0 [(9, .int .u32 ((clip a) * 256 + clip r)), (16, .agg #[iq a, iq r, iq g, iq b]), (17, iq 1)] ?_
 refine cont_done ?_
 refine blk_normal ?_
 refine then_normal ?_
 refine cont_region 2 rfl ?_
 refine bS [0, 0] 2 0 [(9, .int .u32 ((clip a) * 256 + clip r)), (16, .agg #[iq a, iq r, iq g, iq b]), (17, iq 2)] ?_
 refine cont_done ?_
 refine then_normal ?_
 refine cont_round 3 2 rfl ?_
 refine cont_seq ?_
 refine cont_region 1 rfl ?_
 refine bS [0] 1 0 [(9, .int .u32 ((clip a) * 256 + clip r)), (16, .agg #[iq a, iq r, iq g, iq b]), (17, iq 2), (18, .bool true)] ?_
 refine cont_done ?_
 refine then_normal ?_
 refine cont_seq ?_
 refine cont_true rfl ?_
 refine cont_skip ?_
 refine then_normal ?_
 refine cont_seq ?_
 refine cont_block ?_
 refine cont_seq ?_
 refine cont_region 2 rfl ?_
 refine bS [0, 0] 2 0 [(9, .int .u32 ((clip a) * 256 + clip r)), (11, iq g), (16, .agg #[iq a, iq r, iq g, iq b]), (17, iq 2)] ?_
 refine cont_done ?_
 refine then_normal ?_
 refine cont_region 7 rfl ?_
 refine bS [0, 0] 2 5 [(11, iq g), (16, .agg #[iq a, iq r, iq g, iq b]), (17, iq 2), (21, .int .u32 (IntKind.u32.wrap (((clip a) * 256 + clip r) * 256)))] ?_
 refine cont_recast 21 (.int .u32 (IntKind.u32.wrap (((clip a) * 256 + clip r) * 256))) (.int .u32 (((clip a) * 256 + clip r) * 256)) rfl (wrapU32 (by omega) (by omega)) ?_
 refine bS [0] 3 4 [(16, .agg #[iq a, iq r, iq g, iq b]), (17, iq 2), (21, .int .u32 (((clip a) * 256 + clip r) * 256)), (22, iq g)] ?_
 refine pl_step 4 3 rfl rfl ?_
 refine call_pure (d := 23) (iq (clip g)) (by kernel_rfl) (fun w hT => colorCut g w) ?_
 refine bS [0] 5 2 [(16, .agg #[iq a, iq r, iq g, iq b]), (17, iq 2), (21, .int .u32 (((clip a) * 256 + clip r) * 256)), (24, .int .u32 (IntKind.u32.wrap (clip g)))] ?_
 refine cont_recast 24 (.int .u32 (IntKind.u32.wrap (clip g))) (.int .u32 (clip g)) rfl (wrapU32 (by omega) (by omega)) ?_
 refine bS [0] 6 1 [(16, .agg #[iq a, iq r, iq g, iq b]), (17, iq 2), (25, .int .u32 (IntKind.u32.wrap (bitOr 32 (((clip a) * 256 + clip r) * 256) (clip g))))] ?_
 refine cont_recast 25 (.int .u32 (IntKind.u32.wrap (bitOr 32 (((clip a) * 256 + clip r) * 256) (clip g)))) (.int .u32 (((clip a) * 256 + clip r) * 256 + clip g)) rfl (bitOr8V (by omega) (by omega) (by omega) (by omega)) ?_
 refine bS [0] 7 0 [(9, .int .u32 (((clip a) * 256 + clip r) * 256 + clip g)), (16, .agg #[iq a, iq r, iq g, iq b]), (17, iq 2)] ?_
 refine cont_done ?_
 refine blk_normal ?_
 refine then_normal ?_
 refine cont_region 2 rfl ?_
 refine bS [0, 0] 2 0 [(9, .int .u32 (((clip a) * 256 + clip r) * 256 + clip g)), (16, .agg #[iq a, iq r, iq g, iq b]), (17, iq 3)] ?_
 refine cont_done ?_
 refine then_normal ?_
 refine cont_round 2 1 rfl ?_
 refine cont_seq ?_
 refine cont_region 1 rfl ?_
 refine bS [0] 1 0 [(9, .int .u32 (((clip a) * 256 + clip r) * 256 + clip g)), (16, .agg #[iq a, iq r, iq g, iq b]), (17, iq 3), (18, .bool true)] ?_
 refine cont_done ?_
 refine then_normal ?_
 refine cont_seq ?_
 refine cont_true rfl ?_
 refine cont_skip ?_
 refine then_normal ?_
 refine cont_seq ?_
 refine cont_block ?_
 refine cont_seq ?_
 refine cont_region 2 rfl ?_
 refine bS [0, 0] 2 0 [(9, .int .u32 (((clip a) * 256 + clip r) * 256 + clip g)), (11, iq b), (16, .agg #[iq a, iq r, iq g, iq b]), (17, iq 3)] ?_
 refine cont_done ?_
 refine then_normal ?_
 refine cont_region 7 rfl ?_
 refine bS [0, 0] 2 5 [(11, iq b), (16, .agg #[iq a, iq r, iq g, iq b]), (17, iq 3), (21, .int .u32 (IntKind.u32.wrap ((((clip a) * 256 + clip r) * 256 + clip g) * 256)))] ?_
 refine cont_recast 21 (.int .u32 (IntKind.u32.wrap ((((clip a) * 256 + clip r) * 256 + clip g) * 256))) (.int .u32 ((((clip a) * 256 + clip r) * 256 + clip g) * 256)) rfl (wrapU32 (by omega) (by omega)) ?_
 refine bS [0] 3 4 [(16, .agg #[iq a, iq r, iq g, iq b]), (17, iq 3), (21, .int .u32 ((((clip a) * 256 + clip r) * 256 + clip g) * 256)), (22, iq b)] ?_
 refine pl_step 4 3 rfl rfl ?_
 refine call_pure (d := 23) (iq (clip b)) (by kernel_rfl) (fun w hT => colorCut b w) ?_
 refine bS [0] 5 2 [(16, .agg #[iq a, iq r, iq g, iq b]), (17, iq 3), (21, .int .u32 ((((clip a) * 256 + clip r) * 256 + clip g) * 256)), (24, .int .u32 (IntKind.u32.wrap (clip b)))] ?_
 refine cont_recast 24 (.int .u32 (IntKind.u32.wrap (clip b))) (.int .u32 (clip b)) rfl (wrapU32 (by omega) (by omega)) ?_
 refine bS [0] 6 1 [(16, .agg #[iq a, iq r, iq g, iq b]), (17, iq 3), (25, .int .u32 (IntKind.u32.wrap (bitOr 32 ((((clip a) * 256 + clip r) * 256 + clip g) * 256) (clip b))))] ?_
 refine cont_recast 25 (.int .u32 (IntKind.u32.wrap (bitOr 32 ((((clip a) * 256 + clip r) * 256 + clip g) * 256) (clip b)))) (.int .u32 ((((clip a) * 256 + clip r) * 256 + clip g) * 256 + clip b)) rfl (bitOr8V (by omega) (by omega) (by omega) (by omega)) ?_
 refine bS [0] 7 0 [(9, .int .u32 ((((clip a) * 256 + clip r) * 256 + clip g) * 256 + clip b)), (16, .agg #[iq a, iq r, iq g, iq b]), (17, iq 3)] ?_
 refine cont_done ?_
 refine blk_normal ?_
 refine then_normal ?_
 refine cont_region 2 rfl ?_
 refine bS [0, 0] 2 0 [(9, .int .u32 ((((clip a) * 256 + clip r) * 256 + clip g) * 256 + clip b)), (16, .agg #[iq a, iq r, iq g, iq b]), (17, iq 4)] ?_
 refine cont_done ?_
 refine then_normal ?_
 refine cont_round 1 0 rfl ?_
 refine cont_seq ?_
 refine cont_region 1 rfl ?_
 refine bS [0] 1 0 [(9, .int .u32 ((((clip a) * 256 + clip r) * 256 + clip g) * 256 + clip b)), (16, .agg #[iq a, iq r, iq g, iq b]), (17, iq 4), (18, .bool false)] ?_
 refine cont_done ?_
 refine then_normal ?_
 refine cont_seq ?_
 refine cont_false rfl ?_
 refine cont_exit ?_
 refine then_exit ?_
 refine then_exit ?_
 refine blk_exit ?_
 refine then_normal ?_
 refine cont_seq ?_
 refine cont_region 2 rfl ?_
 refine bS [0, 0] 2 0 [(8, .int .u32 ((((clip a) * 256 + clip r) * 256 + clip g) * 256 + clip b))] ?_
 refine cont_done ?_
 refine then_normal ?_
 refine cont_ret ?_
 refine ret_one (.inl rfl) rfl 0 (.int .u32 ((((clip a) * 256 + clip r) * 256 + clip g) * 256 + clip b)) (by kernel_rfl) (by kernel_rfl) (fun w hT => ?_)
 exact ⟨ret_int (by unfold mkC; omega), hT.post rfl⟩

theorem colorParts (c : Int) (w : World) (h0 : 0 ≤ c) (h1 : c < 4294967296) :
    Calls Try.prog 81 #[.int .u32 c] w fun e w' => e = .returned (.agg #[.int .i64 (pa c), .int .i64 (pr c), .int .i64 (pg c), .int .i64 (pb c)]) ∧ Below w.heap.size w w' := by
 refine enter 19 [(0, .int .u32 c)] [] Try.func81 rfl Try.ntmps81 rfl (by kernel_rfl) (Tab.start w) ?_
 refine cont_seq ?_
 refine cont_region 1 rfl ?_
 refine batch1 [0] 1 0 (fun b1 => [(0, .int .u32 c), (2, .pointer (pB b1))]) (fun b1 => [.cells b1 [iq 0, iq 0, iq 0, iq 0] 49 true]) rfl rfl [0, 2] (fun _ => rfl) (fun b1 => by kernel_rfl) (fun b1 => by kernel_rfl) (fun b1 => ?_)
 refine cont_done ?_
 refine then_normal ?_
 refine cont_seq ?_
 refine cont_region 1 rfl ?_
 refine batch1 [0] 1 0 (fun b2 => [(0, .int .u32 c), (2, .pointer (pB b1)), (3, .pointer (pB b2))]) (fun b2 => [.cells b2 [iq 0, iq 0, iq 0, iq 0] 49 true, .cells b1 [iq 0, iq 0, iq 0, iq 0] 49 true]) rfl rfl [0, 2, 3] (fun _ => rfl) (fun b2 => by kernel_rfl) (fun b2 => by kernel_rfl) (fun b2 => ?_)
 refine cont_done ?_
 refine then_normal ?_
 refine cont_seq ?_
 refine cont_seq ?_
 refine cont_region 1 rfl ?_
 refine bS [0] 1 0 [(0, .int .u32 c), (2, .pointer (pB b1)), (3, .pointer (pB b2)), (5, iq 0)] ?_
 refine cont_done ?_
 refine then_normal ?_
 refine cont_block ?_
 refine cont_rounds 5 ?_
 refine cont_round 5 4 rfl ?_
 refine cont_seq ?_
 refine cont_region 1 rfl ?_
 refine bS [0] 1 0 [(0, .int .u32 c), (2, .pointer (pB b1)), (3, .pointer (pB b2)), (5, iq 0), (6, .bool true)] ?_
 refine cont_done ?_
 refine then_normal ?_
 refine cont_seq ?_
 refine cont_true rfl ?_
 refine cont_skip ?_
 refine then_normal ?_
 refine cont_seq ?_
 refine cont_block ?_
 refine cont_seq ?_
 refine cont_region 2 rfl ?_
 refine bS [0, 0] 2 0 [(0, .int .u32 c), (2, .pointer (pB b1)), (3, .pointer (pB b2)), (4, iq 0), (5, iq 0)] ?_
 refine cont_done ?_
 refine then_normal ?_
 refine cont_region 10 rfl ?_
 refine bS [0, 0, 0, 0, 0, 0] 6 4 [(0, .int .u32 c), (2, .pointer (pB b1)), (3, .pointer (pB b2)), (5, iq 0), (8, iq 0), (13, .int .u32 (c.fdiv 16777216))] ?_
 refine cont_recast 13 (.int .u32 (c.fdiv 16777216)) (.int .u32 (c / 16777216)) rfl (fdivV (by omega)) ?_
 refine bS [0] 7 3 [(0, .int .u32 c), (2, .pointer (pB b1)), (3, .pointer (pB b2)), (5, iq 0), (8, iq 0), (14, .int .u32 (IntKind.u32.wrap (bitAnd 32 (c / 16777216) 255)))] ?_
 refine cont_recast 14 (.int .u32 (IntKind.u32.wrap (bitAnd 32 (c / 16777216) 255))) (.int .u32 ((c / 16777216) % 256)) rfl (bitAnd255V (by omega) (by omega)) ?_
 refine bS [0] 8 2 [(0, .int .u32 c), (2, .pointer (pB b1)), (3, .pointer (pB b2)), (5, iq 0), (8, iq 0), (15, iq (IntKind.i64.wrap ((c / 16777216) % 256)))] ?_
 refine cont_recast 15 (iq (IntKind.i64.wrap ((c / 16777216) % 256))) (iq ((c / 16777216) % 256)) rfl (wrapI (by omega) (by omega)) ?_
 refine batch0 [0, 0] 10 0 [(0, .int .u32 c), (2, .pointer (pB b1)), (3, .pointer (pB b2)), (5, iq 0)] [.cells b2 [iq ((c / 16777216) % 256), iq 0, iq 0, iq 0] 49 true, .cells b1 [iq 0, iq 0, iq 0, iq 0] 49 true] rfl rfl (by kernel_rfl) (by kernel_rfl) ?_
 refine cont_done ?_
 refine blk_normal ?_
 refine then_normal ?_
 refine cont_region 2 rfl ?_
 refine bS [0, 0] 2 0 [(0, .int .u32 c), (2, .pointer (pB b1)), (3, .pointer (pB b2)), (5, iq 1)] ?_
 refine cont_done ?_
 refine then_normal ?_
 refine cont_round 4 3 rfl ?_
 refine cont_seq ?_
 refine cont_region 1 rfl ?_
 refine bS [0] 1 0 [(0, .int .u32 c), (2, .pointer (pB b1)), (3, .pointer (pB b2)), (5, iq 1), (6, .bool true)] ?_
 refine cont_done ?_
 refine then_normal ?_
 refine cont_seq ?_
 refine cont_true rfl ?_
 refine cont_skip ?_
 refine then_normal ?_
 refine cont_seq ?_
 refine cont_block ?_
 refine cont_seq ?_
 refine cont_region 2 rfl ?_
 refine bS [0, 0] 2 0 [(0, .int .u32 c), (2, .pointer (pB b1)), (3, .pointer (pB b2)), (4, iq 1), (5, iq 1)] ?_
 refine cont_done ?_
 refine then_normal ?_
 refine cont_region 10 rfl ?_
 refine bS [0, 0, 0, 0, 0, 0] 6 4 [(0, .int .u32 c), (2, .pointer (pB b1)), (3, .pointer (pB b2)), (5, iq 1), (8, iq 1), (13, .int .u32 (c.fdiv 65536))] ?_
 refine cont_recast 13 (.int .u32 (c.fdiv 65536)) (.int .u32 (c / 65536)) rfl (fdivV (by omega)) ?_
 refine bS [0] 7 3 [(0, .int .u32 c), (2, .pointer (pB b1)), (3, .pointer (pB b2)), (5, iq 1), (8, iq 1), (14, .int .u32 (IntKind.u32.wrap (bitAnd 32 (c / 65536) 255)))] ?_
 refine cont_recast 14 (.int .u32 (IntKind.u32.wrap (bitAnd 32 (c / 65536) 255))) (.int .u32 ((c / 65536) % 256)) rfl (bitAnd255V (by omega) (by omega)) ?_
 refine bS [0] 8 2 [(0, .int .u32 c), (2, .pointer (pB b1)), (3, .pointer (pB b2)), (5, iq 1), (8, iq 1), (15, iq (IntKind.i64.wrap ((c / 65536) % 256)))] ?_
 refine cont_recast 15 (iq (IntKind.i64.wrap ((c / 65536) % 256))) (iq ((c / 65536) % 256)) rfl (wrapI (by omega) (by omega)) ?_
 refine batch0 [0, 0] 10 0 [(0, .int .u32 c), (2, .pointer (pB b1)), (3, .pointer (pB b2)), (5, iq 1)] [.cells b2 [iq ((c / 16777216) % 256), iq ((c / 65536) % 256), iq 0, iq 0] 49 true, .cells b1 [iq 0, iq 0, iq 0, iq 0] 49 true] rfl rfl (by kernel_rfl) (by kernel_rfl) ?_
 refine cont_done ?_
 refine blk_normal ?_
 refine then_normal ?_
 refine cont_region 2 rfl ?_
 refine bS [0, 0] 2 0 [(0, .int .u32 c), (2, .pointer (pB b1)), (3, .pointer (pB b2)), (5, iq 2)] ?_
 refine cont_done ?_
 refine then_normal ?_
 refine cont_round 3 2 rfl ?_
 refine cont_seq ?_
 refine cont_region 1 rfl ?_
 refine bS [0] 1 0 [(0, .int .u32 c), (2, .pointer (pB b1)), (3, .pointer (pB b2)), (5, iq 2), (6, .bool true)] ?_
 refine cont_done ?_
 refine then_normal ?_
 refine cont_seq ?_
 refine cont_true rfl ?_
 refine cont_skip ?_
 refine then_normal ?_
 refine cont_seq ?_
 refine cont_block ?_
 refine cont_seq ?_
 refine cont_region 2 rfl ?_
 refine bS [0, 0] 2 0 [(0, .int .u32 c), (2, .pointer (pB b1)), (3, .pointer (pB b2)), (4, iq 2), (5, iq 2)] ?_
 refine cont_done ?_
 refine then_normal ?_
 refine cont_region 10 rfl ?_
 refine bS [0, 0, 0, 0, 0, 0] 6 4 [(0, .int .u32 c), (2, .pointer (pB b1)), (3, .pointer (pB b2)), (5, iq 2), (8, iq 2), (13, .int .u32 (c.fdiv 256))] ?_
 refine cont_recast 13 (.int .u32 (c.fdiv 256)) (.int .u32 (c / 256)) rfl (fdivV (by omega)) ?_
 refine bS [0] 7 3 [(0, .int .u32 c), (2, .pointer (pB b1)), (3, .pointer (pB b2)), (5, iq 2), (8, iq 2), (14, .int .u32 (IntKind.u32.wrap (bitAnd 32 (c / 256) 255)))] ?_
 refine cont_recast 14 (.int .u32 (IntKind.u32.wrap (bitAnd 32 (c / 256) 255))) (.int .u32 ((c / 256) % 256)) rfl (bitAnd255V (by omega) (by omega)) ?_
 refine bS [0] 8 2 [(0, .int .u32 c), (2, .pointer (pB b1)), (3, .pointer (pB b2)), (5, iq 2), (8, iq 2), (15, iq (IntKind.i64.wrap ((c / 256) % 256)))] ?_
 refine cont_recast 15 (iq (IntKind.i64.wrap ((c / 256) % 256))) (iq ((c / 256) % 256)) rfl (wrapI (by omega) (by omega)) ?_
 refine batch0 [0, 0] 10 0 [(0, .int .u32 c), (2, .pointer (pB b1)), (3, .pointer (pB b2)), (5, iq 2)] [.cells b2 [iq ((c / 16777216) % 256), iq ((c / 65536) % 256), iq ((c / 256) % 256), iq 0] 49 true, .cells b1 [iq 0, iq 0, iq 0, iq 0] 49 true] rfl rfl (by kernel_rfl) (by kernel_rfl) ?_
 refine cont_done ?_
 refine blk_normal ?_
 refine then_normal ?_
 refine cont_region 2 rfl ?_
 refine bS [0, 0] 2 0 [(0, .int .u32 c), (2, .pointer (pB b1)), (3, .pointer (pB b2)), (5, iq 3)] ?_
 refine cont_done ?_
 refine then_normal ?_
 refine cont_round 2 1 rfl ?_
 refine cont_seq ?_
 refine cont_region 1 rfl ?_
 refine bS [0] 1 0 [(0, .int .u32 c), (2, .pointer (pB b1)), (3, .pointer (pB b2)), (5, iq 3), (6, .bool true)] ?_
 refine cont_done ?_
 refine then_normal ?_
 refine cont_seq ?_
 refine cont_true rfl ?_
 refine cont_skip ?_
 refine then_normal ?_
 refine cont_seq ?_
 refine cont_block ?_
 refine cont_seq ?_
 refine cont_region 2 rfl ?_
 refine bS [0, 0] 2 0 [(0, .int .u32 c), (2, .pointer (pB b1)), (3, .pointer (pB b2)), (4, iq 3), (5, iq 3)] ?_
 refine cont_done ?_
 refine then_normal ?_
 refine cont_region 10 rfl ?_
 refine bS [0, 0, 0, 0, 0, 0] 6 4 [(0, .int .u32 c), (2, .pointer (pB b1)), (3, .pointer (pB b2)), (5, iq 3), (8, iq 3), (13, .int .u32 (c.fdiv 1))] ?_
 refine cont_recast 13 (.int .u32 (c.fdiv 1)) (.int .u32 (c / 1)) rfl (fdivV (by omega)) ?_
 refine bS [0] 7 3 [(0, .int .u32 c), (2, .pointer (pB b1)), (3, .pointer (pB b2)), (5, iq 3), (8, iq 3), (14, .int .u32 (IntKind.u32.wrap (bitAnd 32 (c / 1) 255)))] ?_
 refine cont_recast 14 (.int .u32 (IntKind.u32.wrap (bitAnd 32 (c / 1) 255))) (.int .u32 ((c / 1) % 256)) rfl (bitAnd255V (by omega) (by omega)) ?_
 refine bS [0] 8 2 [(0, .int .u32 c), (2, .pointer (pB b1)), (3, .pointer (pB b2)), (5, iq 3), (8, iq 3), (15, iq (IntKind.i64.wrap ((c / 1) % 256)))] ?_
 refine cont_recast 15 (iq (IntKind.i64.wrap ((c / 1) % 256))) (iq ((c / 1) % 256)) rfl (wrapI (by omega) (by omega)) ?_
 refine batch0 [0, 0] 10 0 [(0, .int .u32 c), (2, .pointer (pB b1)), (3, .pointer (pB b2)), (5, iq 3)] [.cells b2 [iq ((c / 16777216) % 256), iq ((c / 65536) % 256), iq ((c / 256) % 256), iq ((c / 1) % 256)] 49 true, .cells b1 [iq 0, iq 0, iq 0, iq 0] 49 true] rfl rfl (by kernel_rfl) (by kernel_rfl) ?_
 refine cont_done ?_
 refine blk_normal ?_
 refine then_normal ?_
 refine cont_region 2 rfl ?_
 refine bS [0, 0] 2 0 [(0, .int .u32 c), (2, .pointer (pB b1)), (3, .pointer (pB b2)), (5, iq 4)] ?_
 refine cont_done ?_
 refine then_normal ?_
 refine cont_round 1 0 rfl ?_
 refine cont_seq ?_
 refine cont_region 1 rfl ?_
 refine bS [0] 1 0 [(0, .int .u32 c), (2, .pointer (pB b1)), (3, .pointer (pB b2)), (5, iq 4), (6, .bool false)] ?_
 refine cont_done ?_
 refine then_normal ?_
 refine cont_seq ?_
 refine cont_false rfl ?_
 refine cont_exit ?_
 refine then_exit ?_
 refine then_exit ?_
 refine blk_exit ?_
 refine then_normal ?_
 refine cont_seq ?_
 refine cont_region 2 rfl ?_
 refine batch0 [0, 1] 2 0 [(2, .pointer (pB b1))] [.cells b2 [iq ((c / 16777216) % 256), iq ((c / 65536) % 256), iq ((c / 256) % 256), iq ((c / 1) % 256)] 49 true, .cells b1 [iq ((c / 16777216) % 256), iq ((c / 65536) % 256), iq ((c / 256) % 256), iq ((c / 1) % 256)] 49 true] rfl rfl (by kernel_rfl) (by kernel_rfl) ?_
 refine cont_forget 0 rfl ?_
 refine cont_done ?_
 refine then_normal ?_
 refine cont_ret ?_
 refine ret_one (.inl rfl) rfl 0 (.agg #[iq ((c / 16777216) % 256), iq ((c / 65536) % 256), iq ((c / 256) % 256), iq ((c / 1) % 256)]) (by kernel_rfl) (by kernel_rfl) (fun w hT => ?_)
 refine ⟨?_, hT.post rfl⟩
 simp only [pa, pr, pg, pb]
 rw [show c / 16777216 % 256 = c / 16777216 from by omega, show c / 1 = c from by omega]

theorem colorMay (c : Int) (w : World) (h0 : 0 ≤ c) (h1 : c < 4294967296) :
    Calls Try.prog 59 #[.int .u32 c] w fun e w' => e = .returned (.bool (mayB c)) ∧ Below w.heap.size w w' := by
 refine enter 16 [(0, .int .u32 c)] [] Try.func59 rfl Try.ntmps59 rfl (by kernel_rfl) (Tab.start w) ?_
 refine cont_seq ?_
 refine cont_region 1 rfl ?_
 refine bS [0] 1 0 [(0, .int .u32 c)] ?_
 refine cont_done ?_
 refine then_normal ?_
 refine cont_seq ?_
 refine cont_region 4 rfl ?_
 refine bS [0] 1 3 [(4, .int .u32 c)] ?_
 refine pl_step 2 2 rfl rfl ?_
 refine call_pure (d := 5) (.agg #[iq (pa c), iq (pr c), iq (pg c), iq (pb c)]) (by kernel_rfl) (fun w hT => colorParts c w (by omega) (by omega)) ?_
 refine batch1 [0, 0] 4 0 (fun b1 => [(3, .pointer (pB b1))]) (fun b1 => [.cells b1 [iq (pa c), iq (pr c), iq (pg c), iq (pb c)] 49 true]) rfl rfl [3] (fun _ => rfl) (fun b1 => by kernel_rfl) (fun b1 => by kernel_rfl) (fun b1 => ?_)
 refine cont_done ?_
 refine then_normal ?_
 refine cont_seq ?_
 refine cont_region 11 rfl ?_
 refine bS [0, 0, 0, 0, 0, 0, 0, 0, 0, 0, 0] 11 0 [(2, .bool (decide ((mx (mx (pr c) (pg c)) (pb c)) ≤ (pa c))))] ?_
 refine cont_forget 0 rfl ?_
 refine cont_done ?_
 refine then_normal ?_
 refine cont_ret ?_
 refine ret_one (.inl rfl) rfl 0 (.bool (decide ((mx (mx (pr c) (pg c)) (pb c)) ≤ (pa c)))) (by kernel_rfl) (by kernel_rfl) (fun w hT => ?_)
 simp only [mx_eq]
 exact ⟨ret_bool (by simp only [mayB]; rw [Bool.eq_iff_iff]; simp only [Bool.and_eq_true, decide_eq_true_eq]; omega), hT.post rfl⟩

end Go.Proofs.Ytlfahohbkgdabaa

