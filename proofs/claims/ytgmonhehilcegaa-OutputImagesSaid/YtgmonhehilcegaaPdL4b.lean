/- Contracts of functions of the given program, printed by a program of this project. -/
import Derived.Test.YtgmonhehilcegaaPdL4
import Derived.Test.YtgmonhehilcegaaPdIc
import Derived.Test.YtgmonhehilcegaaProg
set_option linter.unusedVariables false
set_option linter.unusedSimpArgs false
namespace Go.Proofs.Ytgmonhehilcegaa
open Go Go.RowKit
set_option maxRecDepth 100000
set_option maxHeartbeats 8000000

theorem refAround (n m : Int) (w : World) (hn : -9223372036854775808 ≤ n ∧ n ≤ 9223372036854775807) (hm : 1 ≤ m ∧ m ≤ 9223372036854775807) :
    Calls Try.prog 18 #[.int .i64 n, .int .i64 m] w fun e w' => e = .returned (.int .i64 (aroundI n m)) ∧ Below w.heap.size w w' := by
 refine enter 13 [(0, iq n), (1, iq m)] [] Try.func18 rfl Try.ntmps18 rfl (by kernel_rfl) (Tab.start w) ?_
 refine cont_seq ?_
 refine cont_region 1 rfl ?_
 refine bS [0] 1 0 [(0, iq n), (1, iq m)] ?_
 refine cont_done ?_
 refine then_normal ?_
 refine cont_seq ?_
 refine cont_seq ?_
 refine cont_region 2 rfl ?_
 refine bS [0, 0] 2 0 [(0, iq n), (1, iq m), (6, .bool (decide (n < 0)))] ?_
 refine cont_done ?_
 refine then_normal ?_
 refine cont_split 6 (decide (n < 0)) rfl (fun c1_ => ?_) (fun c1_ => ?_)
 ·
  replace c1_ := of_decide_eq_true c1_
  refine cont_true rfl ?_
  refine cont_region 4 rfl ?_
  refine bS [0, 0] 2 2 [(1, iq m), (8, iq (IntKind.i64.wrap (n + 1)))] ?_
  refine cont_recast 8 (iq (IntKind.i64.wrap (n + 1))) (iq (n + 1)) rfl (wrapI (by omega) (by omega)) ?_
  refine bS [0] 3 1 [(1, iq m), (9, iq (IntKind.i64.wrap (0 - (n + 1))))] ?_
  refine cont_recast 9 (iq (IntKind.i64.wrap (0 - (n + 1)))) (iq (0 - (n + 1))) rfl (wrapI (by omega) (by omega)) ?_
  refine bS [0] 4 0 [(0, iq (0 - (n + 1))), (1, iq m)] ?_
  refine cont_done ?_
  refine then_normal ?_
  refine cont_seq ?_
  refine cont_region 4 rfl ?_
  refine bS [0, 0] 2 2 [(10, iq (0 - (n + 1))), (11, iq m)] ?_
  refine pl_step 3 1 rfl rfl ?_
  refine sem_step 12 (bopS .rem 3 (.tmp 10) (.tmp 11) (iq (0 - (n + 1))) (iq m)) (iq ((0 - (n + 1)).tmod m)) (by kernel_rfl) (fun w hT => run_rem (by omega) w) ?_
  refine cont_recast 12 (iq ((0 - (n + 1)).tmod m)) (iq ((0 - (n + 1)) % m)) rfl (tmodI (by omega)) ?_
  refine bS [0] 4 0 [(4, iq ((0 - (n + 1)) % m))] ?_
  refine cont_done ?_
  refine then_normal ?_
  refine cont_ret ?_
  refine ret_one (.inl rfl) rfl 0 (iq ((0 - (n + 1)) % m)) (by kernel_rfl) (by kernel_rfl) (fun w hT => ?_)
  exact ⟨ret_int (by simp [aroundI, *]), hT.post rfl⟩
 replace c1_ := of_decide_eq_false c1_
 refine cont_false rfl ?_
 refine cont_skip ?_
 refine then_normal ?_
 refine cont_seq ?_
 refine cont_region 4 rfl ?_
 refine bS [0, 0] 2 2 [(10, iq n), (11, iq m)] ?_
 refine pl_step 3 1 rfl rfl ?_
 refine sem_step 12 (bopS .rem 3 (.tmp 10) (.tmp 11) (iq n) (iq m)) (iq (n.tmod m)) (by kernel_rfl) (fun w hT => run_rem (by omega) w) ?_
 refine cont_recast 12 (iq (n.tmod m)) (iq (n % m)) rfl (tmodI (by omega)) ?_
 refine bS [0] 4 0 [(4, iq (n % m))] ?_
 refine cont_done ?_
 refine then_normal ?_
 refine cont_ret ?_
 refine ret_one (.inl rfl) rfl 0 (iq (n % m)) (by kernel_rfl) (by kernel_rfl) (fun w hT => ?_)
 exact ⟨ret_int (by simp [aroundI, *]), hT.post rfl⟩

theorem refParts (c : Int) (w : World) (h0 : 0 ≤ c) (h1 : c < 4294967296) :
    Calls Try.prog 75 #[.int .u32 c] w fun e w' => e = .returned (.agg #[.int .i64 (pa c), .int .i64 (pr c), .int .i64 (pg c), .int .i64 (pb c)]) ∧ Below w.heap.size w w' := by
 refine enter 17 [(0, .int .u32 c)] [] Try.func75 rfl Try.ntmps75 rfl (by kernel_rfl) (Tab.start w) ?_
 refine cont_seq ?_
 refine cont_region 1 rfl ?_
 refine batch1 [0] 1 0 (fun b1 => [(0, .int .u32 c), (2, .pointer (pB b1))]) (fun b1 => [.cells b1 [iq 0, iq 0, iq 0, iq 0] 132 true]) rfl rfl [0, 2] (fun _ => rfl) (fun b1 => by kernel_rfl) (fun b1 => by kernel_rfl) (fun b1 => ?_)
 refine cont_done ?_
 refine then_normal ?_
 refine cont_seq ?_
 refine cont_region 3 rfl ?_
 refine bS [0, 0] 2 1 [(2, .pointer (pB b1)), (5, iq (IntKind.i64.wrap c))] ?_
 refine cont_recast 5 (iq (IntKind.i64.wrap c)) (iq c) rfl (wrapI (by omega) (by omega)) ?_
 refine bS [0] 3 0 [(2, .pointer (pB b1)), (3, iq c)] ?_
 refine cont_done ?_
 refine then_normal ?_
 refine cont_seq ?_
 refine cont_region 12 rfl ?_
 refine bS [0, 0] 2 10 [(2, .pointer (pB b1)), (3, iq c), (7, iq (IntKind.i64.wrap (c.tdiv 16777216)))] ?_
 refine cont_recast 7 (iq (IntKind.i64.wrap (c.tdiv 16777216))) (iq (c / 16777216)) rfl (tdivI (by omega) (by omega) (by omega)) ?_
 refine bS [0, 0] 4 8 [(2, .pointer (pB b1)), (3, iq c), (7, iq (c / 16777216)), (9, iq (IntKind.i64.wrap (c.tdiv 65536)))] ?_
 refine cont_recast 9 (iq (IntKind.i64.wrap (c.tdiv 65536))) (iq (c / 65536)) rfl (tdivI (by omega) (by omega) (by omega)) ?_
 refine bS [0] 5 7 [(2, .pointer (pB b1)), (3, iq c), (7, iq (c / 16777216)), (10, iq ((c / 65536).tmod 256))] ?_
 refine cont_recast 10 (iq ((c / 65536).tmod 256)) (iq ((c / 65536) % 256)) rfl (tmodI (by omega)) ?_
 refine bS [0, 0] 7 5 [(2, .pointer (pB b1)), (3, iq c), (7, iq (c / 16777216)), (10, iq ((c / 65536) % 256)), (12, iq (IntKind.i64.wrap (c.tdiv 256)))] ?_
 refine cont_recast 12 (iq (IntKind.i64.wrap (c.tdiv 256))) (iq (c / 256)) rfl (tdivI (by omega) (by omega) (by omega)) ?_
 refine bS [0] 8 4 [(2, .pointer (pB b1)), (3, iq c), (7, iq (c / 16777216)), (10, iq ((c / 65536) % 256)), (13, iq ((c / 256).tmod 256))] ?_
 refine cont_recast 13 (iq ((c / 256).tmod 256)) (iq ((c / 256) % 256)) rfl (tmodI (by omega)) ?_
 refine bS [0, 0] 10 2 [(2, .pointer (pB b1)), (7, iq (c / 16777216)), (10, iq ((c / 65536) % 256)), (13, iq ((c / 256) % 256)), (15, iq (c.tmod 256))] ?_
 refine cont_recast 15 (iq (c.tmod 256)) (iq (c % 256)) rfl (tmodI (by omega)) ?_
 refine batch0 [0, 0] 12 0 [(2, .pointer (pB b1))] [.cells b1 [iq (c / 16777216), iq ((c / 65536) % 256), iq ((c / 256) % 256), iq (c % 256)] 132 true] rfl rfl (by kernel_rfl) (by kernel_rfl) ?_
 refine cont_done ?_
 refine then_normal ?_
 refine cont_ret ?_
 refine ret_one (.inl rfl) rfl 0 (.agg #[iq (c / 16777216), iq ((c / 65536) % 256), iq ((c / 256) % 256), iq (c % 256)]) (by kernel_rfl) (by kernel_rfl) (fun w hT => ?_)
 exact ⟨rfl, hT.post rfl⟩

theorem refMake (a r g b : Int) (w : World) :
    Calls Try.prog 76 #[.int .i64 a, .int .i64 r, .int .i64 g, .int .i64 b] w fun e w' => e = .returned (.int .u32 (mkC a r g b)) ∧ Below w.heap.size w w' := by
 have ha : 0 ≤ mn (mx a 0) 255 ∧ mn (mx a 0) 255 ≤ 255 := by unfold mn mx; omega
 have hr : 0 ≤ mn (mx r 0) 255 ∧ mn (mx r 0) 255 ≤ 255 := by unfold mn mx; omega
 have hg : 0 ≤ mn (mx g 0) 255 ∧ mn (mx g 0) 255 ≤ 255 := by unfold mn mx; omega
 have hb : 0 ≤ mn (mx b 0) 255 ∧ mn (mx b 0) 255 ≤ 255 := by unfold mn mx; omega
 refine enter 32 [(0, iq a), (1, iq r), (2, iq g), (3, iq b)] [] Try.func76 rfl Try.ntmps76 rfl (by kernel_rfl) (Tab.start w) ?_
 refine cont_seq ?_
 refine cont_region 1 rfl ?_
 refine bS [0] 1 0 [(0, iq a), (1, iq r), (2, iq g), (3, iq b)] ?_
 refine cont_done ?_
 refine then_normal ?_
 refine cont_seq ?_
 refine cont_region 4 rfl ?_
 refine bS [0, 0, 0, 0] 4 0 [(0, iq (mn (mx a 0) 255)), (1, iq r), (2, iq g), (3, iq b)] ?_
 refine cont_done ?_
 refine then_normal ?_
 refine cont_seq ?_
 refine cont_region 4 rfl ?_
 refine bS [0, 0, 0, 0] 4 0 [(0, iq (mn (mx a 0) 255)), (1, iq (mn (mx r 0) 255)), (2, iq g), (3, iq b)] ?_
 refine cont_done ?_
 refine then_normal ?_
 refine cont_seq ?_
 refine cont_region 4 rfl ?_
 refine bS [0, 0, 0, 0] 4 0 [(0, iq (mn (mx a 0) 255)), (1, iq (mn (mx r 0) 255)), (2, iq (mn (mx g 0) 255)), (3, iq b)] ?_
 refine cont_done ?_
 refine then_normal ?_
 refine cont_seq ?_
 refine cont_region 4 rfl ?_
 refine bS [0, 0, 0, 0] 4 0 [(0, iq (mn (mx a 0) 255)), (1, iq (mn (mx r 0) 255)), (2, iq (mn (mx g 0) 255)), (3, iq (mn (mx b 0) 255))] ?_
 refine cont_done ?_
 refine then_normal ?_
 refine cont_seq ?_
 refine cont_region 12 rfl ?_
 refine bS [0, 0] 2 10 [(1, iq (mn (mx r 0) 255)), (2, iq (mn (mx g 0) 255)), (3, iq (mn (mx b 0) 255)), (22, iq (IntKind.i64.wrap ((mn (mx a 0) 255) * 16777216)))] ?_
 refine cont_recast 22 (iq (IntKind.i64.wrap ((mn (mx a 0) 255) * 16777216))) (iq ((mn (mx a 0) 255) * 16777216)) rfl (wrapI (by omega) (by omega)) ?_
 refine bS [0, 0] 4 8 [(2, iq (mn (mx g 0) 255)), (3, iq (mn (mx b 0) 255)), (22, iq ((mn (mx a 0) 255) * 16777216)), (24, iq (IntKind.i64.wrap ((mn (mx r 0) 255) * 65536)))] ?_
 refine cont_recast 24 (iq (IntKind.i64.wrap ((mn (mx r 0) 255) * 65536))) (iq ((mn (mx r 0) 255) * 65536)) rfl (wrapI (by omega) (by omega)) ?_
 refine bS [0] 5 7 [(2, iq (mn (mx g 0) 255)), (3, iq (mn (mx b 0) 255)), (25, iq (IntKind.i64.wrap (((mn (mx a 0) 255) * 16777216) + ((mn (mx r 0) 255) * 65536))))] ?_
 refine cont_recast 25 (iq (IntKind.i64.wrap (((mn (mx a 0) 255) * 16777216) + ((mn (mx r 0) 255) * 65536)))) (iq (((mn (mx a 0) 255) * 16777216) + ((mn (mx r 0) 255) * 65536))) rfl (wrapI (by omega) (by omega)) ?_
 refine bS [0, 0] 7 5 [(3, iq (mn (mx b 0) 255)), (25, iq (((mn (mx a 0) 255) * 16777216) + ((mn (mx r 0) 255) * 65536))), (27, iq (IntKind.i64.wrap ((mn (mx g 0) 255) * 256)))] ?_
 refine cont_recast 27 (iq (IntKind.i64.wrap ((mn (mx g 0) 255) * 256))) (iq ((mn (mx g 0) 255) * 256)) rfl (wrapI (by omega) (by omega)) ?_
 refine bS [0] 8 4 [(3, iq (mn (mx b 0) 255)), (28, iq (IntKind.i64.wrap ((((mn (mx a 0) 255) * 16777216) + ((mn (mx r 0) 255) * 65536)) + ((mn (mx g 0) 255) * 256))))] ?_
 refine cont_recast 28 (iq (IntKind.i64.wrap ((((mn (mx a 0) 255) * 16777216) + ((mn (mx r 0) 255) * 65536)) + ((mn (mx g 0) 255) * 256)))) (iq ((((mn (mx a 0) 255) * 16777216) + ((mn (mx r 0) 255) * 65536)) + ((mn (mx g 0) 255) * 256))) rfl (wrapI (by omega) (by omega)) ?_
 refine bS [0, 0] 10 2 [(30, iq (IntKind.i64.wrap (((((mn (mx a 0) 255) * 16777216) + ((mn (mx r 0) 255) * 65536)) + ((mn (mx g 0) 255) * 256)) + (mn (mx b 0) 255))))] ?_
 refine cont_recast 30 (iq (IntKind.i64.wrap (((((mn (mx a 0) 255) * 16777216) + ((mn (mx r 0) 255) * 65536)) + ((mn (mx g 0) 255) * 256)) + (mn (mx b 0) 255)))) (iq (((((mn (mx a 0) 255) * 16777216) + ((mn (mx r 0) 255) * 65536)) + ((mn (mx g 0) 255) * 256)) + (mn (mx b 0) 255))) rfl (wrapI (by omega) (by omega)) ?_
 refine bS [0] 11 1 [(31, .int .u32 (IntKind.u32.wrap (((((mn (mx a 0) 255) * 16777216) + ((mn (mx r 0) 255) * 65536)) + ((mn (mx g 0) 255) * 256)) + (mn (mx b 0) 255))))] ?_
 refine cont_recast 31 (.int .u32 (IntKind.u32.wrap (((((mn (mx a 0) 255) * 16777216) + ((mn (mx r 0) 255) * 65536)) + ((mn (mx g 0) 255) * 256)) + (mn (mx b 0) 255)))) (.int .u32 (((((mn (mx a 0) 255) * 16777216) + ((mn (mx r 0) 255) * 65536)) + ((mn (mx g 0) 255) * 256)) + (mn (mx b 0) 255))) rfl (wrapU32 (by omega) (by omega)) ?_
 refine bS [0] 12 0 [(8, .int .u32 (((((mn (mx a 0) 255) * 16777216) + ((mn (mx r 0) 255) * 65536)) + ((mn (mx g 0) 255) * 256)) + (mn (mx b 0) 255)))] ?_
 refine cont_done ?_
 refine then_normal ?_
 refine cont_ret ?_
 refine ret_one (.inl rfl) rfl 0 (.int .u32 (((((mn (mx a 0) 255) * 16777216) + ((mn (mx r 0) 255) * 65536)) + ((mn (mx g 0) 255) * 256)) + (mn (mx b 0) 255))) (by kernel_rfl) (by kernel_rfl) (fun w hT => ?_)
 exact ⟨ret_int (by simp only [mkC, clip, mx_eq, mn_eq]), hT.post rfl⟩

theorem refGood3 (c : Int) (w : World) (h0 : 0 ≤ c) (h1 : c < 4294967296) :
    Calls Try.prog 46 #[.int .u32 c] w fun e w' => e = .returned (.int .u32 (goodC c)) ∧ Below w.heap.size w w' := by
 refine enter 24 [(0, .int .u32 c)] [] Try.func46 rfl Try.ntmps46 rfl (by kernel_rfl) (Tab.start w) ?_
 refine cont_seq ?_
 refine cont_region 1 rfl ?_
 refine bS [0] 1 0 [(0, .int .u32 c)] ?_
 refine cont_done ?_
 refine then_normal ?_
 refine cont_seq ?_
 refine cont_region 4 rfl ?_
 refine bS [0] 1 3 [(4, .int .u32 c)] ?_
 refine pl_step 2 2 rfl rfl ?_
 refine call_pure (d := 5) (.agg #[iq (pa c), iq (pr c), iq (pg c), iq (pb c)]) (by kernel_rfl) (fun w hT => refParts c w (by omega) (by omega)) ?_
 refine batch1 [0, 0] 4 0 (fun b1 => [(3, .pointer (pB b1))]) (fun b1 => [.cells b1 [iq (pa c), iq (pr c), iq (pg c), iq (pb c)] 132 true]) rfl rfl [3] (fun _ => rfl) (fun b1 => by kernel_rfl) (fun b1 => by kernel_rfl) (fun b1 => ?_)
 refine cont_done ?_
 refine then_normal ?_
 refine cont_seq ?_
 refine cont_region 19 rfl ?_
 refine bS [0, 0, 0, 0, 0, 0, 0, 0, 0, 0, 0, 0, 0, 0, 0, 0, 0] 17 2 [(7, iq (pa c)), (12, iq (mn (pr c) (pa c))), (17, iq (mn (pg c) (pa c))), (22, iq (mn (pb c) (pa c)))] ?_
 refine cont_forget 0 rfl ?_
 refine pl_step 18 1 rfl rfl ?_
 refine call_pure (d := 23) (.int .u32 (mkC (pa c) (mn (pr c) (pa c)) (mn (pg c) (pa c)) (mn (pb c) (pa c)))) (by kernel_rfl) (fun w hT => refMake (pa c) (mn (pr c) (pa c)) (mn (pg c) (pa c)) (mn (pb c) (pa c)) w) ?_
 refine bS [0] 19 0 [(2, .int .u32 (mkC (pa c) (mn (pr c) (pa c)) (mn (pg c) (pa c)) (mn (pb c) (pa c))))] ?_
 refine cont_done ?_
 refine then_normal ?_
 refine cont_ret ?_
 refine ret_one (.inl rfl) rfl 0 (.int .u32 (mkC (pa c) (mn (pr c) (pa c)) (mn (pg c) (pa c)) (mn (pb c) (pa c)))) (by kernel_rfl) (by kernel_rfl) (fun w hT => ?_)
 exact ⟨rfl, hT.post rfl⟩

theorem refHas (a b c d x y : Int) (w : World) :
    Calls Try.prog 49 #[.agg #[.int .i64 a, .int .i64 b, .int .i64 c, .int .i64 d], .int .i64 x, .int .i64 y] w fun e w' => e = .returned (.bool (hasB a b c d x y)) ∧ Below w.heap.size w w' := by
 refine enter 29 [(0, .agg #[iq a, iq b, iq c, iq d]), (1, iq x), (2, iq y)] [] Try.func49 rfl Try.ntmps49 rfl (by kernel_rfl) (Tab.start w) ?_
 refine cont_seq ?_
 refine cont_region 2 rfl ?_
 refine batch1 [0, 0] 2 0 (fun b1 => [(1, iq x), (2, iq y), (3, .pointer (pB b1))]) (fun b1 => [.cells b1 [iq a, iq b, iq c, iq d] 28 true]) rfl rfl [1, 2, 3] (fun _ => rfl) (fun b1 => by kernel_rfl) (fun b1 => by kernel_rfl) (fun b1 => ?_)
 refine cont_done ?_
 refine then_normal ?_
 refine cont_seq ?_
 refine cont_region 23 rfl ?_
 refine bS [0, 0, 0, 0, 0] 5 18 [(1, iq x), (2, iq y), (3, .pointer (pB b1)), (11, .bool (decide (a ≤ x)))] ?_
 refine cont_split 11 (decide (a ≤ x)) rfl (fun c2_ => ?_) (fun c2_ => ?_)
 ·
  replace c2_ := of_decide_eq_true c2_
  refine bS [0, 0, 0, 0, 0, 0] 11 12 [(2, iq y), (3, .pointer (pB b1)), (17, .bool (decide (x < c)))] ?_
  refine cont_split 17 (decide (x < c)) rfl (fun c3_ => ?_) (fun c3_ => ?_)
  ·
   replace c3_ := of_decide_eq_true c3_
   refine bS [0, 0, 0, 0, 0, 0] 17 6 [(2, iq y), (3, .pointer (pB b1)), (23, .bool (decide (b ≤ y)))] ?_
   refine cont_split 23 (decide (b ≤ y)) rfl (fun c4_ => ?_) (fun c4_ => ?_)
   ·
    replace c4_ := of_decide_eq_true c4_
    refine bS [0, 0, 0, 0, 0, 0] 23 0 [(6, .bool (decide (y < d)))] ?_
    refine cont_forget 0 rfl ?_
    refine cont_done ?_
    refine then_normal ?_
    refine cont_ret ?_
    refine ret_one (.inl rfl) rfl 0 (.bool (decide (y < d))) (by kernel_rfl) (by kernel_rfl) (fun w hT => ?_)
    exact ⟨ret_bool (by simp [hasB, *] <;> omega), hT.post rfl⟩
   replace c4_ := of_decide_eq_false c4_
   refine bS [0, 0, 0, 0, 0, 0] 23 0 [(6, .bool false)] ?_
   refine cont_forget 0 rfl ?_
   refine cont_done ?_
   refine then_normal ?_
   refine cont_ret ?_
   refine ret_one (.inl rfl) rfl 0 (.bool false) (by kernel_rfl) (by kernel_rfl) (fun w hT => ?_)
   exact ⟨ret_bool (by simp [hasB, *] <;> omega), hT.post rfl⟩
  replace c3_ := of_decide_eq_false c3_
  refine bS [0, 0, 0, 0, 0, 0, 0, 0, 0, 0, 0, 0] 23 0 [(6, .bool false)] ?_
  refine cont_forget 0 rfl ?_
  refine cont_done ?_
  refine then_normal ?_
  refine cont_ret ?_
  refine ret_one (.inl rfl) rfl 0 (.bool false) (by kernel_rfl) (by kernel_rfl) (fun w hT => ?_)
  exact ⟨ret_bool (by simp [hasB, *] <;> omega), hT.post rfl⟩
 replace c2_ := of_decide_eq_false c2_
 refine bS [0, 0, 0, 0, 0, 0, 0, 0, 0, 0, 0, 0, 0, 0, 0, 0, 0, 0] 23 0 [(6, .bool false)] ?_
 refine cont_forget 0 rfl ?_
 refine cont_done ?_
 refine then_normal ?_
 refine cont_ret ?_
 refine ret_one (.inl rfl) rfl 0 (.bool false) (by kernel_rfl) (by kernel_rfl) (fun w hT => ?_)
 exact ⟨ret_bool (by simp [hasB, *] <;> omega), hT.post rfl⟩

theorem sliceClone (r n cap : Nat) (px : List Int) (w : World) (hT0 : Tab w w [.gen (rdE (some ⟨r, 0, none⟩) r 0 n 1 (ivals .u32 px))]) (hn : 1 ≤ n ∧ n ≤ 65536) :
    Calls Try.prog 99 #[.slice (some ⟨r, 0, none⟩) n cap] w fun e w' => ∃ g cp : Nat, e = .returned (.slice (some ⟨g, 0, none⟩) n cp) ∧ Tab w w' [.gen (rowE (some ⟨g, 0, none⟩) g n cp 54 1 (ivals .u32 px) true)] := by
 refine enter 8 [(0, .slice (pB r) n cap)] [.gen (rdE (pB r) r 0 n 1 (ivals .u32 px))] Try.func99 rfl Try.ntmps99 rfl (by kernel_rfl) hT0 ?_
 refine cont_seq ?_
 refine cont_region 1 rfl ?_
 refine bS [0] 1 0 [(0, .slice (pB r) n cap)] ?_
 refine cont_done ?_
 refine then_normal ?_
 refine cont_seq ?_
 refine cont_seq ?_
 refine cont_region 2 rfl ?_
 refine bS [0, 0] 2 0 [(0, .slice (pB r) n cap), (4, .bool false)] ?_
 refine cont_done ?_
 refine then_normal ?_
 refine cont_false rfl ?_
 refine cont_skip ?_
 refine then_normal ?_
 refine cont_seq ?_
 refine cont_region 4 rfl ?_
 refine batch1 [0, 0] 2 2 (fun b1 => [(5, .slice (pB b1) 0 0), (6, .slice (pB r) n cap)]) (fun b1 => [.cells b1 [] 54 true, .gen (rdE (pB r) r 0 n 1 (ivals .u32 px))]) rfl rfl [5, 6] (fun _ => rfl) (fun b1 => by kernel_rfl) (fun b1 => by kernel_rfl) (fun b1 => ?_)
 refine pl_step 3 1 rfl rfl ?_
 refine cont_asRow 0 0 1 rfl (vals := ivals .u32 []) rfl rfl (by decide) ?_
 refine sem_stepW (α := Option Addr × Nat × Nat) 7 (Builtin.append_ #[88, 88] 88 #[.slice (pB b1) 0 0, .slice (pB r) n cap]) (fun x_ => .slice x_.1 n x_.2.2) (fun x_ => [.gen (rowE (x_.1) x_.2.1 n x_.2.2 54 1 (ivals .u32 px) true), .gen (rdE (pB r) r 0 n 1 (ivals .u32 px))]) (fun _ => True) (by kernel_rfl) (fun w hT => append_own (n' := n) (z := .int .u32 0) hT (i := 0) (bytes := 4) rfl (by kernel_rfl) (by kernel_rfl) rfl (by decide) (by decide) (hT.ok 1 _ rfl) (ivals_one .u32 px) (by omega) rfl (Nat.zero_add _).symm) ?_
 rintro ⟨A2, g2, cp2⟩ -
 refine cont_norm [(5, .slice (pB b1) 0 0), (6, .slice (pB r) n cap), (7, .slice A2 n cp2)] [.gen (rowE (A2) g2 n cp2 54 1 (ivals .u32 px) true), .gen (rdE (pB r) r 0 n 1 (ivals .u32 px))] (by kernel_rfl) rfl ?_
 refine cont_fact (F := (0 < n → (A2 : Option Addr) = pB g2) ∧ px.length = n ∧ n ≤ cp2 ∧ cp2 ≤ maxLen) (fun w hT => Row.facts (hT.ok 0 _ rfl)) (fun hr3_ => ?_)
 obtain ⟨hr3_a, hr3_l, hr3_c, hr3_m⟩ := hr3_
 unfold maxLen at hr3_m
 refine bS [0] 4 0 [(2, .slice A2 n cp2)] ?_
 refine cont_done ?_
 refine then_normal ?_
 refine cont_ret ?_
 refine ret_one (.inl rfl) rfl 0 (.slice A2 n cp2) (by kernel_rfl) (by kernel_rfl) (fun w hT => ?_)
 replace hT := hT.erase 1 (fun e h hw => by cases h; first | rfl | cases hw)
 have hA := (Row.facts (hT.ok 0 _ rfl)).1 (by omega)
 subst hA
 exact ⟨_, _, rfl, hT⟩

theorem imgClone (m : Nat) (W H : Int) (r n cap : Nat) (px : List Int) (w : World) (hI : ImgR 115 w m W H r n cap px) (hok : ImgOk W H n px) :
    Calls Try.prog 74 #[.pointer (some ⟨m, 0, none⟩)] w fun e w' => ∃ b g cp : Nat, e = .returned (.pointer (some ⟨b, 0, none⟩)) ∧ NewImg 115 54 w w' b W H g n cp px := by
 have hw1 := hok.w1
 have hw2 := hok.w2
 have hh1 := hok.h1
 have hh2 := hok.h2
 have hnum := hok.num
 have hlen := hok.len
 have hle := hok.le
 refine enter 18 [(0, .pointer (pB m))] [.ro m [iq W, iq H, .slice (pB r) n cap] 115, .gen (rdE (pB r) r 0 n 1 (ivals .u32 px))] Try.func74 rfl Try.ntmps74 rfl (by kernel_rfl) hI.tab ?_
 refine cont_seq ?_
 refine cont_region 1 rfl ?_
 refine bS [0] 1 0 [(0, .pointer (pB m))] ?_
 refine cont_done ?_
 refine then_normal ?_
 refine cont_seq ?_
 refine drawn_enter 16 [] rfl (by kernel_rfl) ?_
 refine takes 0 [] [(0, 0), (4, 0), (8, 0), (1, 0), (5, 0), (9, 0), (2, 0), (6, 0), (10, 0), (3, 0), (7, 0), (11, 0)] 4 [11, 7, 3, 10, 6, 2, 9, 5, 1, 8, 4, 0] [(6, iq W), (10, iq H), (14, .slice (pB r) n cap)] (by kernel_rfl) (pok_then pok_body) (by kernel_rfl) rfl rfl (by kernel_rfl) (by kernel_rfl) ?_
 refine drawn_one 12 3 rfl (by kernel_rfl) ?_
 refine call_gen (d := 15) (α := Nat × Nat) (fun x_ => .slice (pB x_.1) n x_.2) (fun x_ => [.gen (rowE (pB x_.1) x_.1 n x_.2 54 1 (ivals .u32 px) true), .ro m [iq W, iq H, .slice (pB r) n cap] 115, .gen (rdE (pB r) r 0 n 1 (ivals .u32 px))]) (fun x_ => True) (by kernel_rfl) (fun w hT => (sliceClone r n cap px w (hT.viewRo (.cons (i := 1) rfl Vw.rd .nil) rfl) (by omega)).mono fun e w' ⟨g1, cp2, he_, ht_⟩ => ⟨(g1, cp2), he_, trivial, hT.news ht_ rfl⟩) ?_
 rintro ⟨g1, cp2⟩ hf3_
 refine cont_norm [(6, iq W), (10, iq H), (14, .slice (pB r) n cap), (15, .slice (pB g1) n cp2)] [.gen (rowE (pB g1) g1 n cp2 54 1 (ivals .u32 px) true), .ro m [iq W, iq H, .slice (pB r) n cap] 115, .gen (rdE (pB r) r 0 n 1 (ivals .u32 px))] (by kernel_rfl) rfl ?_
 refine drawn_next 1 [] (by kernel_rfl) ?_
 refine takes 1 [] [(13, 0)] 2 [13, 12, 11, 7, 3, 10, 6, 2, 9, 5, 1, 8, 4, 0] [(16, .agg #[iq W, iq H, .slice (pB g1) n cp2])] (by kernel_rfl) (pok_then pok_body) (by kernel_rfl) rfl rfl (by kernel_rfl) (by kernel_rfl) ?_
 refine drawn_one 14 1 rfl (by kernel_rfl) ?_
 refine one_step1 0 (fun b4 => [(17, .pointer (pB b4))]) (fun b4 => [.cells b4 [iq W, iq H, .slice (pB g1) n cp2] 115 true, .gen (rowE (pB g1) g1 n cp2 54 1 (ivals .u32 px) true), .ro m [iq W, iq H, .slice (pB r) n cap] 115, .gen (rdE (pB r) r 0 n 1 (ivals .u32 px))]) (fun b4 => by kernel_rfl) (fun b4 => by kernel_rfl) (fun b4 => ?_)
 refine drawn_next 2 [] (by kernel_rfl) ?_
 refine takes 2 [] [(15, 0)] 0 [15, 14, 13, 12, 11, 7, 3, 10, 6, 2, 9, 5, 1, 8, 4, 0] [(2, .pointer (pB b4))] (by kernel_rfl) (pok_then pok_body) (by kernel_rfl) rfl rfl (by kernel_rfl) (by kernel_rfl) ?_
 refine drawn_done (by kernel_rfl) ?_
 refine then_normal ?_
 refine cont_ret ?_
 refine ret_one (.inl rfl) rfl 0 (.pointer (pB b4)) (by kernel_rfl) (by kernel_rfl) (fun w hT => ?_)
 replace hT := hT.erase 3 (fun e h hw => by cases h; first | rfl | cases hw)
 replace hT := hT.erase 2 (fun e h hw => by cases h; first | rfl | cases hw)
 exact ⟨_, _, _, rfl, newImg_of_tab hT⟩

end Go.Proofs.Ytgmonhehilcegaa

