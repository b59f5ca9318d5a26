/- Contracts of functions of the given program, printed by a program of this project. -/
import Derived.Test.YtgmonhehilcegaaPeL4
import Derived.Test.YtgmonhehilcegaaPeIc
import Derived.Test.YtgmonhehilcegaaProg
set_option linter.unusedVariables false
set_option linter.unusedSimpArgs false
namespace Go.Proofs.Ytgmonhehilcegaa
open Go Go.RowKit
set_option maxRecDepth 100000
set_option maxHeartbeats 8000000

theorem refAround (n m : Int) (w : World) (hn : -9223372036854775808 ≤ n ∧ n ≤ 9223372036854775807) (hm : 1 ≤ m ∧ m ≤ 9223372036854775807) :
    Calls Try.prog 18 #[.int .i64 n, .int .i64 m] w fun e w' => e = .returned (.int .i64 (aroundI n m)) ∧ Below w.heap.size w w' := by
 refine enter 13 [(0, iq n), (1, iq m)] [] Try.func18 rfl Try.ntmps18 rfl (by kernel_rfl) (Tab.start w) ?_
 refine cont_seq ?_
 refine cont_region 1 rfl ?_
 refine bS [0] 1 0 [(0, iq n), (1, iq m)] ?_
 refine cont_done ?_
 refine then_normal ?_
 refine cont_seq ?_
 refine cont_seq ?_
 refine cont_region 2 rfl ?_
 refine bS [0, 0] 2 0 [(0, iq n), (1, iq m), (6, .bool (decide (n < 0)))] ?_
 refine cont_done ?_
 refine then_normal ?_
 refine cont_split 6 (decide (n < 0)) rfl (fun c1_ => ?_) (fun c1_ => ?_)
 ·
  replace c1_ := of_decide_eq_true c1_
  refine cont_true rfl ?_
  refine cont_region 4 rfl ?_
  refine bS [0, 0] 2 2 [(1, iq m), (8, iq (IntKind.i64.wrap (n + 1)))] ?_
  refine cont_recast 8 (iq (IntKind.i64.wrap (n + 1))) (iq (n + 1)) rfl (wrapI (by omega) (by omega)) ?_
  refine bS [0] 3 1 [(1, iq m), (9, iq (IntKind.i64.wrap (0 - (n + 1))))] ?_
  refine cont_recast 9 (iq (IntKind.i64.wrap (0 - (n + 1)))) (iq (0 - (n + 1))) rfl (wrapI (by omega) (by omega)) ?_
  refine bS [0] 4 0 [(0, iq (0 - (n + 1))), (1, iq m)] ?_
  refine cont_done ?_
  refine then_normal ?_
  refine cont_seq ?_
  refine cont_region 4 rfl ?_
  refine bS [0, 0] 2 2 [(10, iq (0 - (n + 1))), (11, iq m)] ?_
  refine pl_step 3 1 rfl rfl ?_
  refine sem_step 12 (bopS .rem 3 (.tmp 10) (.tmp 11) (iq (0 - (n + 1))) (iq m)) (iq ((0 - (n + 1)).tmod m)) (by kernel_rfl) (fun w hT => run_rem (by omega) w) ?_
  refine cont_recast 12 (iq ((0 - (n + 1)).tmod m)) (iq ((0 - (n + 1)) % m)) rfl (tmodI (by omega)) ?_
  refine bS [0] 4 0 [(4, iq ((0 - (n + 1)) % m))] ?_
  refine cont_done ?_
  refine then_normal ?_
  refine cont_ret ?_
  refine ret_one (.inl rfl) rfl 0 (iq ((0 - (n + 1)) % m)) (by kernel_rfl) (by kernel_rfl) (fun w hT => ?_)
  exact ⟨ret_int (by simp [aroundI, *]), hT.post rfl⟩
 replace c1_ := of_decide_eq_false c1_
 refine cont_false rfl ?_
 refine cont_skip ?_
 refine then_normal ?_
 refine cont_seq ?_
 refine cont_region 4 rfl ?_
 refine bS [0, 0] 2 2 [(10, iq n), (11, iq m)] ?_
 refine pl_step 3 1 rfl rfl ?_
 refine sem_step 12 (bopS .rem 3 (.tmp 10) (.tmp 11) (iq n) (iq m)) (iq (n.tmod m)) (by kernel_rfl) (fun w hT => run_rem (by omega) w) ?_
 refine cont_recast 12 (iq (n.tmod m)) (iq (n % m)) rfl (tmodI (by omega)) ?_
 refine bS [0] 4 0 [(4, iq (n % m))] ?_
 refine cont_done ?_
 refine then_normal ?_
 refine cont_ret ?_
 refine ret_one (.inl rfl) rfl 0 (iq (n % m)) (by kernel_rfl) (by kernel_rfl) (fun w hT => ?_)
 exact ⟨ret_int (by simp [aroundI, *]), hT.post rfl⟩

theorem refHas (a b c d x y : Int) (w : World) :
    Calls Try.prog 49 #[.agg #[.int .i64 a, .int .i64 b, .int .i64 c, .int .i64 d], .int .i64 x, .int .i64 y] w fun e w' => e = .returned (.bool (hasB a b c d x y)) ∧ Below w.heap.size w w' := by
 refine enter 29 [(0, .agg #[iq a, iq b, iq c, iq d]), (1, iq x), (2, iq y)] [] Try.func49 rfl Try.ntmps49 rfl (by kernel_rfl) (Tab.start w) ?_
 refine cont_seq ?_
 refine cont_region 2 rfl ?_
 refine batch1 [0, 0] 2 0 (fun b1 => [(1, iq x), (2, iq y), (3, .pointer (pB b1))]) (fun b1 => [.cells b1 [iq a, iq b, iq c, iq d] 28 true]) rfl rfl [1, 2, 3] (fun _ => rfl) (fun b1 => by kernel_rfl) (fun b1 => by kernel_rfl) (fun b1 => ?_)
 refine cont_done ?_
 refine then_normal ?_
 refine cont_seq ?_
 refine cont_region 23 rfl ?_
 refine bS [0, 0, 0, 0, 0] 5 18 [(1, iq x), (2, iq y), (3, .pointer (pB b1)), (11, .bool (decide (a ≤ x)))] ?_
 refine cont_split 11 (decide (a ≤ x)) rfl (fun c2_ => ?_) (fun c2_ => ?_)
 ·
  replace c2_ := of_decide_eq_true c2_
  refine bS [0, 0, 0, 0, 0, 0] 11 12 [(2, iq y), (3, .pointer (pB b1)), (17, .bool (decide (x < c)))] ?_
  refine cont_split 17 (decide (x < c)) rfl (fun c3_ => ?_) (fun c3_ => ?_)
  ·
   replace c3_ := of_decide_eq_true c3_
   refine bS [0, 0, 0, 0, 0, 0] 17 6 [(2, iq y), (3, .pointer (pB b1)), (23, .bool (decide (b ≤ y)))] ?_
   refine cont_split 23 (decide (b ≤ y)) rfl (fun c4_ => ?_) (fun c4_ => ?_)
   ·
    replace c4_ := of_decide_eq_true c4_
    refine bS [0, 0, 0, 0, 0, 0] 23 0 [(6, .bool (decide (y < d)))] ?_
    refine cont_forget 0 rfl ?_
    refine cont_done ?_
    refine then_normal ?_
    refine cont_ret ?_
    refine ret_one (.inl rfl) rfl 0 (.bool (decide (y < d))) (by kernel_rfl) (by kernel_rfl) (fun w hT => ?_)
    exact ⟨ret_bool (by simp [hasB, *] <;> omega), hT.post rfl⟩
   replace c4_ := of_decide_eq_false c4_
   refine bS [0, 0, 0, 0, 0, 0] 23 0 [(6, .bool false)] ?_
   refine cont_forget 0 rfl ?_
   refine cont_done ?_
   refine then_normal ?_
   refine cont_ret ?_
   refine ret_one (.inl rfl) rfl 0 (.bool false) (by kernel_rfl) (by kernel_rfl) (fun w hT => ?_)
   exact ⟨ret_bool (by simp [hasB, *] <;> omega), hT.post rfl⟩
  replace c3_ := of_decide_eq_false c3_
  refine bS [0, 0, 0, 0, 0, 0, 0, 0, 0, 0, 0, 0] 23 0 [(6, .bool false)] ?_
  refine cont_forget 0 rfl ?_
  refine cont_done ?_
  refine then_normal ?_
  refine cont_ret ?_
  refine ret_one (.inl rfl) rfl 0 (.bool false) (by kernel_rfl) (by kernel_rfl) (fun w hT => ?_)
  exact ⟨ret_bool (by simp [hasB, *] <;> omega), hT.post rfl⟩
 replace c2_ := of_decide_eq_false c2_
 refine bS [0, 0, 0, 0, 0, 0, 0, 0, 0, 0, 0, 0, 0, 0, 0, 0, 0, 0] 23 0 [(6, .bool false)] ?_
 refine cont_forget 0 rfl ?_
 refine cont_done ?_
 refine then_normal ?_
 refine cont_ret ?_
 refine ret_one (.inl rfl) rfl 0 (.bool false) (by kernel_rfl) (by kernel_rfl) (fun w hT => ?_)
 exact ⟨ret_bool (by simp [hasB, *] <;> omega), hT.post rfl⟩

end Go.Proofs.Ytgmonhehilcegaa

