/- Contracts of functions of the given program, printed by a program of this project. -/
import Derived.Test.YtimpjdfflffcfaaIm
import Derived.Test.YtimpjdfflffcfaaProg
import Derived.Test.YtimpjdfflffcfaaBs
set_option linter.unusedVariables false
set_option linter.unusedSimpArgs false
namespace Go.Proofs.Ytimpjdfflffcfaa
open Go Go.RowKit
set_option maxRecDepth 100000
set_option maxHeartbeats 8000000

theorem rectHas (a b c d x y : Int) (w : World) :
    Calls Try.prog 58 #[.agg #[.int .i64 a, .int .i64 b, .int .i64 c, .int .i64 d], .int .i64 x, .int .i64 y] w fun e w' => e = .returned (.bool (hasB a b c d x y)) ∧ Below w.heap.size w w' := by
  refine enter 29 [(0, .agg #[.int .i64 a, .int .i64 b, .int .i64 c, .int .i64 d]), (1, .int .i64 x), (2, .int .i64 y)] [] Try.func58 rfl Try.ntmps58 rfl (by kernel_rfl) (Tab.start w) ?_
  refine cont_seq ?_
  refine cont_region 2 rfl ?_
  refine batch1 [0, 0] 2 0 (fun b1 => [(1, .int .i64 x), (2, .int .i64 y), (3, .pointer (some ⟨b1, 0, none⟩))]) (fun b1 => [.cells b1 [.int .i64 a, .int .i64 b, .int .i64 c, .int .i64 d] 25 true]) rfl rfl [1, 2, 3] (fun _ => rfl) (fun b1 => by kernel_rfl) (fun b1 => by kernel_rfl) (fun b1 => ?_)
  refine cont_done ?_
  refine then_normal ?_
  refine cont_seq ?_
  refine cont_region 23 rfl ?_
  refine bS [0, 0, 0, 0, 0] 5 18 [(1, .int .i64 x), (2, .int .i64 y), (3, .pointer (some ⟨b1, 0, none⟩)), (11, .bool (decide (x ≥ a)))] ?_
  refine cont_split 11 (decide (x ≥ a)) rfl (fun c2_ => ?_) (fun c2_ => ?_)
  ·
    replace c2_ := of_decide_eq_true c2_
    refine bS [0, 0, 0, 0, 0, 0] 11 12 [(2, .int .i64 y), (3, .pointer (some ⟨b1, 0, none⟩)), (17, .bool (decide (x < c)))] ?_
    refine cont_split 17 (decide (x < c)) rfl (fun c3_ => ?_) (fun c3_ => ?_)
    ·
      replace c3_ := of_decide_eq_true c3_
      refine bS [0, 0, 0, 0, 0, 0] 17 6 [(2, .int .i64 y), (3, .pointer (some ⟨b1, 0, none⟩)), (23, .bool (decide (y ≥ b)))] ?_
      refine cont_split 23 (decide (y ≥ b)) rfl (fun c4_ => ?_) (fun c4_ => ?_)
      ·
        replace c4_ := of_decide_eq_true c4_
        refine bS [0, 0, 0, 0, 0, 0] 23 0 [(6, .bool (decide (y < d)))] ?_
        refine cont_forget 0 rfl ?_
        refine cont_done ?_
        refine then_normal ?_
        refine cont_ret ?_
        refine ret_one (.inl rfl) rfl 0 (.bool (decide (y < d))) (by kernel_rfl) (by kernel_rfl) (fun w hT => ?_)
        exact ⟨ret_bool (by simp [hasB, *] <;> omega), hT.post rfl⟩
      replace c4_ := of_decide_eq_false c4_
      refine bS [0, 0, 0, 0, 0, 0] 23 0 [(6, .bool false)] ?_
      refine cont_forget 0 rfl ?_
      refine cont_done ?_
      refine then_normal ?_
      refine cont_ret ?_
      refine ret_one (.inl rfl) rfl 0 (.bool false) (by kernel_rfl) (by kernel_rfl) (fun w hT => ?_)
      exact ⟨ret_bool (by simp [hasB, *] <;> omega), hT.post rfl⟩
    replace c3_ := of_decide_eq_false c3_
    refine bS [0, 0, 0, 0, 0, 0, 0, 0, 0, 0, 0, 0] 23 0 [(6, .bool false)] ?_
    refine cont_forget 0 rfl ?_
    refine cont_done ?_
    refine then_normal ?_
    refine cont_ret ?_
    refine ret_one (.inl rfl) rfl 0 (.bool false) (by kernel_rfl) (by kernel_rfl) (fun w hT => ?_)
    exact ⟨ret_bool (by simp [hasB, *] <;> omega), hT.post rfl⟩
  replace c2_ := of_decide_eq_false c2_
  refine bS [0, 0, 0, 0, 0, 0, 0, 0, 0, 0, 0, 0, 0, 0, 0, 0, 0, 0] 23 0 [(6, .bool false)] ?_
  refine cont_forget 0 rfl ?_
  refine cont_done ?_
  refine then_normal ?_
  refine cont_ret ?_
  refine ret_one (.inl rfl) rfl 0 (.bool false) (by kernel_rfl) (by kernel_rfl) (fun w hT => ?_)
  exact ⟨ret_bool (by simp [hasB, *] <;> omega), hT.post rfl⟩

theorem rectEmpty (a b c d : Int) (w : World) :
    Calls Try.prog 44 #[.agg #[.int .i64 a, .int .i64 b, .int .i64 c, .int .i64 d]] w fun e w' => e = .returned (.bool (emptyB a b c d)) ∧ Below w.heap.size w w' := by
  refine enter 15 [(0, .agg #[.int .i64 a, .int .i64 b, .int .i64 c, .int .i64 d])] [] Try.func44 rfl Try.ntmps44 rfl (by kernel_rfl) (Tab.start w) ?_
  refine cont_seq ?_
  refine cont_region 2 rfl ?_
  refine batch1 [0, 0] 2 0 (fun b1 => [(1, .pointer (some ⟨b1, 0, none⟩))]) (fun b1 => [.cells b1 [.int .i64 a, .int .i64 b, .int .i64 c, .int .i64 d] 25 true]) rfl rfl [1] (fun _ => rfl) (fun b1 => by kernel_rfl) (fun b1 => by kernel_rfl) (fun b1 => ?_)
  refine cont_done ?_
  refine then_normal ?_
  refine cont_seq ?_
  refine cont_region 13 rfl ?_
  refine bS [0, 0, 0, 0, 0, 0] 6 7 [(1, .pointer (some ⟨b1, 0, none⟩)), (8, .bool (decide (a ≥ c)))] ?_
  refine cont_split 8 (decide (a ≥ c)) rfl (fun c2_ => ?_) (fun c2_ => ?_)
  ·
    replace c2_ := of_decide_eq_true c2_
    refine bS [0, 0, 0, 0, 0, 0, 0] 13 0 [(2, .bool true)] ?_
    refine cont_forget 0 rfl ?_
    refine cont_done ?_
    refine then_normal ?_
    refine cont_ret ?_
    refine ret_one (.inl rfl) rfl 0 (.bool true) (by kernel_rfl) (by kernel_rfl) (fun w hT => ?_)
    exact ⟨ret_bool (by simp [emptyB, *] <;> omega), hT.post rfl⟩
  replace c2_ := of_decide_eq_false c2_
  refine bS [0, 0, 0, 0, 0, 0, 0] 13 0 [(2, .bool (decide (b ≥ d)))] ?_
  refine cont_forget 0 rfl ?_
  refine cont_done ?_
  refine then_normal ?_
  refine cont_ret ?_
  refine ret_one (.inl rfl) rfl 0 (.bool (decide (b ≥ d))) (by kernel_rfl) (by kernel_rfl) (fun w hT => ?_)
  exact ⟨ret_bool (by simp [emptyB, *] <;> omega), hT.post rfl⟩

theorem rectArea (a b c d : Int) (w : World) (h0 : -2000000 ≤ a ∧ a ≤ 2000000) (h1 : -2000000 ≤ b ∧ b ≤ 2000000) (h2 : -2000000 ≤ c ∧ c ≤ 2000000) (h3 : -2000000 ≤ d ∧ d ≤ 2000000) :
    Calls Try.prog 59 #[.agg #[.int .i64 a, .int .i64 b, .int .i64 c, .int .i64 d]] w fun e w' => e = .returned (.int .i64 (areaI a b c d)) ∧ Below w.heap.size w w' := by
  refine enter 16 [(0, .agg #[.int .i64 a, .int .i64 b, .int .i64 c, .int .i64 d])] [] Try.func59 rfl Try.ntmps59 rfl (by kernel_rfl) (Tab.start w) ?_
  refine cont_seq ?_
  refine cont_region 2 rfl ?_
  refine batch1 [0, 0] 2 0 (fun b1 => [(1, .pointer (some ⟨b1, 0, none⟩))]) (fun b1 => [.cells b1 [.int .i64 a, .int .i64 b, .int .i64 c, .int .i64 d] 25 true]) rfl rfl [1] (fun _ => rfl) (fun b1 => by kernel_rfl) (fun b1 => by kernel_rfl) (fun b1 => ?_)
  refine cont_done ?_
  refine then_normal ?_
  refine cont_seq ?_
  refine cont_seq ?_
  refine cont_region 2 rfl ?_
  refine bS [0] 1 1 [(1, .pointer (some ⟨b1, 0, none⟩)), (3, .agg #[.int .i64 a, .int .i64 b, .int .i64 c, .int .i64 d])] ?_
  refine pl_step 2 0 rfl rfl ?_
  refine call_pure (d := 4) (.bool (emptyB a b c d)) (by kernel_rfl) (fun w hT => rectEmpty a b c d w) ?_
  refine cont_done ?_
  refine then_normal ?_
  refine cont_split 4 (emptyB a b c d) rfl (fun c2_ => ?_) (fun c2_ => ?_)
  ·
    refine cont_true rfl ?_
    refine cont_seq ?_
    refine cont_region 1 rfl ?_
    refine bS [0] 1 0 [(2, .int .i64 0)] ?_
    refine cont_forget 0 rfl ?_
    refine cont_done ?_
    refine then_normal ?_
    refine cont_ret ?_
    refine then_ret ?_
    refine ret_one (.inl rfl) rfl 0 (.int .i64 0) (by kernel_rfl) (by kernel_rfl) (fun w hT => ?_)
    exact ⟨ret_int (by simp [areaI, *]), hT.post rfl⟩
  have hem := emptyB_false.1 c2_
  have hp : (c - a) * (d - b) ≤ 4000000 * 4000000 := mul_le_of (by omega) (by omega) (by omega) (by omega)
  have hq : 0 ≤ (c - a) * (d - b) := Int.mul_nonneg (by omega) (by omega)
  refine cont_false rfl ?_
  refine cont_skip ?_
  refine then_normal ?_
  refine cont_seq ?_
  refine cont_region 12 rfl ?_
  refine bS [0, 0, 0, 0, 0] 5 7 [(1, .pointer (some ⟨b1, 0, none⟩)), (9, .int .i64 (IntKind.i64.wrap (c - a)))] ?_
  refine cont_recast 9 (.int .i64 (IntKind.i64.wrap (c - a))) (.int .i64 (c - a)) rfl (wrapI (by omega) (by omega)) ?_
  refine bS [0, 0, 0, 0, 0] 10 2 [(9, .int .i64 (c - a)), (14, .int .i64 (IntKind.i64.wrap (d - b)))] ?_
  refine cont_recast 14 (.int .i64 (IntKind.i64.wrap (d - b))) (.int .i64 (d - b)) rfl (wrapI (by omega) (by omega)) ?_
  refine cont_forget 0 rfl ?_
  refine bS [0] 11 1 [(15, .int .i64 (IntKind.i64.wrap ((c - a) * (d - b))))] ?_
  refine cont_recast 15 (.int .i64 (IntKind.i64.wrap ((c - a) * (d - b)))) (.int .i64 ((c - a) * (d - b))) rfl (wrapI (by omega) (by omega)) ?_
  refine bS [0] 12 0 [(2, .int .i64 ((c - a) * (d - b)))] ?_
  refine cont_done ?_
  refine then_normal ?_
  refine cont_ret ?_
  refine ret_one (.inl rfl) rfl 0 (.int .i64 ((c - a) * (d - b))) (by kernel_rfl) (by kernel_rfl) (fun w hT => ?_)
  exact ⟨ret_int (by simp [areaI, *]), hT.post rfl⟩

end Go.Proofs.Ytimpjdfflffcfaa
