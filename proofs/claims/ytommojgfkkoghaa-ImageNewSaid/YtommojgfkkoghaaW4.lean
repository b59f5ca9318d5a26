/- Contracts of functions of the given program, printed by a program of this project. -/
import Derived.Test.YtommojgfkkoghaaL4
import Derived.Test.YtommojgfkkoghaaProg
set_option linter.unusedVariables false
set_option linter.unusedSimpArgs false
namespace Go.Proofs.Ytommojgfkkoghaa
open Go Go.RowKit
set_option maxRecDepth 100000

theorem lives4 (w : World) :
    Calls Try.prog 13 #[] w fun e w' => e = .returned (.bool true) ∧ Below w.heap.size w w' := by
  refine enter 17 [] [] Try.func13 rfl Try.ntmps13 rfl (by kernel_rfl) (Tab.start w) ?_
  refine cont_seq ?_
  refine cont_region 1 rfl ?_
  refine batch0 [0] 1 0 [] [] rfl rfl (by kernel_rfl) (by kernel_rfl) ?_
  refine cont_done ?_
  refine then_normal ?_
  refine cont_seq ?_
  refine cont_region 6 rfl ?_
  refine pl_step 1 5 rfl rfl ?_
  refine call_gen (d := 4) (α := Nat × Nat × Nat) (fun x_ => .tuple #[.pointer (some ⟨x_.1, 0, none⟩), .int .i64 0]) (fun x_ => [.cells x_.1 [.int .i64 3, .int .i64 3, .slice (some ⟨x_.2.1, 0, none⟩) x_.2.2 x_.2.2] 84 true, .gen (rowE (some ⟨x_.2.1, 0, none⟩) x_.2.1 x_.2.2 x_.2.2 28 1 (ivals .u32 (List.replicate x_.2.2 0)) true)]) (fun x_ => (x_.2.2 : Int) = 3 * 3) (by kernel_rfl) (fun w hT => (imgNew 3 3 w (by decide)).mono fun e w' ⟨b_, r_, n_, he_, hn_, hi_⟩ => ⟨(b_, r_, n_), he_, hn_, hT.addImg hi_⟩) ?_
  rintro ⟨b1, r1, n1⟩ hn1
  replace hn1 : (n1 : Int) = 3 * 3 := hn1
  show Cont _ _ _ [(4, .tuple #[.pointer (some ⟨b1, 0, none⟩), .int .i64 0])] [.cells b1 [.int .i64 3, .int .i64 3, .slice (some ⟨r1, 0, none⟩) n1 n1] 84 true, .gen (rowE (some ⟨r1, 0, none⟩) r1 n1 n1 28 1 (ivals .u32 (List.replicate n1 0)) true)]
  refine batch0 [0, 0, 0, 0, 0] 6 0 [(1, .pointer (some ⟨b1, 0, none⟩)), (2, .int .i64 0)] [.cells b1 [.int .i64 3, .int .i64 3, .slice (some ⟨r1, 0, none⟩) n1 n1] 84 true, .gen (rowE (some ⟨r1, 0, none⟩) r1 n1 n1 28 1 (ivals .u32 (List.replicate n1 0)) true)] rfl rfl (by kernel_rfl) (by kernel_rfl) ?_
  refine cont_done ?_
  refine then_normal ?_
  refine cont_seq ?_
  refine cont_seq ?_
  refine cont_region 6 rfl ?_
  refine batch0 [0, 0, 0, 0, 0, 0] 6 0 [(1, .pointer (some ⟨b1, 0, none⟩)), (12, .bool false)] [.cells b1 [.int .i64 3, .int .i64 3, .slice (some ⟨r1, 0, none⟩) n1 n1] 84 true, .gen (rowE (some ⟨r1, 0, none⟩) r1 n1 n1 28 1 (ivals .u32 (List.replicate n1 0)) true)] rfl rfl (by kernel_rfl) (by kernel_rfl) ?_
  refine cont_done ?_
  refine then_normal ?_
  refine cont_false rfl ?_
  refine cont_skip ?_
  refine then_normal ?_
  refine cont_seq ?_
  refine cont_region 5 rfl ?_
  refine batch0 [0, 0] 2 3 [(13, .pointer (some ⟨b1, 0, none⟩)), (14, .agg #[.int .i64 1, .int .i64 1, .int .i64 9, .int .i64 9])] [.cells b1 [.int .i64 3, .int .i64 3, .slice (some ⟨r1, 0, none⟩) n1 n1] 84 true, .gen (rowE (some ⟨r1, 0, none⟩) r1 n1 n1 28 1 (ivals .u32 (List.replicate n1 0)) true)] rfl rfl (by kernel_rfl) (by kernel_rfl) ?_
  refine pl_step 3 2 rfl rfl ?_
  refine call_gen (d := 15) (α := Unit) (fun _ => .int .i64 (fillN 3 3 1 1 9 9 4278190080)) (fun _ => [.cells b1 [.int .i64 3, .int .i64 3, .slice (some ⟨r1, 0, none⟩) n1 n1] 84 true, .gen (rowE (some ⟨r1, 0, none⟩) r1 n1 n1 28 1 (ivals .u32 (fillA 3 3 (List.replicate n1 0) 1 1 9 9 4278190080)) true)]) (fun _ => True) (by kernel_rfl) (fun w hT => (imgFill b1 3 3 r1 n1 n1 (List.replicate n1 0) 1 1 9 9 4278190080 w ⟨hT.ok 0 _ rfl, hT.ok 1 _ rfl, fun hne => hT.disj 0 1 _ _ (by omega) rfl rfl (.inr rfl) _ rfl ⟨hne, by simp⟩⟩ (imgOk_new (by decide) hn1) ⟨by omega, by omega⟩).mono fun e w' ⟨he_, hk_, hr_⟩ => ⟨(), he_, trivial, hT.keepBut hk_ (i := 1) rfl hr_⟩) (fun _ _ => ?_)
  refine batch0 [0, 0] 5 0 [(0, .bool ((fillN 3 3 1 1 9 9 4278190080) == 4))] [.cells b1 [.int .i64 3, .int .i64 3, .slice (some ⟨r1, 0, none⟩) n1 n1] 84 true, .gen (rowE (some ⟨r1, 0, none⟩) r1 n1 n1 28 1 (ivals .u32 (fillA 3 3 (List.replicate n1 0) 1 1 9 9 4278190080)) true)] rfl rfl (by kernel_rfl) (by kernel_rfl) ?_
  refine cont_forget 0 rfl ?_
  refine cont_done ?_
  refine then_normal ?_
  refine cont_ret ?_
  refine ret_one (.inl rfl) rfl 0 (.bool ((fillN 3 3 1 1 9 9 4278190080) == 4)) (by kernel_rfl) (by kernel_rfl) (fun w hT => ?_)
  exact ⟨ret_bool (by decide +kernel), hT.post rfl⟩

theorem walkImageNew (w_ h_ : Int) (w : World) (hw : -9223372036854775808 ≤ w_ ∧ w_ ≤ 9223372036854775807) (hh : -9223372036854775808 ≤ h_ ∧ h_ ≤ 9223372036854775807) :
    Calls Try.prog 3 #[.int .i64 w_, .int .i64 h_] w fun e w' => e = .returned (.bool true) ∧ Below w.heap.size w w' := by
  refine enter 107 [(0, .int .i64 w_), (1, .int .i64 h_)] [] Try.func3 rfl Try.ntmps3 rfl (by kernel_rfl) (Tab.start w) ?_
  refine cont_seq ?_
  refine cont_region 1 rfl ?_
  refine batch0 [0] 1 0 [(0, .int .i64 w_), (1, .int .i64 h_)] [] rfl rfl (by kernel_rfl) (by kernel_rfl) ?_
  refine cont_done ?_
  refine then_normal ?_
  refine cont_seq ?_
  refine cont_region 8 rfl ?_
  refine batch0 [0, 0] 2 6 [(0, .int .i64 w_), (1, .int .i64 h_), (15, .int .i64 w_), (16, .int .i64 h_)] [] rfl rfl (by kernel_rfl) (by kernel_rfl) ?_
  refine pl_step 3 5 rfl rfl ?_
  by_cases hs2_ : 1 ≤ w_ ∧ w_ ≤ 256 ∧ 1 ≤ h_ ∧ h_ ≤ 256
  ·
    refine call_gen (d := 17) (α := Nat × Nat × Nat) (fun x_ => .tuple #[.pointer (some ⟨x_.1, 0, none⟩), .int .i64 0]) (fun x_ => [.cells x_.1 [.int .i64 w_, .int .i64 h_, .slice (some ⟨x_.2.1, 0, none⟩) x_.2.2 x_.2.2] 84 true, .gen (rowE (some ⟨x_.2.1, 0, none⟩) x_.2.1 x_.2.2 x_.2.2 28 1 (ivals .u32 (List.replicate x_.2.2 0)) true)]) (fun x_ => (x_.2.2 : Int) = w_ * h_) (by kernel_rfl) (fun w hT => (imgNew w_ h_ w hs2_).mono fun e w' ⟨b_, r_, n_, he_, hn_, hi_⟩ => ⟨(b_, r_, n_), he_, hn_, hT.addImg hi_⟩) ?_
    rintro ⟨b1, r1, n1⟩ hn1
    replace hn1 : (n1 : Int) = w_ * h_ := hn1
    show Cont _ _ _ [(17, .tuple #[.pointer (some ⟨b1, 0, none⟩), .int .i64 0]), (0, .int .i64 w_), (1, .int .i64 h_), (15, .int .i64 w_), (16, .int .i64 h_)] [.cells b1 [.int .i64 w_, .int .i64 h_, .slice (some ⟨r1, 0, none⟩) n1 n1] 84 true, .gen (rowE (some ⟨r1, 0, none⟩) r1 n1 n1 28 1 (ivals .u32 (List.replicate n1 0)) true)]
    refine batch0 [0, 0, 0, 0, 0] 8 0 [(0, .int .i64 w_), (1, .int .i64 h_), (5, .pointer (some ⟨b1, 0, none⟩)), (6, .int .i64 0)] [.cells b1 [.int .i64 w_, .int .i64 h_, .slice (some ⟨r1, 0, none⟩) n1 n1] 84 true, .gen (rowE (some ⟨r1, 0, none⟩) r1 n1 n1 28 1 (ivals .u32 (List.replicate n1 0)) true)] rfl rfl (by kernel_rfl) (by kernel_rfl) ?_
    refine cont_done ?_
    refine then_normal ?_
    refine cont_seq ?_
    refine cont_region 15 rfl ?_
    refine batch0 [0, 0, 0] 3 12 [(0, .int .i64 w_), (1, .int .i64 h_), (5, .pointer (some ⟨b1, 0, none⟩)), (6, .int .i64 0), (22, .bool (decide (w_ ≥ 1)))] [.cells b1 [.int .i64 w_, .int .i64 h_, .slice (some ⟨r1, 0, none⟩) n1 n1] 84 true, .gen (rowE (some ⟨r1, 0, none⟩) r1 n1 n1 28 1 (ivals .u32 (List.replicate n1 0)) true)] rfl rfl (by kernel_rfl) (by kernel_rfl) ?_
    refine cont_recast 22 (.bool (decide (w_ ≥ 1))) (.bool true) rfl (congrArg Value.bool (decide_eq_true (by omega))) ?_
    refine batch0 [0, 0, 0, 0] 7 8 [(0, .int .i64 w_), (1, .int .i64 h_), (5, .pointer (some ⟨b1, 0, none⟩)), (6, .int .i64 0), (26, .bool (decide (w_ ≤ 256)))] [.cells b1 [.int .i64 w_, .int .i64 h_, .slice (some ⟨r1, 0, none⟩) n1 n1] 84 true, .gen (rowE (some ⟨r1, 0, none⟩) r1 n1 n1 28 1 (ivals .u32 (List.replicate n1 0)) true)] rfl rfl (by kernel_rfl) (by kernel_rfl) ?_
    refine cont_recast 26 (.bool (decide (w_ ≤ 256))) (.bool true) rfl (congrArg Value.bool (decide_eq_true (by omega))) ?_
    refine batch0 [0, 0, 0, 0] 11 4 [(0, .int .i64 w_), (1, .int .i64 h_), (5, .pointer (some ⟨b1, 0, none⟩)), (6, .int .i64 0), (30, .bool (decide (h_ ≥ 1)))] [.cells b1 [.int .i64 w_, .int .i64 h_, .slice (some ⟨r1, 0, none⟩) n1 n1] 84 true, .gen (rowE (some ⟨r1, 0, none⟩) r1 n1 n1 28 1 (ivals .u32 (List.replicate n1 0)) true)] rfl rfl (by kernel_rfl) (by kernel_rfl) ?_
    refine cont_recast 30 (.bool (decide (h_ ≥ 1))) (.bool true) rfl (congrArg Value.bool (decide_eq_true (by omega))) ?_
    refine batch0 [0, 0, 0, 0] 15 0 [(0, .int .i64 w_), (1, .int .i64 h_), (5, .pointer (some ⟨b1, 0, none⟩)), (6, .int .i64 0), (7, .bool (decide (h_ ≤ 256)))] [.cells b1 [.int .i64 w_, .int .i64 h_, .slice (some ⟨r1, 0, none⟩) n1 n1] 84 true, .gen (rowE (some ⟨r1, 0, none⟩) r1 n1 n1 28 1 (ivals .u32 (List.replicate n1 0)) true)] rfl rfl (by kernel_rfl) (by kernel_rfl) ?_
    refine cont_done ?_
    refine then_normal ?_
    refine cont_seq ?_
    refine cont_seq ?_
    refine cont_region 18 rfl ?_
    refine batch0 [0, 0, 0] 3 15 [(0, .int .i64 w_), (1, .int .i64 h_), (5, .pointer (some ⟨b1, 0, none⟩)), (6, .int .i64 0), (7, .bool (decide (h_ ≤ 256))), (35, .bool true), (36, .bool (decide (h_ ≤ 256)))] [.cells b1 [.int .i64 w_, .int .i64 h_, .slice (some ⟨r1, 0, none⟩) n1 n1] 84 true, .gen (rowE (some ⟨r1, 0, none⟩) r1 n1 n1 28 1 (ivals .u32 (List.replicate n1 0)) true)] rfl rfl (by kernel_rfl) (by kernel_rfl) ?_
    refine cont_recast 36 (.bool (decide (h_ ≤ 256))) (.bool true) rfl (congrArg Value.bool (decide_eq_true (by omega))) ?_
    refine cont_recast 7 (.bool (decide (h_ ≤ 256))) (.bool true) rfl (congrArg Value.bool (decide_eq_true (by omega))) ?_
    refine batch0 [0, 0, 0, 0, 0, 0, 0, 0, 0, 0, 0, 0, 0, 0, 0] 18 0 [(0, .int .i64 w_), (1, .int .i64 h_), (5, .pointer (some ⟨b1, 0, none⟩)), (51, .bool false)] [.cells b1 [.int .i64 w_, .int .i64 h_, .slice (some ⟨r1, 0, none⟩) n1 n1] 84 true, .gen (rowE (some ⟨r1, 0, none⟩) r1 n1 n1 28 1 (ivals .u32 (List.replicate n1 0)) true)] rfl rfl (by kernel_rfl) (by kernel_rfl) ?_
    refine cont_done ?_
    refine then_normal ?_
    refine cont_false rfl ?_
    refine cont_skip ?_
    refine then_normal ?_
    refine cont_seq ?_
    refine cont_seq ?_
    refine cont_region 2 rfl ?_
    refine batch0 [0, 0] 2 0 [(0, .int .i64 w_), (1, .int .i64 h_), (5, .pointer (some ⟨b1, 0, none⟩)), (53, .bool false)] [.cells b1 [.int .i64 w_, .int .i64 h_, .slice (some ⟨r1, 0, none⟩) n1 n1] 84 true, .gen (rowE (some ⟨r1, 0, none⟩) r1 n1 n1 28 1 (ivals .u32 (List.replicate n1 0)) true)] rfl rfl (by kernel_rfl) (by kernel_rfl) ?_
    refine cont_done ?_
    refine then_normal ?_
    refine cont_false rfl ?_
    refine cont_skip ?_
    refine then_normal ?_
    refine cont_seq ?_
    refine cont_region 11 rfl ?_
    refine batch0 [0, 0, 0] 3 8 [(0, .int .i64 w_), (1, .int .i64 h_), (5, .pointer (some ⟨b1, 0, none⟩)), (56, .pointer (some ⟨b1, 0, none⟩)), (58, .int .i64 (IntKind.i64.wrap (w_ - 1)))] [.cells b1 [.int .i64 w_, .int .i64 h_, .slice (some ⟨r1, 0, none⟩) n1 n1] 84 true, .gen (rowE (some ⟨r1, 0, none⟩) r1 n1 n1 28 1 (ivals .u32 (List.replicate n1 0)) true)] rfl rfl (by kernel_rfl) (by kernel_rfl) ?_
    refine cont_recast 58 (.int .i64 (IntKind.i64.wrap (w_ - 1))) (.int .i64 (w_ - 1)) rfl (wrapI (by omega) (by omega)) ?_
    refine batch0 [0, 0] 5 6 [(0, .int .i64 w_), (1, .int .i64 h_), (5, .pointer (some ⟨b1, 0, none⟩)), (56, .pointer (some ⟨b1, 0, none⟩)), (58, .int .i64 (w_ - 1)), (60, .int .i64 (IntKind.i64.wrap (h_ - 1)))] [.cells b1 [.int .i64 w_, .int .i64 h_, .slice (some ⟨r1, 0, none⟩) n1 n1] 84 true, .gen (rowE (some ⟨r1, 0, none⟩) r1 n1 n1 28 1 (ivals .u32 (List.replicate n1 0)) true)] rfl rfl (by kernel_rfl) (by kernel_rfl) ?_
    refine cont_recast 60 (.int .i64 (IntKind.i64.wrap (h_ - 1))) (.int .i64 (h_ - 1)) rfl (wrapI (by omega) (by omega)) ?_
    refine pl_step 6 5 rfl rfl ?_
    refine call_pure (d := 61) (.tuple #[.int .u32 (atC w_ h_ (List.replicate n1 0) (w_ - 1) (h_ - 1)), .bool (hasB 0 0 w_ h_ (w_ - 1) (h_ - 1))]) (by kernel_rfl) (fun w hT => imgAt b1 w_ h_ r1 n1 n1 (List.replicate n1 0) (w_ - 1) (h_ - 1) w ⟨hT.ok 0 _ rfl, Row.rd (hT.ok 1 _ rfl), Row.capLe (hT.ok 1 _ rfl)⟩ (imgOk_new hs2_ hn1)) ?_
    refine batch0 [0, 0, 0, 0, 0] 11 0 [(0, .int .i64 w_), (1, .int .i64 h_), (5, .pointer (some ⟨b1, 0, none⟩)), (8, .int .u32 (atC w_ h_ (List.replicate n1 0) (w_ - 1) (h_ - 1))), (9, .bool (hasB 0 0 w_ h_ (w_ - 1) (h_ - 1)))] [.cells b1 [.int .i64 w_, .int .i64 h_, .slice (some ⟨r1, 0, none⟩) n1 n1] 84 true, .gen (rowE (some ⟨r1, 0, none⟩) r1 n1 n1 28 1 (ivals .u32 (List.replicate n1 0)) true)] rfl rfl (by kernel_rfl) (by kernel_rfl) ?_
    refine cont_done ?_
    refine then_normal ?_
    refine cont_seq ?_
    refine cont_region 10 rfl ?_
    refine batch0 [0, 0, 0, 0] 4 6 [(0, .int .i64 w_), (1, .int .i64 h_), (5, .pointer (some ⟨b1, 0, none⟩)), (8, .int .u32 (atC w_ h_ (List.replicate n1 0) (w_ - 1) (h_ - 1))), (9, .bool (hasB 0 0 w_ h_ (w_ - 1) (h_ - 1))), (65, .pointer (some ⟨b1, 0, none⟩)), (66, .int .i64 w_), (68, .int .i64 (IntKind.i64.wrap (h_ - 1)))] [.cells b1 [.int .i64 w_, .int .i64 h_, .slice (some ⟨r1, 0, none⟩) n1 n1] 84 true, .gen (rowE (some ⟨r1, 0, none⟩) r1 n1 n1 28 1 (ivals .u32 (List.replicate n1 0)) true)] rfl rfl (by kernel_rfl) (by kernel_rfl) ?_
    refine cont_recast 68 (.int .i64 (IntKind.i64.wrap (h_ - 1))) (.int .i64 (h_ - 1)) rfl (wrapI (by omega) (by omega)) ?_
    refine pl_step 5 5 rfl rfl ?_
    refine call_pure (d := 69) (.tuple #[.int .u32 (atC w_ h_ (List.replicate n1 0) w_ (h_ - 1)), .bool (hasB 0 0 w_ h_ w_ (h_ - 1))]) (by kernel_rfl) (fun w hT => imgAt b1 w_ h_ r1 n1 n1 (List.replicate n1 0) w_ (h_ - 1) w ⟨hT.ok 0 _ rfl, Row.rd (hT.ok 1 _ rfl), Row.capLe (hT.ok 1 _ rfl)⟩ (imgOk_new hs2_ hn1)) ?_
    refine batch0 [0, 0, 0, 0, 0] 10 0 [(0, .int .i64 w_), (1, .int .i64 h_), (5, .pointer (some ⟨b1, 0, none⟩)), (8, .int .u32 (atC w_ h_ (List.replicate n1 0) (w_ - 1) (h_ - 1))), (9, .bool (hasB 0 0 w_ h_ (w_ - 1) (h_ - 1))), (11, .bool (hasB 0 0 w_ h_ w_ (h_ - 1)))] [.cells b1 [.int .i64 w_, .int .i64 h_, .slice (some ⟨r1, 0, none⟩) n1 n1] 84 true, .gen (rowE (some ⟨r1, 0, none⟩) r1 n1 n1 28 1 (ivals .u32 (List.replicate n1 0)) true)] rfl rfl (by kernel_rfl) (by kernel_rfl) ?_
    refine cont_done ?_
    refine then_normal ?_
    refine cont_seq ?_
    refine cont_region 7 rfl ?_
    refine batch0 [0] 1 6 [(0, .int .i64 w_), (1, .int .i64 h_), (5, .pointer (some ⟨b1, 0, none⟩)), (8, .int .u32 (atC w_ h_ (List.replicate n1 0) (w_ - 1) (h_ - 1))), (9, .bool (hasB 0 0 w_ h_ (w_ - 1) (h_ - 1))), (11, .bool (hasB 0 0 w_ h_ w_ (h_ - 1))), (73, .pointer (some ⟨b1, 0, none⟩))] [.cells b1 [.int .i64 w_, .int .i64 h_, .slice (some ⟨r1, 0, none⟩) n1 n1] 84 true, .gen (rowE (some ⟨r1, 0, none⟩) r1 n1 n1 28 1 (ivals .u32 (List.replicate n1 0)) true)] rfl rfl (by kernel_rfl) (by kernel_rfl) ?_
    refine pl_step 2 5 rfl rfl ?_
    refine call_pure (d := 74) (.tuple #[.int .u32 (atC w_ h_ (List.replicate n1 0) 0 (-1)), .bool (hasB 0 0 w_ h_ 0 (-1))]) (by kernel_rfl) (fun w hT => imgAt b1 w_ h_ r1 n1 n1 (List.replicate n1 0) 0 (-1) w ⟨hT.ok 0 _ rfl, Row.rd (hT.ok 1 _ rfl), Row.capLe (hT.ok 1 _ rfl)⟩ (imgOk_new hs2_ hn1)) ?_
    refine batch0 [0, 0, 0, 0, 0] 7 0 [(0, .int .i64 w_), (1, .int .i64 h_), (5, .pointer (some ⟨b1, 0, none⟩)), (8, .int .u32 (atC w_ h_ (List.replicate n1 0) (w_ - 1) (h_ - 1))), (9, .bool (hasB 0 0 w_ h_ (w_ - 1) (h_ - 1))), (11, .bool (hasB 0 0 w_ h_ w_ (h_ - 1))), (13, .bool (hasB 0 0 w_ h_ 0 (-1)))] [.cells b1 [.int .i64 w_, .int .i64 h_, .slice (some ⟨r1, 0, none⟩) n1 n1] 84 true, .gen (rowE (some ⟨r1, 0, none⟩) r1 n1 n1 28 1 (ivals .u32 (List.replicate n1 0)) true)] rfl rfl (by kernel_rfl) (by kernel_rfl) ?_
    refine cont_done ?_
    refine then_normal ?_
    refine cont_seq ?_
    refine cont_region 31 rfl ?_
    refine batch0 [0] 1 30 [(0, .int .i64 w_), (1, .int .i64 h_), (5, .pointer (some ⟨b1, 0, none⟩)), (8, .int .u32 (atC w_ h_ (List.replicate n1 0) (w_ - 1) (h_ - 1))), (9, .bool (hasB 0 0 w_ h_ (w_ - 1) (h_ - 1))), (11, .bool (hasB 0 0 w_ h_ w_ (h_ - 1))), (13, .bool (hasB 0 0 w_ h_ 0 (-1))), (77, .pointer (some ⟨b1, 0, none⟩))] [.cells b1 [.int .i64 w_, .int .i64 h_, .slice (some ⟨r1, 0, none⟩) n1 n1] 84 true, .gen (rowE (some ⟨r1, 0, none⟩) r1 n1 n1 28 1 (ivals .u32 (List.replicate n1 0)) true)] rfl rfl (by kernel_rfl) (by kernel_rfl) ?_
    refine pl_step 2 29 rfl rfl ?_
    refine call_pure (d := 78) (.agg #[.int .i64 0, .int .i64 0, .int .i64 w_, .int .i64 h_]) (by kernel_rfl) (fun w hT => imgBox b1 w_ h_ r1 n1 n1 (List.replicate n1 0)  w ⟨hT.ok 0 _ rfl, Row.rd (hT.ok 1 _ rfl), Row.capLe (hT.ok 1 _ rfl)⟩ (imgOk_new hs2_ hn1)) ?_
    refine batch0 [0, 0, 0, 0] 6 25 [(1, .int .i64 h_), (5, .pointer (some ⟨b1, 0, none⟩)), (8, .int .u32 (atC w_ h_ (List.replicate n1 0) (w_ - 1) (h_ - 1))), (9, .bool (hasB 0 0 w_ h_ (w_ - 1) (h_ - 1))), (11, .bool (hasB 0 0 w_ h_ w_ (h_ - 1))), (13, .bool (hasB 0 0 w_ h_ 0 (-1))), (82, .bool (w_ == w_))] [.cells b1 [.int .i64 w_, .int .i64 h_, .slice (some ⟨r1, 0, none⟩) n1 n1] 84 true, .gen (rowE (some ⟨r1, 0, none⟩) r1 n1 n1 28 1 (ivals .u32 (List.replicate n1 0)) true)] rfl rfl (by kernel_rfl) (by kernel_rfl) ?_
    refine cont_recast 82 (.bool (w_ == w_)) (.bool true) rfl (congrArg Value.bool (by simp)) ?_
    refine batch0 [0] 7 24 [(1, .int .i64 h_), (8, .int .u32 (atC w_ h_ (List.replicate n1 0) (w_ - 1) (h_ - 1))), (9, .bool (hasB 0 0 w_ h_ (w_ - 1) (h_ - 1))), (11, .bool (hasB 0 0 w_ h_ w_ (h_ - 1))), (13, .bool (hasB 0 0 w_ h_ 0 (-1))), (82, .bool true), (83, .pointer (some ⟨b1, 0, none⟩))] [.cells b1 [.int .i64 w_, .int .i64 h_, .slice (some ⟨r1, 0, none⟩) n1 n1] 84 true, .gen (rowE (some ⟨r1, 0, none⟩) r1 n1 n1 28 1 (ivals .u32 (List.replicate n1 0)) true)] rfl rfl (by kernel_rfl) (by kernel_rfl) ?_
    refine pl_step 8 23 rfl rfl ?_
    refine call_pure (d := 84) (.agg #[.int .i64 0, .int .i64 0, .int .i64 w_, .int .i64 h_]) (by kernel_rfl) (fun w hT => imgBox b1 w_ h_ r1 n1 n1 (List.replicate n1 0)  w ⟨hT.ok 0 _ rfl, Row.rd (hT.ok 1 _ rfl), Row.capLe (hT.ok 1 _ rfl)⟩ (imgOk_new hs2_ hn1)) ?_
    refine batch0 [0, 0, 0, 0, 0] 13 18 [(8, .int .u32 (atC w_ h_ (List.replicate n1 0) (w_ - 1) (h_ - 1))), (9, .bool (hasB 0 0 w_ h_ (w_ - 1) (h_ - 1))), (11, .bool (hasB 0 0 w_ h_ w_ (h_ - 1))), (13, .bool (hasB 0 0 w_ h_ 0 (-1))), (89, .bool (h_ == h_))] [.cells b1 [.int .i64 w_, .int .i64 h_, .slice (some ⟨r1, 0, none⟩) n1 n1] 84 true, .gen (rowE (some ⟨r1, 0, none⟩) r1 n1 n1 28 1 (ivals .u32 (List.replicate n1 0)) true)] rfl rfl (by kernel_rfl) (by kernel_rfl) ?_
    refine cont_forget 0 rfl ?_
    refine cont_recast 89 (.bool (h_ == h_)) (.bool true) rfl (congrArg Value.bool (by simp)) ?_
    refine batch0 [0, 0, 0, 0] 17 14 [(9, .bool (hasB 0 0 w_ h_ (w_ - 1) (h_ - 1))), (11, .bool (hasB 0 0 w_ h_ w_ (h_ - 1))), (13, .bool (hasB 0 0 w_ h_ 0 (-1))), (93, .bool ((atC w_ h_ (List.replicate n1 0) (w_ - 1) (h_ - 1)) == 0))] [.gen (rowE (some ⟨r1, 0, none⟩) r1 n1 n1 28 1 (ivals .u32 (List.replicate n1 0)) true)] rfl rfl (by kernel_rfl) (by kernel_rfl) ?_
    refine cont_recast 93 (.bool ((atC w_ h_ (List.replicate n1 0) (w_ - 1) (h_ - 1)) == 0)) (.bool true) rfl (congrArg Value.bool (by rw [atC_rep]; rfl)) ?_
    refine batch0 [0, 0, 0] 20 11 [(11, .bool (hasB 0 0 w_ h_ w_ (h_ - 1))), (13, .bool (hasB 0 0 w_ h_ 0 (-1))), (96, .bool (hasB 0 0 w_ h_ (w_ - 1) (h_ - 1)))] [.gen (rowE (some ⟨r1, 0, none⟩) r1 n1 n1 28 1 (ivals .u32 (List.replicate n1 0)) true)] rfl rfl (by kernel_rfl) (by kernel_rfl) ?_
    refine cont_recast 96 (.bool (hasB 0 0 w_ h_ (w_ - 1) (h_ - 1))) (.bool true) rfl (congrArg Value.bool (hasB_true.2 (by omega))) ?_
    refine batch0 [0, 0, 0, 0] 24 7 [(13, .bool (hasB 0 0 w_ h_ 0 (-1))), (100, .bool (!(hasB 0 0 w_ h_ w_ (h_ - 1))))] [.gen (rowE (some ⟨r1, 0, none⟩) r1 n1 n1 28 1 (ivals .u32 (List.replicate n1 0)) true)] rfl rfl (by kernel_rfl) (by kernel_rfl) ?_
    refine cont_recast 100 (.bool (!(hasB 0 0 w_ h_ w_ (h_ - 1)))) (.bool true) rfl (congrArg Value.bool (by rw [hasB_no (by omega)]; rfl)) ?_
    refine batch0 [0, 0, 0, 0] 28 3 [(104, .bool (!(hasB 0 0 w_ h_ 0 (-1))))] [.gen (rowE (some ⟨r1, 0, none⟩) r1 n1 n1 28 1 (ivals .u32 (List.replicate n1 0)) true)] rfl rfl (by kernel_rfl) (by kernel_rfl) ?_
    refine cont_recast 104 (.bool (!(hasB 0 0 w_ h_ 0 (-1)))) (.bool true) rfl (congrArg Value.bool (by rw [hasB_no (by omega)]; rfl)) ?_
    refine pl_step 29 2 rfl rfl ?_
    refine call_pure (d := 105) (.bool true) (by kernel_rfl) (fun w hT => lives4  w) ?_
    refine batch0 [0, 0] 31 0 [(4, .bool true)] [.gen (rowE (some ⟨r1, 0, none⟩) r1 n1 n1 28 1 (ivals .u32 (List.replicate n1 0)) true)] rfl rfl (by kernel_rfl) (by kernel_rfl) ?_
    refine cont_done ?_
    refine then_normal ?_
    refine cont_ret ?_
    refine ret_one (.inl rfl) rfl 0 (.bool true) (by kernel_rfl) (by kernel_rfl) (fun w hT => ?_)
    exact ⟨rfl, hT.post rfl⟩
  refine call_pure (d := 17) (.tuple #[.pointer none, .int .i64 1]) (by kernel_rfl) (fun w hT => imgNewBad w_ h_ w hs2_) ?_
  refine batch0 [0, 0, 0, 0, 0] 8 0 [(0, .int .i64 w_), (1, .int .i64 h_), (5, .pointer none), (6, .int .i64 1)] [] rfl rfl (by kernel_rfl) (by kernel_rfl) ?_
  refine cont_done ?_
  refine then_normal ?_
  refine cont_seq ?_
  refine cont_region 15 rfl ?_
  refine batch0 [0, 0, 0] 3 12 [(0, .int .i64 w_), (1, .int .i64 h_), (5, .pointer none), (6, .int .i64 1), (22, .bool (decide (w_ ≥ 1)))] [] rfl rfl (by kernel_rfl) (by kernel_rfl) ?_
  refine cont_split 22 (decide (w_ ≥ 1)) rfl (fun c13_ => ?_) (fun c13_ => ?_)
  ·
    replace c13_ := of_decide_eq_true c13_
    refine batch0 [0, 0, 0, 0] 7 8 [(0, .int .i64 w_), (1, .int .i64 h_), (5, .pointer none), (6, .int .i64 1), (26, .bool (decide (w_ ≤ 256)))] [] rfl rfl (by kernel_rfl) (by kernel_rfl) ?_
    refine cont_split 26 (decide (w_ ≤ 256)) rfl (fun c14_ => ?_) (fun c14_ => ?_)
    ·
      replace c14_ := of_decide_eq_true c14_
      refine batch0 [0, 0, 0, 0] 11 4 [(0, .int .i64 w_), (1, .int .i64 h_), (5, .pointer none), (6, .int .i64 1), (30, .bool (decide (h_ ≥ 1)))] [] rfl rfl (by kernel_rfl) (by kernel_rfl) ?_
      refine cont_split 30 (decide (h_ ≥ 1)) rfl (fun c15_ => ?_) (fun c15_ => ?_)
      ·
        replace c15_ := of_decide_eq_true c15_
        refine batch0 [0, 0, 0, 0] 15 0 [(0, .int .i64 w_), (1, .int .i64 h_), (5, .pointer none), (6, .int .i64 1), (7, .bool (decide (h_ ≤ 256)))] [] rfl rfl (by kernel_rfl) (by kernel_rfl) ?_
        refine cont_done ?_
        refine then_normal ?_
        refine cont_seq ?_
        refine cont_seq ?_
        refine cont_region 18 rfl ?_
        refine batch0 [0, 0, 0] 3 15 [(0, .int .i64 w_), (1, .int .i64 h_), (5, .pointer none), (6, .int .i64 1), (7, .bool (decide (h_ ≤ 256))), (35, .bool false), (36, .bool (decide (h_ ≤ 256)))] [] rfl rfl (by kernel_rfl) (by kernel_rfl) ?_
        refine cont_split 36 (decide (h_ ≤ 256)) rfl (fun c16_ => ?_) (fun c16_ => ?_)
        ·
          refine cont_recast 7 (.bool (decide (h_ ≤ 256))) (.bool true) rfl (congrArg Value.bool c16_) ?_
          replace c16_ := of_decide_eq_true c16_
          exfalso; omega
        refine cont_recast 7 (.bool (decide (h_ ≤ 256))) (.bool false) rfl (congrArg Value.bool c16_) ?_
        replace c16_ := of_decide_eq_false c16_
        refine batch0 [0, 0, 0, 0, 0, 0, 0, 0, 0, 0, 0, 0, 0, 0, 0] 18 0 [(0, .int .i64 w_), (1, .int .i64 h_), (5, .pointer none), (51, .bool false)] [] rfl rfl (by kernel_rfl) (by kernel_rfl) ?_
        refine cont_done ?_
        refine then_normal ?_
        refine cont_false rfl ?_
        refine cont_skip ?_
        refine then_normal ?_
        refine cont_seq ?_
        refine cont_seq ?_
        refine cont_region 2 rfl ?_
        refine batch0 [0, 0] 2 0 [(0, .int .i64 w_), (1, .int .i64 h_), (5, .pointer none), (53, .bool true)] [] rfl rfl (by kernel_rfl) (by kernel_rfl) ?_
        refine cont_done ?_
        refine then_normal ?_
        refine cont_true rfl ?_
        refine cont_seq ?_
        refine cont_region 2 rfl ?_
        refine pl_step 1 1 rfl rfl ?_
        refine call_pure (d := 54) (.bool true) (by kernel_rfl) (fun w hT => lives4  w) ?_
        refine batch0 [0] 2 0 [(4, .bool true)] [] rfl rfl (by kernel_rfl) (by kernel_rfl) ?_
        refine cont_done ?_
        refine then_normal ?_
        refine cont_ret ?_
        refine then_ret ?_
        refine ret_one (.inl rfl) rfl 0 (.bool true) (by kernel_rfl) (by kernel_rfl) (fun w hT => ?_)
        exact ⟨rfl, hT.post rfl⟩
      replace c15_ := of_decide_eq_false c15_
      refine batch0 [0, 0, 0, 0] 15 0 [(0, .int .i64 w_), (1, .int .i64 h_), (5, .pointer none), (6, .int .i64 1), (7, .bool false)] [] rfl rfl (by kernel_rfl) (by kernel_rfl) ?_
      refine cont_done ?_
      refine then_normal ?_
      refine cont_seq ?_
      refine cont_seq ?_
      refine cont_region 18 rfl ?_
      refine batch0 [0, 0, 0, 0, 0, 0, 0, 0, 0, 0, 0, 0, 0, 0, 0, 0, 0, 0] 18 0 [(0, .int .i64 w_), (1, .int .i64 h_), (5, .pointer none), (51, .bool false)] [] rfl rfl (by kernel_rfl) (by kernel_rfl) ?_
      refine cont_done ?_
      refine then_normal ?_
      refine cont_false rfl ?_
      refine cont_skip ?_
      refine then_normal ?_
      refine cont_seq ?_
      refine cont_seq ?_
      refine cont_region 2 rfl ?_
      refine batch0 [0, 0] 2 0 [(0, .int .i64 w_), (1, .int .i64 h_), (5, .pointer none), (53, .bool true)] [] rfl rfl (by kernel_rfl) (by kernel_rfl) ?_
      refine cont_done ?_
      refine then_normal ?_
      refine cont_true rfl ?_
      refine cont_seq ?_
      refine cont_region 2 rfl ?_
      refine pl_step 1 1 rfl rfl ?_
      refine call_pure (d := 54) (.bool true) (by kernel_rfl) (fun w hT => lives4  w) ?_
      refine batch0 [0] 2 0 [(4, .bool true)] [] rfl rfl (by kernel_rfl) (by kernel_rfl) ?_
      refine cont_done ?_
      refine then_normal ?_
      refine cont_ret ?_
      refine then_ret ?_
      refine ret_one (.inl rfl) rfl 0 (.bool true) (by kernel_rfl) (by kernel_rfl) (fun w hT => ?_)
      exact ⟨rfl, hT.post rfl⟩
    replace c14_ := of_decide_eq_false c14_
    refine batch0 [0, 0, 0, 0, 0, 0, 0, 0] 15 0 [(0, .int .i64 w_), (1, .int .i64 h_), (5, .pointer none), (6, .int .i64 1), (7, .bool false)] [] rfl rfl (by kernel_rfl) (by kernel_rfl) ?_
    refine cont_done ?_
    refine then_normal ?_
    refine cont_seq ?_
    refine cont_seq ?_
    refine cont_region 18 rfl ?_
    refine batch0 [0, 0, 0, 0, 0, 0, 0, 0, 0, 0, 0, 0, 0, 0, 0, 0, 0, 0] 18 0 [(0, .int .i64 w_), (1, .int .i64 h_), (5, .pointer none), (51, .bool false)] [] rfl rfl (by kernel_rfl) (by kernel_rfl) ?_
    refine cont_done ?_
    refine then_normal ?_
    refine cont_false rfl ?_
    refine cont_skip ?_
    refine then_normal ?_
    refine cont_seq ?_
    refine cont_seq ?_
    refine cont_region 2 rfl ?_
    refine batch0 [0, 0] 2 0 [(0, .int .i64 w_), (1, .int .i64 h_), (5, .pointer none), (53, .bool true)] [] rfl rfl (by kernel_rfl) (by kernel_rfl) ?_
    refine cont_done ?_
    refine then_normal ?_
    refine cont_true rfl ?_
    refine cont_seq ?_
    refine cont_region 2 rfl ?_
    refine pl_step 1 1 rfl rfl ?_
    refine call_pure (d := 54) (.bool true) (by kernel_rfl) (fun w hT => lives4  w) ?_
    refine batch0 [0] 2 0 [(4, .bool true)] [] rfl rfl (by kernel_rfl) (by kernel_rfl) ?_
    refine cont_done ?_
    refine then_normal ?_
    refine cont_ret ?_
    refine then_ret ?_
    refine ret_one (.inl rfl) rfl 0 (.bool true) (by kernel_rfl) (by kernel_rfl) (fun w hT => ?_)
    exact ⟨rfl, hT.post rfl⟩
  replace c13_ := of_decide_eq_false c13_
  refine batch0 [0, 0, 0, 0, 0, 0, 0, 0, 0, 0, 0, 0] 15 0 [(0, .int .i64 w_), (1, .int .i64 h_), (5, .pointer none), (6, .int .i64 1), (7, .bool false)] [] rfl rfl (by kernel_rfl) (by kernel_rfl) ?_
  refine cont_done ?_
  refine then_normal ?_
  refine cont_seq ?_
  refine cont_seq ?_
  refine cont_region 18 rfl ?_
  refine batch0 [0, 0, 0, 0, 0, 0, 0, 0, 0, 0, 0, 0, 0, 0, 0, 0, 0, 0] 18 0 [(0, .int .i64 w_), (1, .int .i64 h_), (5, .pointer none), (51, .bool false)] [] rfl rfl (by kernel_rfl) (by kernel_rfl) ?_
  refine cont_done ?_
  refine then_normal ?_
  refine cont_false rfl ?_
  refine cont_skip ?_
  refine then_normal ?_
  refine cont_seq ?_
  refine cont_seq ?_
  refine cont_region 2 rfl ?_
  refine batch0 [0, 0] 2 0 [(0, .int .i64 w_), (1, .int .i64 h_), (5, .pointer none), (53, .bool true)] [] rfl rfl (by kernel_rfl) (by kernel_rfl) ?_
  refine cont_done ?_
  refine then_normal ?_
  refine cont_true rfl ?_
  refine cont_seq ?_
  refine cont_region 2 rfl ?_
  refine pl_step 1 1 rfl rfl ?_
  refine call_pure (d := 54) (.bool true) (by kernel_rfl) (fun w hT => lives4  w) ?_
  refine batch0 [0] 2 0 [(4, .bool true)] [] rfl rfl (by kernel_rfl) (by kernel_rfl) ?_
  refine cont_done ?_
  refine then_normal ?_
  refine cont_ret ?_
  refine then_ret ?_
  refine ret_one (.inl rfl) rfl 0 (.bool true) (by kernel_rfl) (by kernel_rfl) (fun w hT => ?_)
  exact ⟨rfl, hT.post rfl⟩

end Go.Proofs.Ytommojgfkkoghaa
