/- Contracts of functions of the given program, printed by a program of this project. -/
import Derived.Test.YtgmonhehilcegaaW18
import Derived.Test.YtgmonhehilcegaaProg
set_option linter.unusedVariables false
set_option linter.unusedSimpArgs false
namespace Go.Proofs.Ytgmonhehilcegaa
open Go Go.RowKit
set_option maxRecDepth 100000
set_option maxHeartbeats 8000000

theorem walkOutputNew (w_ h_ : Int) (w : World) (hww : -9223372036854775808 ≤ w_ ∧ w_ ≤ 9223372036854775807) (hhh : -9223372036854775808 ≤ h_ ∧ h_ ≤ 9223372036854775807) :
    Calls Try.prog 3 #[.int .i64 w_, .int .i64 h_] w fun e w' => e = .returned (.bool true) ∧ Below w.heap.size w w' := by
  refine enter 74 [(0, .int .i64 w_), (1, .int .i64 h_)] [] Try.func3 rfl Try.ntmps3 rfl (by kernel_rfl) (Tab.start w) ?_
  refine cont_seq ?_
  refine cont_region 1 rfl ?_
  refine bS [0] 1 0 [(0, .int .i64 w_), (1, .int .i64 h_)] ?_
  refine cont_done ?_
  refine then_normal ?_
  refine cont_seq ?_
  refine cont_region 8 rfl ?_
  refine bS [0, 0] 2 6 [(0, .int .i64 w_), (1, .int .i64 h_), (9, .int .i64 w_), (10, .int .i64 h_)] ?_
  refine pl_step 3 5 rfl rfl ?_
  by_cases hs1_ : 1 ≤ w_ ∧ w_ ≤ 256 ∧ 1 ≤ h_ ∧ h_ ≤ 256
  ·
    refine call_gen (d := 11) (α := Nat × Nat × Nat × Nat × Nat × Nat × Nat × Option Addr × Nat × Nat × Nat × Option Addr × Nat × Nat × Nat) (fun x_ => .tuple #[.pointer (some ⟨x_.1, 0, none⟩), .int .i64 0]) (fun x_ => [.cells x_.1 [.pointer (some ⟨x_.2.1, 0, none⟩), .pointer (some ⟨x_.2.2.2.2.1, 0, none⟩), .slice x_.2.2.2.2.2.2.2.1 x_.2.2.2.2.2.2.2.2.2.1 x_.2.2.2.2.2.2.2.2.2.2.1, .slice x_.2.2.2.2.2.2.2.2.2.2.2.1 x_.2.2.2.2.2.2.2.2.2.2.2.2.2.1 x_.2.2.2.2.2.2.2.2.2.2.2.2.2.2, .int .i64 0, .int .i64 0, .int .i64 0, .int .i64 0] 98 true, .cells x_.2.1 [.int .i64 w_, .int .i64 h_, .slice (some ⟨x_.2.2.1, 0, none⟩) x_.2.2.2.1 x_.2.2.2.1] 115 true, .gen (rowE (some ⟨x_.2.2.1, 0, none⟩) x_.2.2.1 x_.2.2.2.1 x_.2.2.2.1 54 1 (ivals .u32 (List.replicate x_.2.2.2.1 0)) true), .cells x_.2.2.2.2.1 [.int .i64 w_, .int .i64 h_, .slice (some ⟨x_.2.2.2.2.2.1, 0, none⟩) x_.2.2.2.2.2.2.1 x_.2.2.2.2.2.2.1] 115 true, .gen (rowE (some ⟨x_.2.2.2.2.2.1, 0, none⟩) x_.2.2.2.2.2.1 x_.2.2.2.2.2.2.1 x_.2.2.2.2.2.2.1 54 1 (ivals .u32 (List.replicate x_.2.2.2.2.2.2.1 0)) true), .gen (rowE (x_.2.2.2.2.2.2.2.1) x_.2.2.2.2.2.2.2.2.1 x_.2.2.2.2.2.2.2.2.2.1 x_.2.2.2.2.2.2.2.2.2.2.1 28 4 (rvals (canR [(⟨0, 0, w_, h_⟩ : Rect)])) true), .gen (rowE (x_.2.2.2.2.2.2.2.2.2.2.2.1) x_.2.2.2.2.2.2.2.2.2.2.2.2.1 x_.2.2.2.2.2.2.2.2.2.2.2.2.2.1 x_.2.2.2.2.2.2.2.2.2.2.2.2.2.2 28 4 (rvals (canR [(⟨0, 0, w_, h_⟩ : Rect)])) true)]) (fun x_ => (x_.2.2.2.1 : Int) = w_ * h_ ∧ (x_.2.2.2.2.2.2.1 : Int) = w_ * h_) (by kernel_rfl) (fun w hT => (outNew w_ h_ w hs1_).mono fun e w' ⟨b2, m3, r4, n5, m16, r17, n18, A9, g10, k11, cp12, B13, gB14, kB15, cB16, he_, hf_, ht_⟩ => ⟨(b2, m3, r4, n5, m16, r17, n18, A9, g10, k11, cp12, B13, gB14, kB15, cB16), he_, hf_, hT.news ht_ rfl⟩) ?_
    rintro ⟨b2, m3, r4, n5, m16, r17, n18, A9, g10, k11, cp12, B13, gB14, kB15, cB16⟩ hf17_
    replace hf17_ : (n5 : Int) = w_ * h_ ∧ (n18 : Int) = w_ * h_ := hf17_
    refine cont_norm [(0, .int .i64 w_), (1, .int .i64 h_), (9, .int .i64 w_), (10, .int .i64 h_), (11, .tuple #[.pointer (some ⟨b2, 0, none⟩), .int .i64 0])] [.cells b2 [.pointer (some ⟨m3, 0, none⟩), .pointer (some ⟨m16, 0, none⟩), .slice A9 k11 cp12, .slice B13 kB15 cB16, .int .i64 0, .int .i64 0, .int .i64 0, .int .i64 0] 98 true, .cells m3 [.int .i64 w_, .int .i64 h_, .slice (some ⟨r4, 0, none⟩) n5 n5] 115 true, .gen (rowE (some ⟨r4, 0, none⟩) r4 n5 n5 54 1 (ivals .u32 (List.replicate n5 0)) true), .cells m16 [.int .i64 w_, .int .i64 h_, .slice (some ⟨r17, 0, none⟩) n18 n18] 115 true, .gen (rowE (some ⟨r17, 0, none⟩) r17 n18 n18 54 1 (ivals .u32 (List.replicate n18 0)) true), .gen (rowE (A9) g10 k11 cp12 28 4 (rvals (canR [(⟨0, 0, w_, h_⟩ : Rect)])) true), .gen (rowE (B13) gB14 kB15 cB16 28 4 (rvals (canR [(⟨0, 0, w_, h_⟩ : Rect)])) true)] (by kernel_rfl) rfl ?_
    obtain ⟨hf17_a, hf17_b⟩ := hf17_
    have hcl18_ := canR_small (l := [(⟨0, 0, w_, h_⟩ : Rect)]) (by simp)
    refine cont_fact (F := (0 < k11 → (A9 : Option Addr) = some ⟨g10, 0, none⟩) ∧ (canR [(⟨0, 0, w_, h_⟩ : Rect)]).length = k11 ∧ k11 ≤ cp12 ∧ cp12 ≤ maxLen) (fun w hT => Row.factsR (hT.ok 5 _ rfl)) (fun hr19_ => ?_)
    obtain ⟨hr19_a, hr19_l, hr19_c, hr19_m⟩ := hr19_
    unfold maxLen at hr19_m
    refine cont_fact (F := (0 < kB15 → (B13 : Option Addr) = some ⟨gB14, 0, none⟩) ∧ (canR [(⟨0, 0, w_, h_⟩ : Rect)]).length = kB15 ∧ kB15 ≤ cB16 ∧ cB16 ≤ maxLen) (fun w hT => Row.factsR (hT.ok 6 _ rfl)) (fun hr20_ => ?_)
    obtain ⟨hr20_a, hr20_l, hr20_c, hr20_m⟩ := hr20_
    unfold maxLen at hr20_m
    refine bS [0, 0, 0, 0, 0] 8 0 [(0, .int .i64 w_), (1, .int .i64 h_), (5, .pointer (some ⟨b2, 0, none⟩)), (6, .int .i64 0)] ?_
    refine cont_done ?_
    refine then_normal ?_
    refine cont_seq ?_
    refine cont_region 15 rfl ?_
    refine bS [0, 0, 0] 3 12 [(0, .int .i64 w_), (1, .int .i64 h_), (5, .pointer (some ⟨b2, 0, none⟩)), (6, .int .i64 0), (16, .bool (decide (w_ ≥ 1)))] ?_
    refine cont_recast 16 (.bool (decide (w_ ≥ 1))) (.bool true) rfl (congrArg Value.bool (decide_eq_true (by omega))) ?_
    refine bS [0, 0, 0, 0] 7 8 [(0, .int .i64 w_), (1, .int .i64 h_), (5, .pointer (some ⟨b2, 0, none⟩)), (6, .int .i64 0), (20, .bool (decide (w_ ≤ 256)))] ?_
    refine cont_recast 20 (.bool (decide (w_ ≤ 256))) (.bool true) rfl (congrArg Value.bool (decide_eq_true (by omega))) ?_
    refine bS [0, 0, 0, 0] 11 4 [(0, .int .i64 w_), (1, .int .i64 h_), (5, .pointer (some ⟨b2, 0, none⟩)), (6, .int .i64 0), (24, .bool (decide (h_ ≥ 1)))] ?_
    refine cont_recast 24 (.bool (decide (h_ ≥ 1))) (.bool true) rfl (congrArg Value.bool (decide_eq_true (by omega))) ?_
    refine bS [0, 0, 0, 0] 15 0 [(0, .int .i64 w_), (1, .int .i64 h_), (5, .pointer (some ⟨b2, 0, none⟩)), (6, .int .i64 0), (7, .bool (decide (h_ ≤ 256)))] ?_
    refine cont_done ?_
    refine then_normal ?_
    refine cont_seq ?_
    refine cont_seq ?_
    refine cont_region 18 rfl ?_
    refine bS [0, 0, 0] 3 15 [(0, .int .i64 w_), (1, .int .i64 h_), (5, .pointer (some ⟨b2, 0, none⟩)), (6, .int .i64 0), (7, .bool (decide (h_ ≤ 256))), (29, .bool true), (30, .bool (decide (h_ ≤ 256)))] ?_
    refine cont_recast 30 (.bool (decide (h_ ≤ 256))) (.bool true) rfl (congrArg Value.bool (decide_eq_true (by omega))) ?_
    refine cont_recast 7 (.bool (decide (h_ ≤ 256))) (.bool true) rfl (congrArg Value.bool (decide_eq_true (by omega))) ?_
    refine bS [0, 0, 0, 0, 0, 0, 0, 0, 0, 0, 0, 0, 0, 0, 0] 18 0 [(0, .int .i64 w_), (1, .int .i64 h_), (5, .pointer (some ⟨b2, 0, none⟩)), (45, .bool false)] ?_
    refine cont_done ?_
    refine then_normal ?_
    refine cont_false rfl ?_
    refine cont_skip ?_
    refine then_normal ?_
    refine cont_seq ?_
    refine cont_seq ?_
    refine cont_region 2 rfl ?_
    refine bS [0, 0] 2 0 [(0, .int .i64 w_), (1, .int .i64 h_), (5, .pointer (some ⟨b2, 0, none⟩)), (47, .bool false)] ?_
    refine cont_done ?_
    refine then_normal ?_
    refine cont_false rfl ?_
    refine cont_skip ?_
    refine then_normal ?_
    refine cont_seq ?_
    refine cont_region 26 rfl ?_
    refine bS [0] 1 25 [(0, .int .i64 w_), (1, .int .i64 h_), (5, .pointer (some ⟨b2, 0, none⟩)), (49, .pointer (some ⟨b2, 0, none⟩))] ?_
    refine pl_step 2 24 rfl rfl ?_
    refine call_pure (d := 50) (.agg #[.int .i64 0, .int .i64 0, .int .i64 w_, .int .i64 h_]) (by kernel_rfl) (fun w hT => outBox b2 m3 m16 A9 B13 k11 cp12 kB15 cB16 0 0 0 0 w_ h_ r4 n5 n5 (List.replicate n5 0) w (hT.viewRo (.cons (i := 0) rfl Vw.roc (.cons (i := 1) rfl Vw.roc (.cons (i := 2) rfl Vw.rowRd .nil))) rfl) (by omega) (imgOk_new hs1_ hf17_a)) ?_
    refine bS [0, 0, 0, 0] 6 20 [(1, .int .i64 h_), (5, .pointer (some ⟨b2, 0, none⟩)), (54, .bool (w_ == w_))] ?_
    refine cont_recast 54 (.bool (w_ == w_)) (.bool true) rfl (congrArg Value.bool (beq_self_eq_true _)) ?_
    refine bS [0] 7 19 [(1, .int .i64 h_), (5, .pointer (some ⟨b2, 0, none⟩)), (54, .bool true), (55, .pointer (some ⟨b2, 0, none⟩))] ?_
    refine pl_step 8 18 rfl rfl ?_
    refine call_pure (d := 56) (.agg #[.int .i64 0, .int .i64 0, .int .i64 w_, .int .i64 h_]) (by kernel_rfl) (fun w hT => outBox b2 m3 m16 A9 B13 k11 cp12 kB15 cB16 0 0 0 0 w_ h_ r4 n5 n5 (List.replicate n5 0) w (hT.viewRo (.cons (i := 0) rfl Vw.roc (.cons (i := 1) rfl Vw.roc (.cons (i := 2) rfl Vw.rowRd .nil))) rfl) (by omega) (imgOk_new hs1_ hf17_a)) ?_
    refine bS [0, 0, 0, 0, 0] 13 13 [(5, .pointer (some ⟨b2, 0, none⟩)), (61, .bool (h_ == h_))] ?_
    refine cont_recast 61 (.bool (h_ == h_)) (.bool true) rfl (congrArg Value.bool (beq_self_eq_true _)) ?_
    refine bS [0] 14 12 [(5, .pointer (some ⟨b2, 0, none⟩)), (61, .bool true), (62, .pointer (some ⟨b2, 0, none⟩))] ?_
    refine pl_step 15 11 rfl rfl ?_
    refine call_pure (d := 63) (.int .i64 0) (by kernel_rfl) (fun w hT => outFrames b2 m3 m16 A9 B13 k11 cp12 kB15 cB16 0 0 0 0 w (hT.viewRo (.cons (i := 0) rfl Vw.roc .nil) rfl)) ?_
    refine bS [0, 0, 0, 0] 19 7 [(66, .bool true), (67, .pointer (some ⟨b2, 0, none⟩))] ?_
    refine pl_step 20 6 rfl rfl ?_
    refine call_pure (d := 68) (.int .i64 (ageI 0 0)) (by kernel_rfl) (fun w hT => outAge0 b2 m3 m16 A9 B13 k11 cp12 kB15 cB16 0 0 0 w (hT.viewRo (.cons (i := 0) rfl Vw.roc .nil) rfl) (by omega)) ?_
    refine bS [0, 0, 0] 23 3 [(71, .bool ((ageI 0 0) == 0))] ?_
    refine cont_forget 0 rfl ?_
    refine cont_forget 0 rfl ?_
    refine cont_forget 1 rfl ?_
    refine cont_recast 71 (.bool ((ageI 0 0) == 0)) (.bool true) rfl (congrArg Value.bool (by decide)) ?_
    refine pl_step 24 2 rfl rfl ?_
    refine call_pure (d := 72) (.bool true) (by kernel_rfl) (fun w hT => lives18  w) ?_
    refine bS [0, 0] 26 0 [(4, .bool true)] ?_
    refine cont_done ?_
    refine then_normal ?_
    refine cont_ret ?_
    refine ret_one (.inl rfl) rfl 0 (.bool true) (by kernel_rfl) (by kernel_rfl) (fun w hT => ?_)
    exact ⟨rfl, hT.post rfl⟩
  refine call_pure (d := 11) (.tuple #[.pointer none, .int .i64 1]) (by kernel_rfl) (fun w hT => outNewBad w_ h_ w hs1_) ?_
  refine bS [0, 0, 0, 0, 0] 8 0 [(0, .int .i64 w_), (1, .int .i64 h_), (5, .pointer none), (6, .int .i64 1)] ?_
  refine cont_done ?_
  refine then_normal ?_
  refine cont_seq ?_
  refine cont_region 15 rfl ?_
  refine bS [0, 0, 0] 3 12 [(0, .int .i64 w_), (1, .int .i64 h_), (5, .pointer none), (6, .int .i64 1), (16, .bool (decide (w_ ≥ 1)))] ?_
  refine cont_split 16 (decide (w_ ≥ 1)) rfl (fun c28_ => ?_) (fun c28_ => ?_)
  ·
    replace c28_ := of_decide_eq_true c28_
    refine bS [0, 0, 0, 0] 7 8 [(0, .int .i64 w_), (1, .int .i64 h_), (5, .pointer none), (6, .int .i64 1), (20, .bool (decide (w_ ≤ 256)))] ?_
    refine cont_split 20 (decide (w_ ≤ 256)) rfl (fun c29_ => ?_) (fun c29_ => ?_)
    ·
      replace c29_ := of_decide_eq_true c29_
      refine bS [0, 0, 0, 0] 11 4 [(0, .int .i64 w_), (1, .int .i64 h_), (5, .pointer none), (6, .int .i64 1), (24, .bool (decide (h_ ≥ 1)))] ?_
      refine cont_split 24 (decide (h_ ≥ 1)) rfl (fun c30_ => ?_) (fun c30_ => ?_)
      ·
        replace c30_ := of_decide_eq_true c30_
        refine bS [0, 0, 0, 0] 15 0 [(0, .int .i64 w_), (1, .int .i64 h_), (5, .pointer none), (6, .int .i64 1), (7, .bool (decide (h_ ≤ 256)))] ?_
        refine cont_done ?_
        refine then_normal ?_
        refine cont_seq ?_
        refine cont_seq ?_
        refine cont_region 18 rfl ?_
        refine bS [0, 0, 0] 3 15 [(0, .int .i64 w_), (1, .int .i64 h_), (5, .pointer none), (6, .int .i64 1), (7, .bool (decide (h_ ≤ 256))), (29, .bool false), (30, .bool (decide (h_ ≤ 256)))] ?_
        refine cont_split 30 (decide (h_ ≤ 256)) rfl (fun c31_ => ?_) (fun c31_ => ?_)
        ·
          refine cont_recast 7 (.bool (decide (h_ ≤ 256))) (.bool true) rfl (congrArg Value.bool c31_) ?_
          replace c31_ := of_decide_eq_true c31_
          exfalso; omega
        refine cont_recast 7 (.bool (decide (h_ ≤ 256))) (.bool false) rfl (congrArg Value.bool c31_) ?_
        replace c31_ := of_decide_eq_false c31_
        refine bS [0, 0, 0, 0, 0, 0, 0, 0, 0, 0, 0, 0, 0, 0, 0] 18 0 [(0, .int .i64 w_), (1, .int .i64 h_), (5, .pointer none), (45, .bool false)] ?_
        refine cont_done ?_
        refine then_normal ?_
        refine cont_false rfl ?_
        refine cont_skip ?_
        refine then_normal ?_
        refine cont_seq ?_
        refine cont_seq ?_
        refine cont_region 2 rfl ?_
        refine bS [0, 0] 2 0 [(0, .int .i64 w_), (1, .int .i64 h_), (5, .pointer none), (47, .bool true)] ?_
        refine cont_done ?_
        refine then_normal ?_
        refine cont_true rfl ?_
        refine cont_seq ?_
        refine cont_region 2 rfl ?_
        refine pl_step 1 1 rfl rfl ?_
        refine call_pure (d := 48) (.bool true) (by kernel_rfl) (fun w hT => lives18  w) ?_
        refine bS [0] 2 0 [(4, .bool true)] ?_
        refine cont_done ?_
        refine then_normal ?_
        refine cont_ret ?_
        refine then_ret ?_
        refine ret_one (.inl rfl) rfl 0 (.bool true) (by kernel_rfl) (by kernel_rfl) (fun w hT => ?_)
        exact ⟨rfl, hT.post rfl⟩
      replace c30_ := of_decide_eq_false c30_
      refine bS [0, 0, 0, 0] 15 0 [(0, .int .i64 w_), (1, .int .i64 h_), (5, .pointer none), (6, .int .i64 1), (7, .bool false)] ?_
      refine cont_done ?_
      refine then_normal ?_
      refine cont_seq ?_
      refine cont_seq ?_
      refine cont_region 18 rfl ?_
      refine bS [0, 0, 0, 0, 0, 0, 0, 0, 0, 0, 0, 0, 0, 0, 0, 0, 0, 0] 18 0 [(0, .int .i64 w_), (1, .int .i64 h_), (5, .pointer none), (45, .bool false)] ?_
      refine cont_done ?_
      refine then_normal ?_
      refine cont_false rfl ?_
      refine cont_skip ?_
      refine then_normal ?_
      refine cont_seq ?_
      refine cont_seq ?_
      refine cont_region 2 rfl ?_
      refine bS [0, 0] 2 0 [(0, .int .i64 w_), (1, .int .i64 h_), (5, .pointer none), (47, .bool true)] ?_
      refine cont_done ?_
      refine then_normal ?_
      refine cont_true rfl ?_
      refine cont_seq ?_
      refine cont_region 2 rfl ?_
      refine pl_step 1 1 rfl rfl ?_
      refine call_pure (d := 48) (.bool true) (by kernel_rfl) (fun w hT => lives18  w) ?_
      refine bS [0] 2 0 [(4, .bool true)] ?_
      refine cont_done ?_
      refine then_normal ?_
      refine cont_ret ?_
      refine then_ret ?_
      refine ret_one (.inl rfl) rfl 0 (.bool true) (by kernel_rfl) (by kernel_rfl) (fun w hT => ?_)
      exact ⟨rfl, hT.post rfl⟩
    replace c29_ := of_decide_eq_false c29_
    refine bS [0, 0, 0, 0, 0, 0, 0, 0] 15 0 [(0, .int .i64 w_), (1, .int .i64 h_), (5, .pointer none), (6, .int .i64 1), (7, .bool false)] ?_
    refine cont_done ?_
    refine then_normal ?_
    refine cont_seq ?_
    refine cont_seq ?_
    refine cont_region 18 rfl ?_
    refine bS [0, 0, 0, 0, 0, 0, 0, 0, 0, 0, 0, 0, 0, 0, 0, 0, 0, 0] 18 0 [(0, .int .i64 w_), (1, .int .i64 h_), (5, .pointer none), (45, .bool false)] ?_
    refine cont_done ?_
    refine then_normal ?_
    refine cont_false rfl ?_
    refine cont_skip ?_
    refine then_normal ?_
    refine cont_seq ?_
    refine cont_seq ?_
    refine cont_region 2 rfl ?_
    refine bS [0, 0] 2 0 [(0, .int .i64 w_), (1, .int .i64 h_), (5, .pointer none), (47, .bool true)] ?_
    refine cont_done ?_
    refine then_normal ?_
    refine cont_true rfl ?_
    refine cont_seq ?_
    refine cont_region 2 rfl ?_
    refine pl_step 1 1 rfl rfl ?_
    refine call_pure (d := 48) (.bool true) (by kernel_rfl) (fun w hT => lives18  w) ?_
    refine bS [0] 2 0 [(4, .bool true)] ?_
    refine cont_done ?_
    refine then_normal ?_
    refine cont_ret ?_
    refine then_ret ?_
    refine ret_one (.inl rfl) rfl 0 (.bool true) (by kernel_rfl) (by kernel_rfl) (fun w hT => ?_)
    exact ⟨rfl, hT.post rfl⟩
  replace c28_ := of_decide_eq_false c28_
  refine bS [0, 0, 0, 0, 0, 0, 0, 0, 0, 0, 0, 0] 15 0 [(0, .int .i64 w_), (1, .int .i64 h_), (5, .pointer none), (6, .int .i64 1), (7, .bool false)] ?_
  refine cont_done ?_
  refine then_normal ?_
  refine cont_seq ?_
  refine cont_seq ?_
  refine cont_region 18 rfl ?_
  refine bS [0, 0, 0, 0, 0, 0, 0, 0, 0, 0, 0, 0, 0, 0, 0, 0, 0, 0] 18 0 [(0, .int .i64 w_), (1, .int .i64 h_), (5, .pointer none), (45, .bool false)] ?_
  refine cont_done ?_
  refine then_normal ?_
  refine cont_false rfl ?_
  refine cont_skip ?_
  refine then_normal ?_
  refine cont_seq ?_
  refine cont_seq ?_
  refine cont_region 2 rfl ?_
  refine bS [0, 0] 2 0 [(0, .int .i64 w_), (1, .int .i64 h_), (5, .pointer none), (47, .bool true)] ?_
  refine cont_done ?_
  refine then_normal ?_
  refine cont_true rfl ?_
  refine cont_seq ?_
  refine cont_region 2 rfl ?_
  refine pl_step 1 1 rfl rfl ?_
  refine call_pure (d := 48) (.bool true) (by kernel_rfl) (fun w hT => lives18  w) ?_
  refine bS [0] 2 0 [(4, .bool true)] ?_
  refine cont_done ?_
  refine then_normal ?_
  refine cont_ret ?_
  refine then_ret ?_
  refine ret_one (.inl rfl) rfl 0 (.bool true) (by kernel_rfl) (by kernel_rfl) (fun w hT => ?_)
  exact ⟨rfl, hT.post rfl⟩

end Go.Proofs.Ytgmonhehilcegaa
