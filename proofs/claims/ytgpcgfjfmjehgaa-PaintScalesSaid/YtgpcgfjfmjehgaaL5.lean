/- Contracts of functions of the given program, printed by a program of this project. -/
import Derived.Test.YtgpcgfjfmjehgaaL5p1
import Derived.Test.YtgpcgfjfmjehgaaProg
set_option linter.unusedVariables false
set_option linter.unusedSimpArgs false
namespace Go.Proofs.Ytgpcgfjfmjehgaa
open Go Go.RowKit
set_option maxRecDepth 100000

theorem refCut (a b c d a' b' c' d' : Int) (w : World) :
    Calls Try.prog 29 #[.agg #[.int .i64 a, .int .i64 b, .int .i64 c, .int .i64 d], .agg #[.int .i64 a', .int .i64 b', .int .i64 c', .int .i64 d']] w fun e w' => e = .returned (.agg #[.int .i64 ((cutR a b c d a' b' c' d').x0), .int .i64 ((cutR a b c d a' b' c' d').y0), .int .i64 ((cutR a b c d a' b' c' d').x1), .int .i64 ((cutR a b c d a' b' c' d').y1)]) ∧ Below w.heap.size w w' := by
  refine enter 43 [(0, .agg #[.int .i64 a, .int .i64 b, .int .i64 c, .int .i64 d]), (1, .agg #[.int .i64 a', .int .i64 b', .int .i64 c', .int .i64 d'])] [] Try.func29 rfl Try.ntmps29 rfl (by kernel_rfl) (Tab.start w) ?_
  refine cont_seq ?_
  refine cont_region 3 rfl ?_
  refine batch3 [0, 0, 0] 3 0 (fun b1 b2 b3 => [(2, .pointer (some ⟨b1, 0, none⟩)), (3, .pointer (some ⟨b2, 0, none⟩)), (4, .pointer (some ⟨b3, 0, none⟩))]) (fun b1 b2 b3 => [.cells b3 [.int .i64 0, .int .i64 0, .int .i64 0, .int .i64 0] 28 true, .cells b2 [.int .i64 a', .int .i64 b', .int .i64 c', .int .i64 d'] 28 true, .cells b1 [.int .i64 a, .int .i64 b, .int .i64 c, .int .i64 d] 28 true]) rfl rfl [2, 3, 4] (fun _ _ _ => rfl) (fun b1 b2 b3 => by kernel_rfl) (fun b1 b2 b3 => by kernel_rfl) (fun b1 b2 b3 => ?_)
  refine cont_done ?_
  refine then_normal ?_
  refine cont_seq ?_
  refine cont_region 3 rfl ?_
  refine batch1 [2, 0, 0] 3 0 (fun b4 => [(3, .pointer (some ⟨b2, 0, none⟩)), (4, .pointer (some ⟨b3, 0, none⟩)), (5, .pointer (some ⟨b4, 0, none⟩))]) (fun b4 => [.cells b4 [.int .i64 a, .int .i64 b, .int .i64 c, .int .i64 d] 28 true, .cells b3 [.int .i64 0, .int .i64 0, .int .i64 0, .int .i64 0] 28 true, .cells b2 [.int .i64 a', .int .i64 b', .int .i64 c', .int .i64 d'] 28 true, .cells b1 [.int .i64 a, .int .i64 b, .int .i64 c, .int .i64 d] 28 true]) rfl rfl [3, 4, 5] (fun _ => rfl) (fun b4 => by kernel_rfl) (fun b4 => by kernel_rfl) (fun b4 => ?_)
  refine cont_forget 3 rfl ?_
  refine cont_done ?_
  refine then_normal ?_
  refine cont_seq ?_
  refine cont_seq ?_
  refine cont_region 5 rfl ?_
  refine batch0 [0, 2, 0, 0, 0] 5 0 [(3, .pointer (some ⟨b2, 0, none⟩)), (4, .pointer (some ⟨b3, 0, none⟩)), (5, .pointer (some ⟨b4, 0, none⟩)), (11, .bool (decide (a' > a)))] [.cells b4 [.int .i64 a, .int .i64 b, .int .i64 c, .int .i64 d] 28 true, .cells b3 [.int .i64 0, .int .i64 0, .int .i64 0, .int .i64 0] 28 true, .cells b2 [.int .i64 a', .int .i64 b', .int .i64 c', .int .i64 d'] 28 true] rfl rfl (by kernel_rfl) (by kernel_rfl) ?_
  refine cont_done ?_
  refine then_normal ?_
  refine cont_split 11 (decide (a' > a)) rfl (fun c5_ => ?_) (fun c5_ => ?_)
  ·
    replace c5_ := of_decide_eq_true c5_
    refine cont_true rfl ?_
    refine cont_region 4 rfl ?_
    refine batch0 [0, 2, 0, 0] 4 0 [(3, .pointer (some ⟨b2, 0, none⟩)), (4, .pointer (some ⟨b3, 0, none⟩)), (5, .pointer (some ⟨b4, 0, none⟩))] [.cells b4 [.int .i64 a', .int .i64 b, .int .i64 c, .int .i64 d] 28 true, .cells b3 [.int .i64 0, .int .i64 0, .int .i64 0, .int .i64 0] 28 true, .cells b2 [.int .i64 a', .int .i64 b', .int .i64 c', .int .i64 d'] 28 true] rfl rfl (by kernel_rfl) (by kernel_rfl) ?_
    refine cont_done ?_
    refine then_normal ?_
    refine cont_seq ?_
    refine cont_seq ?_
    refine cont_region 5 rfl ?_
    refine batch0 [0, 2, 0, 0, 0] 5 0 [(3, .pointer (some ⟨b2, 0, none⟩)), (4, .pointer (some ⟨b3, 0, none⟩)), (5, .pointer (some ⟨b4, 0, none⟩)), (19, .bool (decide (b' > b)))] [.cells b4 [.int .i64 a', .int .i64 b, .int .i64 c, .int .i64 d] 28 true, .cells b3 [.int .i64 0, .int .i64 0, .int .i64 0, .int .i64 0] 28 true, .cells b2 [.int .i64 a', .int .i64 b', .int .i64 c', .int .i64 d'] 28 true] rfl rfl (by kernel_rfl) (by kernel_rfl) ?_
    refine cont_done ?_
    refine then_normal ?_
    refine cont_split 19 (decide (b' > b)) rfl (fun c6_ => ?_) (fun c6_ => ?_)
    ·
      replace c6_ := of_decide_eq_true c6_
      refine cont_true rfl ?_
      refine cont_region 4 rfl ?_
      refine batch0 [0, 2, 0, 0] 4 0 [(3, .pointer (some ⟨b2, 0, none⟩)), (4, .pointer (some ⟨b3, 0, none⟩)), (5, .pointer (some ⟨b4, 0, none⟩))] [.cells b4 [.int .i64 a', .int .i64 b', .int .i64 c, .int .i64 d] 28 true, .cells b3 [.int .i64 0, .int .i64 0, .int .i64 0, .int .i64 0] 28 true, .cells b2 [.int .i64 a', .int .i64 b', .int .i64 c', .int .i64 d'] 28 true] rfl rfl (by kernel_rfl) (by kernel_rfl) ?_
      refine cont_done ?_
      refine then_normal ?_
      refine cont_seq ?_
      refine cont_seq ?_
      refine cont_region 5 rfl ?_
      refine batch0 [0, 2, 0, 0, 0] 5 0 [(3, .pointer (some ⟨b2, 0, none⟩)), (4, .pointer (some ⟨b3, 0, none⟩)), (5, .pointer (some ⟨b4, 0, none⟩)), (27, .bool (decide (c' < c)))] [.cells b4 [.int .i64 a', .int .i64 b', .int .i64 c, .int .i64 d] 28 true, .cells b3 [.int .i64 0, .int .i64 0, .int .i64 0, .int .i64 0] 28 true, .cells b2 [.int .i64 a', .int .i64 b', .int .i64 c', .int .i64 d'] 28 true] rfl rfl (by kernel_rfl) (by kernel_rfl) ?_
      refine cont_done ?_
      refine then_normal ?_
      refine cont_split 27 (decide (c' < c)) rfl (fun c7_ => ?_) (fun c7_ => ?_)
      ·
        replace c7_ := of_decide_eq_true c7_
        refine cont_true rfl ?_
        refine cont_region 4 rfl ?_
        refine batch0 [0, 2, 0, 0] 4 0 [(3, .pointer (some ⟨b2, 0, none⟩)), (4, .pointer (some ⟨b3, 0, none⟩)), (5, .pointer (some ⟨b4, 0, none⟩))] [.cells b4 [.int .i64 a', .int .i64 b', .int .i64 c', .int .i64 d] 28 true, .cells b3 [.int .i64 0, .int .i64 0, .int .i64 0, .int .i64 0] 28 true, .cells b2 [.int .i64 a', .int .i64 b', .int .i64 c', .int .i64 d'] 28 true] rfl rfl (by kernel_rfl) (by kernel_rfl) ?_
        refine cont_done ?_
        refine then_normal ?_
        refine cont_seq ?_
        refine cont_seq ?_
        refine cont_region 5 rfl ?_
        refine batch0 [0, 2, 0, 0, 0] 5 0 [(3, .pointer (some ⟨b2, 0, none⟩)), (4, .pointer (some ⟨b3, 0, none⟩)), (5, .pointer (some ⟨b4, 0, none⟩)), (35, .bool (decide (d' < d)))] [.cells b4 [.int .i64 a', .int .i64 b', .int .i64 c', .int .i64 d] 28 true, .cells b3 [.int .i64 0, .int .i64 0, .int .i64 0, .int .i64 0] 28 true, .cells b2 [.int .i64 a', .int .i64 b', .int .i64 c', .int .i64 d'] 28 true] rfl rfl (by kernel_rfl) (by kernel_rfl) ?_
        refine cont_done ?_
        refine then_normal ?_
        refine cont_split 35 (decide (d' < d)) rfl (fun c8_ => ?_) (fun c8_ => ?_)
        ·
          replace c8_ := of_decide_eq_true c8_
          refine cont_true rfl ?_
          refine cont_region 4 rfl ?_
          refine batch0 [0, 2, 0, 0] 4 0 [(4, .pointer (some ⟨b3, 0, none⟩)), (5, .pointer (some ⟨b4, 0, none⟩))] [.cells b4 [.int .i64 a', .int .i64 b', .int .i64 c', .int .i64 d'] 28 true, .cells b3 [.int .i64 0, .int .i64 0, .int .i64 0, .int .i64 0] 28 true, .cells b2 [.int .i64 a', .int .i64 b', .int .i64 c', .int .i64 d'] 28 true] rfl rfl (by kernel_rfl) (by kernel_rfl) ?_
          refine cont_forget 2 rfl ?_
          refine cont_done ?_
          refine then_normal ?_
          refine cont_seq ?_
          refine cont_seq ?_
          refine cont_region 2 rfl ?_
          refine batch0 [0] 1 1 [(4, .pointer (some ⟨b3, 0, none⟩)), (5, .pointer (some ⟨b4, 0, none⟩)), (39, .agg #[.int .i64 a', .int .i64 b', .int .i64 c', .int .i64 d'])] [.cells b4 [.int .i64 a', .int .i64 b', .int .i64 c', .int .i64 d'] 28 true, .cells b3 [.int .i64 0, .int .i64 0, .int .i64 0, .int .i64 0] 28 true] rfl rfl (by kernel_rfl) (by kernel_rfl) ?_
          refine pl_step 2 0 rfl rfl ?_
          refine call_pure (d := 40) (.bool (emptyB a' b' c' d')) (by kernel_rfl) (fun w hT => refEmpty a' b' c' d' w) ?_
          refine cont_done ?_
          refine then_normal ?_
          refine cont_split 40 (emptyB a' b' c' d') rfl (fun c9_ => ?_) (fun c9_ => ?_)
          ·
            refine cont_true rfl ?_
            refine cont_seq ?_
            refine cont_region 2 rfl ?_
            refine batch0 [0, 1] 2 0 [(4, .pointer (some ⟨b3, 0, none⟩))] [.cells b4 [.int .i64 a', .int .i64 b', .int .i64 c', .int .i64 d'] 28 true, .cells b3 [.int .i64 0, .int .i64 0, .int .i64 0, .int .i64 0] 28 true] rfl rfl (by kernel_rfl) (by kernel_rfl) ?_
            refine cont_forget 0 rfl ?_
            refine cont_done ?_
            refine then_normal ?_
            refine cont_ret ?_
            refine then_ret ?_
            refine ret_one (.inl rfl) rfl 0 (.agg #[.int .i64 0, .int .i64 0, .int .i64 0, .int .i64 0]) (by kernel_rfl) (by kernel_rfl) (fun w hT => ?_)
            have he_ := emptyB_true.1 ‹_›
            exact ⟨by rw [cutR, emptyB_true.2 (by omega)]; rfl, hT.post rfl⟩
          refine cont_false rfl ?_
          refine cont_skip ?_
          refine then_normal ?_
          refine cont_seq ?_
          refine cont_region 2 rfl ?_
          refine batch0 [0, 1] 2 0 [(4, .pointer (some ⟨b3, 0, none⟩))] [.cells b4 [.int .i64 a', .int .i64 b', .int .i64 c', .int .i64 d'] 28 true, .cells b3 [.int .i64 a', .int .i64 b', .int .i64 c', .int .i64 d'] 28 true] rfl rfl (by kernel_rfl) (by kernel_rfl) ?_
          refine cont_forget 0 rfl ?_
          refine cont_done ?_
          refine then_normal ?_
          refine cont_ret ?_
          refine ret_one (.inl rfl) rfl 0 (.agg #[.int .i64 a', .int .i64 b', .int .i64 c', .int .i64 d']) (by kernel_rfl) (by kernel_rfl) (fun w hT => ?_)
          have he_ := emptyB_false.1 ‹_›
          exact ⟨by rw [cutR, show max a a' = a' by omega, show max b b' = b' by omega, show min c c' = c' by omega, show min d d' = d' by omega, emptyB_false.2 he_]; rfl, hT.post rfl⟩
        replace c8_ := of_decide_eq_false c8_
        refine cont_false rfl ?_
        refine cont_skip ?_
        refine then_normal ?_
        refine cont_seq ?_
        refine cont_seq ?_
        refine cont_region 2 rfl ?_
        refine batch0 [0] 1 1 [(4, .pointer (some ⟨b3, 0, none⟩)), (5, .pointer (some ⟨b4, 0, none⟩)), (39, .agg #[.int .i64 a', .int .i64 b', .int .i64 c', .int .i64 d])] [.cells b4 [.int .i64 a', .int .i64 b', .int .i64 c', .int .i64 d] 28 true, .cells b3 [.int .i64 0, .int .i64 0, .int .i64 0, .int .i64 0] 28 true, .cells b2 [.int .i64 a', .int .i64 b', .int .i64 c', .int .i64 d'] 28 true] rfl rfl (by kernel_rfl) (by kernel_rfl) ?_
        refine cont_forget 2 rfl ?_
        refine pl_step 2 0 rfl rfl ?_
        refine call_pure (d := 40) (.bool (emptyB a' b' c' d)) (by kernel_rfl) (fun w hT => refEmpty a' b' c' d w) ?_
        refine cont_done ?_
        refine then_normal ?_
        refine cont_split 40 (emptyB a' b' c' d) rfl (fun c10_ => ?_) (fun c10_ => ?_)
        ·
          refine cont_true rfl ?_
          refine cont_seq ?_
          refine cont_region 2 rfl ?_
          refine batch0 [0, 1] 2 0 [(4, .pointer (some ⟨b3, 0, none⟩))] [.cells b4 [.int .i64 a', .int .i64 b', .int .i64 c', .int .i64 d] 28 true, .cells b3 [.int .i64 0, .int .i64 0, .int .i64 0, .int .i64 0] 28 true] rfl rfl (by kernel_rfl) (by kernel_rfl) ?_
          refine cont_forget 0 rfl ?_
          refine cont_done ?_
          refine then_normal ?_
          refine cont_ret ?_
          refine then_ret ?_
          refine ret_one (.inl rfl) rfl 0 (.agg #[.int .i64 0, .int .i64 0, .int .i64 0, .int .i64 0]) (by kernel_rfl) (by kernel_rfl) (fun w hT => ?_)
          have he_ := emptyB_true.1 ‹_›
          exact ⟨by rw [cutR, emptyB_true.2 (by omega)]; rfl, hT.post rfl⟩
        refine cont_false rfl ?_
        refine cont_skip ?_
        refine then_normal ?_
        refine cont_seq ?_
        refine cont_region 2 rfl ?_
        refine batch0 [0, 1] 2 0 [(4, .pointer (some ⟨b3, 0, none⟩))] [.cells b4 [.int .i64 a', .int .i64 b', .int .i64 c', .int .i64 d] 28 true, .cells b3 [.int .i64 a', .int .i64 b', .int .i64 c', .int .i64 d] 28 true] rfl rfl (by kernel_rfl) (by kernel_rfl) ?_
        refine cont_forget 0 rfl ?_
        refine cont_done ?_
        refine then_normal ?_
        refine cont_ret ?_
        refine ret_one (.inl rfl) rfl 0 (.agg #[.int .i64 a', .int .i64 b', .int .i64 c', .int .i64 d]) (by kernel_rfl) (by kernel_rfl) (fun w hT => ?_)
        have he_ := emptyB_false.1 ‹_›
        exact ⟨by rw [cutR, show max a a' = a' by omega, show max b b' = b' by omega, show min c c' = c' by omega, show min d d' = d by omega, emptyB_false.2 he_]; rfl, hT.post rfl⟩
      replace c7_ := of_decide_eq_false c7_
      refine cont_false rfl ?_
      refine cont_skip ?_
      refine then_normal ?_
      refine cont_seq ?_
      refine cont_seq ?_
      refine cont_region 5 rfl ?_
      refine batch0 [0, 2, 0, 0, 0] 5 0 [(3, .pointer (some ⟨b2, 0, none⟩)), (4, .pointer (some ⟨b3, 0, none⟩)), (5, .pointer (some ⟨b4, 0, none⟩)), (35, .bool (decide (d' < d)))] [.cells b4 [.int .i64 a', .int .i64 b', .int .i64 c, .int .i64 d] 28 true, .cells b3 [.int .i64 0, .int .i64 0, .int .i64 0, .int .i64 0] 28 true, .cells b2 [.int .i64 a', .int .i64 b', .int .i64 c', .int .i64 d'] 28 true] rfl rfl (by kernel_rfl) (by kernel_rfl) ?_
      refine cont_done ?_
      refine then_normal ?_
      refine cont_split 35 (decide (d' < d)) rfl (fun c11_ => ?_) (fun c11_ => ?_)
      ·
        replace c11_ := of_decide_eq_true c11_
        refine cont_true rfl ?_
        refine cont_region 4 rfl ?_
        refine batch0 [0, 2, 0, 0] 4 0 [(4, .pointer (some ⟨b3, 0, none⟩)), (5, .pointer (some ⟨b4, 0, none⟩))] [.cells b4 [.int .i64 a', .int .i64 b', .int .i64 c, .int .i64 d'] 28 true, .cells b3 [.int .i64 0, .int .i64 0, .int .i64 0, .int .i64 0] 28 true, .cells b2 [.int .i64 a', .int .i64 b', .int .i64 c', .int .i64 d'] 28 true] rfl rfl (by kernel_rfl) (by kernel_rfl) ?_
        refine cont_forget 2 rfl ?_
        refine cont_done ?_
        refine then_normal ?_
        refine cont_seq ?_
        refine cont_seq ?_
        refine cont_region 2 rfl ?_
        refine batch0 [0] 1 1 [(4, .pointer (some ⟨b3, 0, none⟩)), (5, .pointer (some ⟨b4, 0, none⟩)), (39, .agg #[.int .i64 a', .int .i64 b', .int .i64 c, .int .i64 d'])] [.cells b4 [.int .i64 a', .int .i64 b', .int .i64 c, .int .i64 d'] 28 true, .cells b3 [.int .i64 0, .int .i64 0, .int .i64 0, .int .i64 0] 28 true] rfl rfl (by kernel_rfl) (by kernel_rfl) ?_
        refine pl_step 2 0 rfl rfl ?_
        refine call_pure (d := 40) (.bool (emptyB a' b' c d')) (by kernel_rfl) (fun w hT => refEmpty a' b' c d' w) ?_
        refine cont_done ?_
        refine then_normal ?_
        refine cont_split 40 (emptyB a' b' c d') rfl (fun c12_ => ?_) (fun c12_ => ?_)
        ·
          refine cont_true rfl ?_
          refine cont_seq ?_
          refine cont_region 2 rfl ?_
          refine batch0 [0, 1] 2 0 [(4, .pointer (some ⟨b3, 0, none⟩))] [.cells b4 [.int .i64 a', .int .i64 b', .int .i64 c, .int .i64 d'] 28 true, .cells b3 [.int .i64 0, .int .i64 0, .int .i64 0, .int .i64 0] 28 true] rfl rfl (by kernel_rfl) (by kernel_rfl) ?_
          refine cont_forget 0 rfl ?_
          refine cont_done ?_
          refine then_normal ?_
          refine cont_ret ?_
          refine then_ret ?_
          refine ret_one (.inl rfl) rfl 0 (.agg #[.int .i64 0, .int .i64 0, .int .i64 0, .int .i64 0]) (by kernel_rfl) (by kernel_rfl) (fun w hT => ?_)
          have he_ := emptyB_true.1 ‹_›
          exact ⟨by rw [cutR, emptyB_true.2 (by omega)]; rfl, hT.post rfl⟩
        refine cont_false rfl ?_
        refine cont_skip ?_
        refine then_normal ?_
        refine cont_seq ?_
        refine cont_region 2 rfl ?_
        refine batch0 [0, 1] 2 0 [(4, .pointer (some ⟨b3, 0, none⟩))] [.cells b4 [.int .i64 a', .int .i64 b', .int .i64 c, .int .i64 d'] 28 true, .cells b3 [.int .i64 a', .int .i64 b', .int .i64 c, .int .i64 d'] 28 true] rfl rfl (by kernel_rfl) (by kernel_rfl) ?_
        refine cont_forget 0 rfl ?_
        refine cont_done ?_
        refine then_normal ?_
        refine cont_ret ?_
        refine ret_one (.inl rfl) rfl 0 (.agg #[.int .i64 a', .int .i64 b', .int .i64 c, .int .i64 d']) (by kernel_rfl) (by kernel_rfl) (fun w hT => ?_)
        have he_ := emptyB_false.1 ‹_›
        exact ⟨by rw [cutR, show max a a' = a' by omega, show max b b' = b' by omega, show min c c' = c by omega, show min d d' = d' by omega, emptyB_false.2 he_]; rfl, hT.post rfl⟩
      replace c11_ := of_decide_eq_false c11_
      refine cont_false rfl ?_
      refine cont_skip ?_
      refine then_normal ?_
      refine cont_seq ?_
      refine cont_seq ?_
      refine cont_region 2 rfl ?_
      refine batch0 [0] 1 1 [(4, .pointer (some ⟨b3, 0, none⟩)), (5, .pointer (some ⟨b4, 0, none⟩)), (39, .agg #[.int .i64 a', .int .i64 b', .int .i64 c, .int .i64 d])] [.cells b4 [.int .i64 a', .int .i64 b', .int .i64 c, .int .i64 d] 28 true, .cells b3 [.int .i64 0, .int .i64 0, .int .i64 0, .int .i64 0] 28 true, .cells b2 [.int .i64 a', .int .i64 b', .int .i64 c', .int .i64 d'] 28 true] rfl rfl (by kernel_rfl) (by kernel_rfl) ?_
      refine cont_forget 2 rfl ?_
      refine pl_step 2 0 rfl rfl ?_
      refine call_pure (d := 40) (.bool (emptyB a' b' c d)) (by kernel_rfl) (fun w hT => refEmpty a' b' c d w) ?_
      refine cont_done ?_
      refine then_normal ?_
      refine cont_split 40 (emptyB a' b' c d) rfl (fun c13_ => ?_) (fun c13_ => ?_)
      ·
        refine cont_true rfl ?_
        refine cont_seq ?_
        refine cont_region 2 rfl ?_
        refine batch0 [0, 1] 2 0 [(4, .pointer (some ⟨b3, 0, none⟩))] [.cells b4 [.int .i64 a', .int .i64 b', .int .i64 c, .int .i64 d] 28 true, .cells b3 [.int .i64 0, .int .i64 0, .int .i64 0, .int .i64 0] 28 true] rfl rfl (by kernel_rfl) (by kernel_rfl) ?_
        refine cont_forget 0 rfl ?_
        refine cont_done ?_
        refine then_normal ?_
        refine cont_ret ?_
        refine then_ret ?_
        refine ret_one (.inl rfl) rfl 0 (.agg #[.int .i64 0, .int .i64 0, .int .i64 0, .int .i64 0]) (by kernel_rfl) (by kernel_rfl) (fun w hT => ?_)
        have he_ := emptyB_true.1 ‹_›
        exact ⟨by rw [cutR, emptyB_true.2 (by omega)]; rfl, hT.post rfl⟩
      refine cont_false rfl ?_
      refine cont_skip ?_
      refine then_normal ?_
      refine cont_seq ?_
      refine cont_region 2 rfl ?_
      refine batch0 [0, 1] 2 0 [(4, .pointer (some ⟨b3, 0, none⟩))] [.cells b4 [.int .i64 a', .int .i64 b', .int .i64 c, .int .i64 d] 28 true, .cells b3 [.int .i64 a', .int .i64 b', .int .i64 c, .int .i64 d] 28 true] rfl rfl (by kernel_rfl) (by kernel_rfl) ?_
      refine cont_forget 0 rfl ?_
      refine cont_done ?_
      refine then_normal ?_
      refine cont_ret ?_
      refine ret_one (.inl rfl) rfl 0 (.agg #[.int .i64 a', .int .i64 b', .int .i64 c, .int .i64 d]) (by kernel_rfl) (by kernel_rfl) (fun w hT => ?_)
      have he_ := emptyB_false.1 ‹_›
      exact ⟨by rw [cutR, show max a a' = a' by omega, show max b b' = b' by omega, show min c c' = c by omega, show min d d' = d by omega, emptyB_false.2 he_]; rfl, hT.post rfl⟩
    replace c6_ := of_decide_eq_false c6_
    refine cont_false rfl ?_
    refine cont_skip ?_
    refine then_normal ?_
    refine cont_seq ?_
    refine cont_seq ?_
    refine cont_region 5 rfl ?_
    refine batch0 [0, 2, 0, 0, 0] 5 0 [(3, .pointer (some ⟨b2, 0, none⟩)), (4, .pointer (some ⟨b3, 0, none⟩)), (5, .pointer (some ⟨b4, 0, none⟩)), (27, .bool (decide (c' < c)))] [.cells b4 [.int .i64 a', .int .i64 b, .int .i64 c, .int .i64 d] 28 true, .cells b3 [.int .i64 0, .int .i64 0, .int .i64 0, .int .i64 0] 28 true, .cells b2 [.int .i64 a', .int .i64 b', .int .i64 c', .int .i64 d'] 28 true] rfl rfl (by kernel_rfl) (by kernel_rfl) ?_
    refine cont_done ?_
    refine then_normal ?_
    refine cont_split 27 (decide (c' < c)) rfl (fun c14_ => ?_) (fun c14_ => ?_)
    ·
      replace c14_ := of_decide_eq_true c14_
      refine cont_true rfl ?_
      refine cont_region 4 rfl ?_
      refine batch0 [0, 2, 0, 0] 4 0 [(3, .pointer (some ⟨b2, 0, none⟩)), (4, .pointer (some ⟨b3, 0, none⟩)), (5, .pointer (some ⟨b4, 0, none⟩))] [.cells b4 [.int .i64 a', .int .i64 b, .int .i64 c', .int .i64 d] 28 true, .cells b3 [.int .i64 0, .int .i64 0, .int .i64 0, .int .i64 0] 28 true, .cells b2 [.int .i64 a', .int .i64 b', .int .i64 c', .int .i64 d'] 28 true] rfl rfl (by kernel_rfl) (by kernel_rfl) ?_
      refine cont_done ?_
      refine then_normal ?_
      refine cont_seq ?_
      refine cont_seq ?_
      refine cont_region 5 rfl ?_
      refine batch0 [0, 2, 0, 0, 0] 5 0 [(3, .pointer (some ⟨b2, 0, none⟩)), (4, .pointer (some ⟨b3, 0, none⟩)), (5, .pointer (some ⟨b4, 0, none⟩)), (35, .bool (decide (d' < d)))] [.cells b4 [.int .i64 a', .int .i64 b, .int .i64 c', .int .i64 d] 28 true, .cells b3 [.int .i64 0, .int .i64 0, .int .i64 0, .int .i64 0] 28 true, .cells b2 [.int .i64 a', .int .i64 b', .int .i64 c', .int .i64 d'] 28 true] rfl rfl (by kernel_rfl) (by kernel_rfl) ?_
      refine cont_done ?_
      refine then_normal ?_
      refine cont_split 35 (decide (d' < d)) rfl (fun c15_ => ?_) (fun c15_ => ?_)
      ·
        replace c15_ := of_decide_eq_true c15_
        refine cont_true rfl ?_
        refine cont_region 4 rfl ?_
        refine batch0 [0, 2, 0, 0] 4 0 [(4, .pointer (some ⟨b3, 0, none⟩)), (5, .pointer (some ⟨b4, 0, none⟩))] [.cells b4 [.int .i64 a', .int .i64 b, .int .i64 c', .int .i64 d'] 28 true, .cells b3 [.int .i64 0, .int .i64 0, .int .i64 0, .int .i64 0] 28 true, .cells b2 [.int .i64 a', .int .i64 b', .int .i64 c', .int .i64 d'] 28 true] rfl rfl (by kernel_rfl) (by kernel_rfl) ?_
        refine cont_forget 2 rfl ?_
        refine cont_done ?_
        refine then_normal ?_
        refine cont_seq ?_
        refine cont_seq ?_
        refine cont_region 2 rfl ?_
        refine batch0 [0] 1 1 [(4, .pointer (some ⟨b3, 0, none⟩)), (5, .pointer (some ⟨b4, 0, none⟩)), (39, .agg #[.int .i64 a', .int .i64 b, .int .i64 c', .int .i64 d'])] [.cells b4 [.int .i64 a', .int .i64 b, .int .i64 c', .int .i64 d'] 28 true, .cells b3 [.int .i64 0, .int .i64 0, .int .i64 0, .int .i64 0] 28 true] rfl rfl (by kernel_rfl) (by kernel_rfl) ?_
        refine pl_step 2 0 rfl rfl ?_
        refine call_pure (d := 40) (.bool (emptyB a' b c' d')) (by kernel_rfl) (fun w hT => refEmpty a' b c' d' w) ?_
        refine cont_done ?_
        refine then_normal ?_
        refine cont_split 40 (emptyB a' b c' d') rfl (fun c16_ => ?_) (fun c16_ => ?_)
        ·
          refine cont_true rfl ?_
          refine cont_seq ?_
          refine cont_region 2 rfl ?_
          refine batch0 [0, 1] 2 0 [(4, .pointer (some ⟨b3, 0, none⟩))] [.cells b4 [.int .i64 a', .int .i64 b, .int .i64 c', .int .i64 d'] 28 true, .cells b3 [.int .i64 0, .int .i64 0, .int .i64 0, .int .i64 0] 28 true] rfl rfl (by kernel_rfl) (by kernel_rfl) ?_
          refine cont_forget 0 rfl ?_
          refine cont_done ?_
          refine then_normal ?_
          refine cont_ret ?_
          refine then_ret ?_
          refine ret_one (.inl rfl) rfl 0 (.agg #[.int .i64 0, .int .i64 0, .int .i64 0, .int .i64 0]) (by kernel_rfl) (by kernel_rfl) (fun w hT => ?_)
          have he_ := emptyB_true.1 ‹_›
          exact ⟨by rw [cutR, emptyB_true.2 (by omega)]; rfl, hT.post rfl⟩
        refine cont_false rfl ?_
        refine cont_skip ?_
        refine then_normal ?_
        refine cont_seq ?_
        refine cont_region 2 rfl ?_
        refine batch0 [0, 1] 2 0 [(4, .pointer (some ⟨b3, 0, none⟩))] [.cells b4 [.int .i64 a', .int .i64 b, .int .i64 c', .int .i64 d'] 28 true, .cells b3 [.int .i64 a', .int .i64 b, .int .i64 c', .int .i64 d'] 28 true] rfl rfl (by kernel_rfl) (by kernel_rfl) ?_
        refine cont_forget 0 rfl ?_
        refine cont_done ?_
        refine then_normal ?_
        refine cont_ret ?_
        refine ret_one (.inl rfl) rfl 0 (.agg #[.int .i64 a', .int .i64 b, .int .i64 c', .int .i64 d']) (by kernel_rfl) (by kernel_rfl) (fun w hT => ?_)
        have he_ := emptyB_false.1 ‹_›
        exact ⟨by rw [cutR, show max a a' = a' by omega, show max b b' = b by omega, show min c c' = c' by omega, show min d d' = d' by omega, emptyB_false.2 he_]; rfl, hT.post rfl⟩
      replace c15_ := of_decide_eq_false c15_
      refine cont_false rfl ?_
      refine cont_skip ?_
      refine then_normal ?_
      refine cont_seq ?_
      refine cont_seq ?_
      refine cont_region 2 rfl ?_
      refine batch0 [0] 1 1 [(4, .pointer (some ⟨b3, 0, none⟩)), (5, .pointer (some ⟨b4, 0, none⟩)), (39, .agg #[.int .i64 a', .int .i64 b, .int .i64 c', .int .i64 d])] [.cells b4 [.int .i64 a', .int .i64 b, .int .i64 c', .int .i64 d] 28 true, .cells b3 [.int .i64 0, .int .i64 0, .int .i64 0, .int .i64 0] 28 true, .cells b2 [.int .i64 a', .int .i64 b', .int .i64 c', .int .i64 d'] 28 true] rfl rfl (by kernel_rfl) (by kernel_rfl) ?_
      refine cont_forget 2 rfl ?_
      refine pl_step 2 0 rfl rfl ?_
      refine call_pure (d := 40) (.bool (emptyB a' b c' d)) (by kernel_rfl) (fun w hT => refEmpty a' b c' d w) ?_
      refine cont_done ?_
      refine then_normal ?_
      refine cont_split 40 (emptyB a' b c' d) rfl (fun c17_ => ?_) (fun c17_ => ?_)
      ·
        refine cont_true rfl ?_
        refine cont_seq ?_
        refine cont_region 2 rfl ?_
        refine batch0 [0, 1] 2 0 [(4, .pointer (some ⟨b3, 0, none⟩))] [.cells b4 [.int .i64 a', .int .i64 b, .int .i64 c', .int .i64 d] 28 true, .cells b3 [.int .i64 0, .int .i64 0, .int .i64 0, .int .i64 0] 28 true] rfl rfl (by kernel_rfl) (by kernel_rfl) ?_
        refine cont_forget 0 rfl ?_
        refine cont_done ?_
        refine then_normal ?_
        refine cont_ret ?_
        refine then_ret ?_
        refine ret_one (.inl rfl) rfl 0 (.agg #[.int .i64 0, .int .i64 0, .int .i64 0, .int .i64 0]) (by kernel_rfl) (by kernel_rfl) (fun w hT => ?_)
        have he_ := emptyB_true.1 ‹_›
        exact ⟨by rw [cutR, emptyB_true.2 (by omega)]; rfl, hT.post rfl⟩
      refine cont_false rfl ?_
      refine cont_skip ?_
      refine then_normal ?_
      refine cont_seq ?_
      refine cont_region 2 rfl ?_
      refine batch0 [0, 1] 2 0 [(4, .pointer (some ⟨b3, 0, none⟩))] [.cells b4 [.int .i64 a', .int .i64 b, .int .i64 c', .int .i64 d] 28 true, .cells b3 [.int .i64 a', .int .i64 b, .int .i64 c', .int .i64 d] 28 true] rfl rfl (by kernel_rfl) (by kernel_rfl) ?_
      refine cont_forget 0 rfl ?_
      refine cont_done ?_
      refine then_normal ?_
      refine cont_ret ?_
      refine ret_one (.inl rfl) rfl 0 (.agg #[.int .i64 a', .int .i64 b, .int .i64 c', .int .i64 d]) (by kernel_rfl) (by kernel_rfl) (fun w hT => ?_)
      have he_ := emptyB_false.1 ‹_›
      exact ⟨by rw [cutR, show max a a' = a' by omega, show max b b' = b by omega, show min c c' = c' by omega, show min d d' = d by omega, emptyB_false.2 he_]; rfl, hT.post rfl⟩
    replace c14_ := of_decide_eq_false c14_
    refine cont_false rfl ?_
    refine cont_skip ?_
    refine then_normal ?_
    refine cont_seq ?_
    refine cont_seq ?_
    refine cont_region 5 rfl ?_
    refine batch0 [0, 2, 0, 0, 0] 5 0 [(3, .pointer (some ⟨b2, 0, none⟩)), (4, .pointer (some ⟨b3, 0, none⟩)), (5, .pointer (some ⟨b4, 0, none⟩)), (35, .bool (decide (d' < d)))] [.cells b4 [.int .i64 a', .int .i64 b, .int .i64 c, .int .i64 d] 28 true, .cells b3 [.int .i64 0, .int .i64 0, .int .i64 0, .int .i64 0] 28 true, .cells b2 [.int .i64 a', .int .i64 b', .int .i64 c', .int .i64 d'] 28 true] rfl rfl (by kernel_rfl) (by kernel_rfl) ?_
    refine cont_done ?_
    refine then_normal ?_
    refine cont_split 35 (decide (d' < d)) rfl (fun c18_ => ?_) (fun c18_ => ?_)
    ·
      replace c18_ := of_decide_eq_true c18_
      refine cont_true rfl ?_
      refine cont_region 4 rfl ?_
      refine batch0 [0, 2, 0, 0] 4 0 [(4, .pointer (some ⟨b3, 0, none⟩)), (5, .pointer (some ⟨b4, 0, none⟩))] [.cells b4 [.int .i64 a', .int .i64 b, .int .i64 c, .int .i64 d'] 28 true, .cells b3 [.int .i64 0, .int .i64 0, .int .i64 0, .int .i64 0] 28 true, .cells b2 [.int .i64 a', .int .i64 b', .int .i64 c', .int .i64 d'] 28 true] rfl rfl (by kernel_rfl) (by kernel_rfl) ?_
      refine cont_forget 2 rfl ?_
      refine cont_done ?_
      refine then_normal ?_
      refine cont_seq ?_
      refine cont_seq ?_
      refine cont_region 2 rfl ?_
      refine batch0 [0] 1 1 [(4, .pointer (some ⟨b3, 0, none⟩)), (5, .pointer (some ⟨b4, 0, none⟩)), (39, .agg #[.int .i64 a', .int .i64 b, .int .i64 c, .int .i64 d'])] [.cells b4 [.int .i64 a', .int .i64 b, .int .i64 c, .int .i64 d'] 28 true, .cells b3 [.int .i64 0, .int .i64 0, .int .i64 0, .int .i64 0] 28 true] rfl rfl (by kernel_rfl) (by kernel_rfl) ?_
      refine pl_step 2 0 rfl rfl ?_
      refine call_pure (d := 40) (.bool (emptyB a' b c d')) (by kernel_rfl) (fun w hT => refEmpty a' b c d' w) ?_
      refine cont_done ?_
      refine then_normal ?_
      refine cont_split 40 (emptyB a' b c d') rfl (fun c19_ => ?_) (fun c19_ => ?_)
      ·
        refine cont_true rfl ?_
        refine cont_seq ?_
        refine cont_region 2 rfl ?_
        refine batch0 [0, 1] 2 0 [(4, .pointer (some ⟨b3, 0, none⟩))] [.cells b4 [.int .i64 a', .int .i64 b, .int .i64 c, .int .i64 d'] 28 true, .cells b3 [.int .i64 0, .int .i64 0, .int .i64 0, .int .i64 0] 28 true] rfl rfl (by kernel_rfl) (by kernel_rfl) ?_
        refine cont_forget 0 rfl ?_
        refine cont_done ?_
        refine then_normal ?_
        refine cont_ret ?_
        refine then_ret ?_
        refine ret_one (.inl rfl) rfl 0 (.agg #[.int .i64 0, .int .i64 0, .int .i64 0, .int .i64 0]) (by kernel_rfl) (by kernel_rfl) (fun w hT => ?_)
        have he_ := emptyB_true.1 ‹_›
        exact ⟨by rw [cutR, emptyB_true.2 (by omega)]; rfl, hT.post rfl⟩
      refine cont_false rfl ?_
      refine cont_skip ?_
      refine then_normal ?_
      refine cont_seq ?_
      refine cont_region 2 rfl ?_
      refine batch0 [0, 1] 2 0 [(4, .pointer (some ⟨b3, 0, none⟩))] [.cells b4 [.int .i64 a', .int .i64 b, .int .i64 c, .int .i64 d'] 28 true, .cells b3 [.int .i64 a', .int .i64 b, .int .i64 c, .int .i64 d'] 28 true] rfl rfl (by kernel_rfl) (by kernel_rfl) ?_
      refine cont_forget 0 rfl ?_
      refine cont_done ?_
      refine then_normal ?_
      refine cont_ret ?_
      refine ret_one (.inl rfl) rfl 0 (.agg #[.int .i64 a', .int .i64 b, .int .i64 c, .int .i64 d']) (by kernel_rfl) (by kernel_rfl) (fun w hT => ?_)
      have he_ := emptyB_false.1 ‹_›
      exact ⟨by rw [cutR, show max a a' = a' by omega, show max b b' = b by omega, show min c c' = c by omega, show min d d' = d' by omega, emptyB_false.2 he_]; rfl, hT.post rfl⟩
    replace c18_ := of_decide_eq_false c18_
    refine cont_false rfl ?_
    refine cont_skip ?_
    refine then_normal ?_
    refine cont_seq ?_
    refine cont_seq ?_
    refine cont_region 2 rfl ?_
    refine batch0 [0] 1 1 [(4, .pointer (some ⟨b3, 0, none⟩)), (5, .pointer (some ⟨b4, 0, none⟩)), (39, .agg #[.int .i64 a', .int .i64 b, .int .i64 c, .int .i64 d])] [.cells b4 [.int .i64 a', .int .i64 b, .int .i64 c, .int .i64 d] 28 true, .cells b3 [.int .i64 0, .int .i64 0, .int .i64 0, .int .i64 0] 28 true, .cells b2 [.int .i64 a', .int .i64 b', .int .i64 c', .int .i64 d'] 28 true] rfl rfl (by kernel_rfl) (by kernel_rfl) ?_
    refine cont_forget 2 rfl ?_
    refine pl_step 2 0 rfl rfl ?_
    refine call_pure (d := 40) (.bool (emptyB a' b c d)) (by kernel_rfl) (fun w hT => refEmpty a' b c d w) ?_
    refine cont_done ?_
    refine then_normal ?_
    refine cont_split 40 (emptyB a' b c d) rfl (fun c20_ => ?_) (fun c20_ => ?_)
    ·
      refine cont_true rfl ?_
      refine cont_seq ?_
      refine cont_region 2 rfl ?_
      refine batch0 [0, 1] 2 0 [(4, .pointer (some ⟨b3, 0, none⟩))] [.cells b4 [.int .i64 a', .int .i64 b, .int .i64 c, .int .i64 d] 28 true, .cells b3 [.int .i64 0, .int .i64 0, .int .i64 0, .int .i64 0] 28 true] rfl rfl (by kernel_rfl) (by kernel_rfl) ?_
      refine cont_forget 0 rfl ?_
      refine cont_done ?_
      refine then_normal ?_
      refine cont_ret ?_
      refine then_ret ?_
      refine ret_one (.inl rfl) rfl 0 (.agg #[.int .i64 0, .int .i64 0, .int .i64 0, .int .i64 0]) (by kernel_rfl) (by kernel_rfl) (fun w hT => ?_)
      have he_ := emptyB_true.1 ‹_›
      exact ⟨by rw [cutR, emptyB_true.2 (by omega)]; rfl, hT.post rfl⟩
    refine cont_false rfl ?_
    refine cont_skip ?_
    refine then_normal ?_
    refine cont_seq ?_
    refine cont_region 2 rfl ?_
    refine batch0 [0, 1] 2 0 [(4, .pointer (some ⟨b3, 0, none⟩))] [.cells b4 [.int .i64 a', .int .i64 b, .int .i64 c, .int .i64 d] 28 true, .cells b3 [.int .i64 a', .int .i64 b, .int .i64 c, .int .i64 d] 28 true] rfl rfl (by kernel_rfl) (by kernel_rfl) ?_
    refine cont_forget 0 rfl ?_
    refine cont_done ?_
    refine then_normal ?_
    refine cont_ret ?_
    refine ret_one (.inl rfl) rfl 0 (.agg #[.int .i64 a', .int .i64 b, .int .i64 c, .int .i64 d]) (by kernel_rfl) (by kernel_rfl) (fun w hT => ?_)
    have he_ := emptyB_false.1 ‹_›
    exact ⟨by rw [cutR, show max a a' = a' by omega, show max b b' = b by omega, show min c c' = c by omega, show min d d' = d by omega, emptyB_false.2 he_]; rfl, hT.post rfl⟩
  replace c5_ := of_decide_eq_false c5_
  refine cont_false rfl ?_
  refine cont_skip ?_
  refine then_normal ?_
  refine cont_seq ?_
  refine cont_seq ?_
  refine cont_region 5 rfl ?_
  refine batch0 [0, 2, 0, 0, 0] 5 0 [(3, .pointer (some ⟨b2, 0, none⟩)), (4, .pointer (some ⟨b3, 0, none⟩)), (5, .pointer (some ⟨b4, 0, none⟩)), (19, .bool (decide (b' > b)))] [.cells b4 [.int .i64 a, .int .i64 b, .int .i64 c, .int .i64 d] 28 true, .cells b3 [.int .i64 0, .int .i64 0, .int .i64 0, .int .i64 0] 28 true, .cells b2 [.int .i64 a', .int .i64 b', .int .i64 c', .int .i64 d'] 28 true] rfl rfl (by kernel_rfl) (by kernel_rfl) ?_
  refine cont_done ?_
  refine then_normal ?_
  refine cont_split 19 (decide (b' > b)) rfl (fun c21_ => ?_) (fun c21_ => ?_)
  ·
    replace c21_ := of_decide_eq_true c21_
    refine cont_true rfl ?_
    refine cont_region 4 rfl ?_
    refine batch0 [0, 2, 0, 0] 4 0 [(3, .pointer (some ⟨b2, 0, none⟩)), (4, .pointer (some ⟨b3, 0, none⟩)), (5, .pointer (some ⟨b4, 0, none⟩))] [.cells b4 [.int .i64 a, .int .i64 b', .int .i64 c, .int .i64 d] 28 true, .cells b3 [.int .i64 0, .int .i64 0, .int .i64 0, .int .i64 0] 28 true, .cells b2 [.int .i64 a', .int .i64 b', .int .i64 c', .int .i64 d'] 28 true] rfl rfl (by kernel_rfl) (by kernel_rfl) ?_
    refine cont_done ?_
    refine then_normal ?_
    refine cont_seq ?_
    refine cont_seq ?_
    refine cont_region 5 rfl ?_
    refine batch0 [0, 2, 0, 0, 0] 5 0 [(3, .pointer (some ⟨b2, 0, none⟩)), (4, .pointer (some ⟨b3, 0, none⟩)), (5, .pointer (some ⟨b4, 0, none⟩)), (27, .bool (decide (c' < c)))] [.cells b4 [.int .i64 a, .int .i64 b', .int .i64 c, .int .i64 d] 28 true, .cells b3 [.int .i64 0, .int .i64 0, .int .i64 0, .int .i64 0] 28 true, .cells b2 [.int .i64 a', .int .i64 b', .int .i64 c', .int .i64 d'] 28 true] rfl rfl (by kernel_rfl) (by kernel_rfl) ?_
    refine cont_done ?_
    refine then_normal ?_
    refine cont_split 27 (decide (c' < c)) rfl (fun c22_ => ?_) (fun c22_ => ?_)
    ·
      replace c22_ := of_decide_eq_true c22_
      refine cont_true rfl ?_
      refine cont_region 4 rfl ?_
      refine batch0 [0, 2, 0, 0] 4 0 [(3, .pointer (some ⟨b2, 0, none⟩)), (4, .pointer (some ⟨b3, 0, none⟩)), (5, .pointer (some ⟨b4, 0, none⟩))] [.cells b4 [.int .i64 a, .int .i64 b', .int .i64 c', .int .i64 d] 28 true, .cells b3 [.int .i64 0, .int .i64 0, .int .i64 0, .int .i64 0] 28 true, .cells b2 [.int .i64 a', .int .i64 b', .int .i64 c', .int .i64 d'] 28 true] rfl rfl (by kernel_rfl) (by kernel_rfl) ?_
      refine cont_done ?_
      refine then_normal ?_
      refine cont_seq ?_
      refine cont_seq ?_
      refine cont_region 5 rfl ?_
      refine batch0 [0, 2, 0, 0, 0] 5 0 [(3, .pointer (some ⟨b2, 0, none⟩)), (4, .pointer (some ⟨b3, 0, none⟩)), (5, .pointer (some ⟨b4, 0, none⟩)), (35, .bool (decide (d' < d)))] [.cells b4 [.int .i64 a, .int .i64 b', .int .i64 c', .int .i64 d] 28 true, .cells b3 [.int .i64 0, .int .i64 0, .int .i64 0, .int .i64 0] 28 true, .cells b2 [.int .i64 a', .int .i64 b', .int .i64 c', .int .i64 d'] 28 true] rfl rfl (by kernel_rfl) (by kernel_rfl) ?_
      refine cont_done ?_
      refine then_normal ?_
      refine cont_split 35 (decide (d' < d)) rfl (fun c23_ => ?_) (fun c23_ => ?_)
      ·
        replace c23_ := of_decide_eq_true c23_
        refine cont_true rfl ?_
        refine cont_region 4 rfl ?_
        refine batch0 [0, 2, 0, 0] 4 0 [(4, .pointer (some ⟨b3, 0, none⟩)), (5, .pointer (some ⟨b4, 0, none⟩))] [.cells b4 [.int .i64 a, .int .i64 b', .int .i64 c', .int .i64 d'] 28 true, .cells b3 [.int .i64 0, .int .i64 0, .int .i64 0, .int .i64 0] 28 true, .cells b2 [.int .i64 a', .int .i64 b', .int .i64 c', .int .i64 d'] 28 true] rfl rfl (by kernel_rfl) (by kernel_rfl) ?_
        refine cont_forget 2 rfl ?_
        refine cont_done ?_
        refine then_normal ?_
        refine cont_seq ?_
        refine cont_seq ?_
        refine cont_region 2 rfl ?_
        refine batch0 [0] 1 1 [(4, .pointer (some ⟨b3, 0, none⟩)), (5, .pointer (some ⟨b4, 0, none⟩)), (39, .agg #[.int .i64 a, .int .i64 b', .int .i64 c', .int .i64 d'])] [.cells b4 [.int .i64 a, .int .i64 b', .int .i64 c', .int .i64 d'] 28 true, .cells b3 [.int .i64 0, .int .i64 0, .int .i64 0, .int .i64 0] 28 true] rfl rfl (by kernel_rfl) (by kernel_rfl) ?_
        refine pl_step 2 0 rfl rfl ?_
        refine call_pure (d := 40) (.bool (emptyB a b' c' d')) (by kernel_rfl) (fun w hT => refEmpty a b' c' d' w) ?_
        refine cont_done ?_
        refine then_normal ?_
        refine cont_split 40 (emptyB a b' c' d') rfl (fun c24_ => ?_) (fun c24_ => ?_)
        ·
          refine cont_true rfl ?_
          refine cont_seq ?_
          refine cont_region 2 rfl ?_
          refine batch0 [0, 1] 2 0 [(4, .pointer (some ⟨b3, 0, none⟩))] [.cells b4 [.int .i64 a, .int .i64 b', .int .i64 c', .int .i64 d'] 28 true, .cells b3 [.int .i64 0, .int .i64 0, .int .i64 0, .int .i64 0] 28 true] rfl rfl (by kernel_rfl) (by kernel_rfl) ?_
          refine cont_forget 0 rfl ?_
          refine cont_done ?_
          refine then_normal ?_
          refine cont_ret ?_
          refine then_ret ?_
          refine ret_one (.inl rfl) rfl 0 (.agg #[.int .i64 0, .int .i64 0, .int .i64 0, .int .i64 0]) (by kernel_rfl) (by kernel_rfl) (fun w hT => ?_)
          have he_ := emptyB_true.1 ‹_›
          exact ⟨by rw [cutR, emptyB_true.2 (by omega)]; rfl, hT.post rfl⟩
        refine cont_false rfl ?_
        refine cont_skip ?_
        refine then_normal ?_
        refine cont_seq ?_
        refine cont_region 2 rfl ?_
        refine batch0 [0, 1] 2 0 [(4, .pointer (some ⟨b3, 0, none⟩))] [.cells b4 [.int .i64 a, .int .i64 b', .int .i64 c', .int .i64 d'] 28 true, .cells b3 [.int .i64 a, .int .i64 b', .int .i64 c', .int .i64 d'] 28 true] rfl rfl (by kernel_rfl) (by kernel_rfl) ?_
        refine cont_forget 0 rfl ?_
        refine cont_done ?_
        refine then_normal ?_
        refine cont_ret ?_
        refine ret_one (.inl rfl) rfl 0 (.agg #[.int .i64 a, .int .i64 b', .int .i64 c', .int .i64 d']) (by kernel_rfl) (by kernel_rfl) (fun w hT => ?_)
        have he_ := emptyB_false.1 ‹_›
        exact ⟨by rw [cutR, show max a a' = a by omega, show max b b' = b' by omega, show min c c' = c' by omega, show min d d' = d' by omega, emptyB_false.2 he_]; rfl, hT.post rfl⟩
      replace c23_ := of_decide_eq_false c23_
      refine cont_false rfl ?_
      refine cont_skip ?_
      refine then_normal ?_
      refine cont_seq ?_
      refine cont_seq ?_
      refine cont_region 2 rfl ?_
      refine batch0 [0] 1 1 [(4, .pointer (some ⟨b3, 0, none⟩)), (5, .pointer (some ⟨b4, 0, none⟩)), (39, .agg #[.int .i64 a, .int .i64 b', .int .i64 c', .int .i64 d])] [.cells b4 [.int .i64 a, .int .i64 b', .int .i64 c', .int .i64 d] 28 true, .cells b3 [.int .i64 0, .int .i64 0, .int .i64 0, .int .i64 0] 28 true, .cells b2 [.int .i64 a', .int .i64 b', .int .i64 c', .int .i64 d'] 28 true] rfl rfl (by kernel_rfl) (by kernel_rfl) ?_
      refine cont_forget 2 rfl ?_
      refine pl_step 2 0 rfl rfl ?_
      refine call_pure (d := 40) (.bool (emptyB a b' c' d)) (by kernel_rfl) (fun w hT => refEmpty a b' c' d w) ?_
      refine cont_done ?_
      refine then_normal ?_
      refine cont_split 40 (emptyB a b' c' d) rfl (fun c25_ => ?_) (fun c25_ => ?_)
      ·
        refine cont_true rfl ?_
        refine cont_seq ?_
        refine cont_region 2 rfl ?_
        refine batch0 [0, 1] 2 0 [(4, .pointer (some ⟨b3, 0, none⟩))] [.cells b4 [.int .i64 a, .int .i64 b', .int .i64 c', .int .i64 d] 28 true, .cells b3 [.int .i64 0, .int .i64 0, .int .i64 0, .int .i64 0] 28 true] rfl rfl (by kernel_rfl) (by kernel_rfl) ?_
        refine cont_forget 0 rfl ?_
        refine cont_done ?_
        refine then_normal ?_
        refine cont_ret ?_
        refine then_ret ?_
        refine ret_one (.inl rfl) rfl 0 (.agg #[.int .i64 0, .int .i64 0, .int .i64 0, .int .i64 0]) (by kernel_rfl) (by kernel_rfl) (fun w hT => ?_)
        have he_ := emptyB_true.1 ‹_›
        exact ⟨by rw [cutR, emptyB_true.2 (by omega)]; rfl, hT.post rfl⟩
      refine cont_false rfl ?_
      refine cont_skip ?_
      refine then_normal ?_
      refine cont_seq ?_
      refine cont_region 2 rfl ?_
      refine batch0 [0, 1] 2 0 [(4, .pointer (some ⟨b3, 0, none⟩))] [.cells b4 [.int .i64 a, .int .i64 b', .int .i64 c', .int .i64 d] 28 true, .cells b3 [.int .i64 a, .int .i64 b', .int .i64 c', .int .i64 d] 28 true] rfl rfl (by kernel_rfl) (by kernel_rfl) ?_
      refine cont_forget 0 rfl ?_
      refine cont_done ?_
      refine then_normal ?_
      refine cont_ret ?_
      refine ret_one (.inl rfl) rfl 0 (.agg #[.int .i64 a, .int .i64 b', .int .i64 c', .int .i64 d]) (by kernel_rfl) (by kernel_rfl) (fun w hT => ?_)
      have he_ := emptyB_false.1 ‹_›
      exact ⟨by rw [cutR, show max a a' = a by omega, show max b b' = b' by omega, show min c c' = c' by omega, show min d d' = d by omega, emptyB_false.2 he_]; rfl, hT.post rfl⟩
    replace c22_ := of_decide_eq_false c22_
    refine cont_false rfl ?_
    refine cont_skip ?_
    refine then_normal ?_
    refine cont_seq ?_
    refine cont_seq ?_
    refine cont_region 5 rfl ?_
    refine batch0 [0, 2, 0, 0, 0] 5 0 [(3, .pointer (some ⟨b2, 0, none⟩)), (4, .pointer (some ⟨b3, 0, none⟩)), (5, .pointer (some ⟨b4, 0, none⟩)), (35, .bool (decide (d' < d)))] [.cells b4 [.int .i64 a, .int .i64 b', .int .i64 c, .int .i64 d] 28 true, .cells b3 [.int .i64 0, .int .i64 0, .int .i64 0, .int .i64 0] 28 true, .cells b2 [.int .i64 a', .int .i64 b', .int .i64 c', .int .i64 d'] 28 true] rfl rfl (by kernel_rfl) (by kernel_rfl) ?_
    refine cont_done ?_
    refine then_normal ?_
    refine cont_split 35 (decide (d' < d)) rfl (fun c26_ => ?_) (fun c26_ => ?_)
    ·
      replace c26_ := of_decide_eq_true c26_
      refine cont_true rfl ?_
      refine cont_region 4 rfl ?_
      refine batch0 [0, 2, 0, 0] 4 0 [(4, .pointer (some ⟨b3, 0, none⟩)), (5, .pointer (some ⟨b4, 0, none⟩))] [.cells b4 [.int .i64 a, .int .i64 b', .int .i64 c, .int .i64 d'] 28 true, .cells b3 [.int .i64 0, .int .i64 0, .int .i64 0, .int .i64 0] 28 true, .cells b2 [.int .i64 a', .int .i64 b', .int .i64 c', .int .i64 d'] 28 true] rfl rfl (by kernel_rfl) (by kernel_rfl) ?_
      refine cont_forget 2 rfl ?_
      refine cont_done ?_
      refine then_normal ?_
      refine cont_seq ?_
      refine cont_seq ?_
      refine cont_region 2 rfl ?_
      refine batch0 [0] 1 1 [(4, .pointer (some ⟨b3, 0, none⟩)), (5, .pointer (some ⟨b4, 0, none⟩)), (39, .agg #[.int .i64 a, .int .i64 b', .int .i64 c, .int .i64 d'])] [.cells b4 [.int .i64 a, .int .i64 b', .int .i64 c, .int .i64 d'] 28 true, .cells b3 [.int .i64 0, .int .i64 0, .int .i64 0, .int .i64 0] 28 true] rfl rfl (by kernel_rfl) (by kernel_rfl) ?_
      refine pl_step 2 0 rfl rfl ?_
      refine call_pure (d := 40) (.bool (emptyB a b' c d')) (by kernel_rfl) (fun w hT => refEmpty a b' c d' w) ?_
      refine cont_done ?_
      refine then_normal ?_
      refine cont_split 40 (emptyB a b' c d') rfl (fun c27_ => ?_) (fun c27_ => ?_)
      ·
        refine cont_true rfl ?_
        refine cont_seq ?_
        refine cont_region 2 rfl ?_
        refine batch0 [0, 1] 2 0 [(4, .pointer (some ⟨b3, 0, none⟩))] [.cells b4 [.int .i64 a, .int .i64 b', .int .i64 c, .int .i64 d'] 28 true, .cells b3 [.int .i64 0, .int .i64 0, .int .i64 0, .int .i64 0] 28 true] rfl rfl (by kernel_rfl) (by kernel_rfl) ?_
        refine cont_forget 0 rfl ?_
        refine cont_done ?_
        refine then_normal ?_
        refine cont_ret ?_
        refine then_ret ?_
        refine ret_one (.inl rfl) rfl 0 (.agg #[.int .i64 0, .int .i64 0, .int .i64 0, .int .i64 0]) (by kernel_rfl) (by kernel_rfl) (fun w hT => ?_)
        have he_ := emptyB_true.1 ‹_›
        exact ⟨by rw [cutR, emptyB_true.2 (by omega)]; rfl, hT.post rfl⟩
      refine cont_false rfl ?_
      refine cont_skip ?_
      refine then_normal ?_
      refine cont_seq ?_
      refine cont_region 2 rfl ?_
      refine batch0 [0, 1] 2 0 [(4, .pointer (some ⟨b3, 0, none⟩))] [.cells b4 [.int .i64 a, .int .i64 b', .int .i64 c, .int .i64 d'] 28 true, .cells b3 [.int .i64 a, .int .i64 b', .int .i64 c, .int .i64 d'] 28 true] rfl rfl (by kernel_rfl) (by kernel_rfl) ?_
      refine cont_forget 0 rfl ?_
      refine cont_done ?_
      refine then_normal ?_
      refine cont_ret ?_
      refine ret_one (.inl rfl) rfl 0 (.agg #[.int .i64 a, .int .i64 b', .int .i64 c, .int .i64 d']) (by kernel_rfl) (by kernel_rfl) (fun w hT => ?_)
      have he_ := emptyB_false.1 ‹_›
      exact ⟨by rw [cutR, show max a a' = a by omega, show max b b' = b' by omega, show min c c' = c by omega, show min d d' = d' by omega, emptyB_false.2 he_]; rfl, hT.post rfl⟩
    replace c26_ := of_decide_eq_false c26_
    refine cont_false rfl ?_
    refine cont_skip ?_
    refine then_normal ?_
    refine cont_seq ?_
    refine cont_seq ?_
    refine cont_region 2 rfl ?_
    refine batch0 [0] 1 1 [(4, .pointer (some ⟨b3, 0, none⟩)), (5, .pointer (some ⟨b4, 0, none⟩)), (39, .agg #[.int .i64 a, .int .i64 b', .int .i64 c, .int .i64 d])] [.cells b4 [.int .i64 a, .int .i64 b', .int .i64 c, .int .i64 d] 28 true, .cells b3 [.int .i64 0, .int .i64 0, .int .i64 0, .int .i64 0] 28 true, .cells b2 [.int .i64 a', .int .i64 b', .int .i64 c', .int .i64 d'] 28 true] rfl rfl (by kernel_rfl) (by kernel_rfl) ?_
    refine cont_forget 2 rfl ?_
    refine pl_step 2 0 rfl rfl ?_
    refine call_pure (d := 40) (.bool (emptyB a b' c d)) (by kernel_rfl) (fun w hT => refEmpty a b' c d w) ?_
    refine cont_done ?_
    refine then_normal ?_
    refine cont_split 40 (emptyB a b' c d) rfl (fun c28_ => ?_) (fun c28_ => ?_)
    ·
      refine cont_true rfl ?_
      refine cont_seq ?_
      refine cont_region 2 rfl ?_
      refine batch0 [0, 1] 2 0 [(4, .pointer (some ⟨b3, 0, none⟩))] [.cells b4 [.int .i64 a, .int .i64 b', .int .i64 c, .int .i64 d] 28 true, .cells b3 [.int .i64 0, .int .i64 0, .int .i64 0, .int .i64 0] 28 true] rfl rfl (by kernel_rfl) (by kernel_rfl) ?_
      refine cont_forget 0 rfl ?_
      refine cont_done ?_
      refine then_normal ?_
      refine cont_ret ?_
      refine then_ret ?_
      refine ret_one (.inl rfl) rfl 0 (.agg #[.int .i64 0, .int .i64 0, .int .i64 0, .int .i64 0]) (by kernel_rfl) (by kernel_rfl) (fun w hT => ?_)
      have he_ := emptyB_true.1 ‹_›
      exact ⟨by rw [cutR, emptyB_true.2 (by omega)]; rfl, hT.post rfl⟩
    refine cont_false rfl ?_
    refine cont_skip ?_
    refine then_normal ?_
    refine cont_seq ?_
    refine cont_region 2 rfl ?_
    refine batch0 [0, 1] 2 0 [(4, .pointer (some ⟨b3, 0, none⟩))] [.cells b4 [.int .i64 a, .int .i64 b', .int .i64 c, .int .i64 d] 28 true, .cells b3 [.int .i64 a, .int .i64 b', .int .i64 c, .int .i64 d] 28 true] rfl rfl (by kernel_rfl) (by kernel_rfl) ?_
    refine cont_forget 0 rfl ?_
    refine cont_done ?_
    refine then_normal ?_
    refine cont_ret ?_
    refine ret_one (.inl rfl) rfl 0 (.agg #[.int .i64 a, .int .i64 b', .int .i64 c, .int .i64 d]) (by kernel_rfl) (by kernel_rfl) (fun w hT => ?_)
    have he_ := emptyB_false.1 ‹_›
    exact ⟨by rw [cutR, show max a a' = a by omega, show max b b' = b' by omega, show min c c' = c by omega, show min d d' = d by omega, emptyB_false.2 he_]; rfl, hT.post rfl⟩
  replace c21_ := of_decide_eq_false c21_
  refine cont_false rfl ?_
  refine cont_skip ?_
  refine then_normal ?_
  refine cont_seq ?_
  refine cont_seq ?_
  refine cont_region 5 rfl ?_
  refine batch0 [0, 2, 0, 0, 0] 5 0 [(3, .pointer (some ⟨b2, 0, none⟩)), (4, .pointer (some ⟨b3, 0, none⟩)), (5, .pointer (some ⟨b4, 0, none⟩)), (27, .bool (decide (c' < c)))] [.cells b4 [.int .i64 a, .int .i64 b, .int .i64 c, .int .i64 d] 28 true, .cells b3 [.int .i64 0, .int .i64 0, .int .i64 0, .int .i64 0] 28 true, .cells b2 [.int .i64 a', .int .i64 b', .int .i64 c', .int .i64 d'] 28 true] rfl rfl (by kernel_rfl) (by kernel_rfl) ?_
  refine cont_done ?_
  refine then_normal ?_
  refine cont_split 27 (decide (c' < c)) rfl (fun c29_ => ?_) (fun c29_ => ?_)
  ·
    replace c29_ := of_decide_eq_true c29_
    refine cont_true rfl ?_
    refine cont_region 4 rfl ?_
    refine batch0 [0, 2, 0, 0] 4 0 [(3, .pointer (some ⟨b2, 0, none⟩)), (4, .pointer (some ⟨b3, 0, none⟩)), (5, .pointer (some ⟨b4, 0, none⟩))] [.cells b4 [.int .i64 a, .int .i64 b, .int .i64 c', .int .i64 d] 28 true, .cells b3 [.int .i64 0, .int .i64 0, .int .i64 0, .int .i64 0] 28 true, .cells b2 [.int .i64 a', .int .i64 b', .int .i64 c', .int .i64 d'] 28 true] rfl rfl (by kernel_rfl) (by kernel_rfl) ?_
    refine cont_done ?_
    refine then_normal ?_
    refine cont_seq ?_
    refine cont_seq ?_
    refine cont_region 5 rfl ?_
    refine batch0 [0, 2, 0, 0, 0] 5 0 [(3, .pointer (some ⟨b2, 0, none⟩)), (4, .pointer (some ⟨b3, 0, none⟩)), (5, .pointer (some ⟨b4, 0, none⟩)), (35, .bool (decide (d' < d)))] [.cells b4 [.int .i64 a, .int .i64 b, .int .i64 c', .int .i64 d] 28 true, .cells b3 [.int .i64 0, .int .i64 0, .int .i64 0, .int .i64 0] 28 true, .cells b2 [.int .i64 a', .int .i64 b', .int .i64 c', .int .i64 d'] 28 true] rfl rfl (by kernel_rfl) (by kernel_rfl) ?_
    refine cont_done ?_
    refine then_normal ?_
    refine cont_split 35 (decide (d' < d)) rfl (fun c30_ => ?_) (fun c30_ => ?_)
    ·
      replace c30_ := of_decide_eq_true c30_
      refine cont_true rfl ?_
      refine cont_region 4 rfl ?_
      refine batch0 [0, 2, 0, 0] 4 0 [(4, .pointer (some ⟨b3, 0, none⟩)), (5, .pointer (some ⟨b4, 0, none⟩))] [.cells b4 [.int .i64 a, .int .i64 b, .int .i64 c', .int .i64 d'] 28 true, .cells b3 [.int .i64 0, .int .i64 0, .int .i64 0, .int .i64 0] 28 true, .cells b2 [.int .i64 a', .int .i64 b', .int .i64 c', .int .i64 d'] 28 true] rfl rfl (by kernel_rfl) (by kernel_rfl) ?_
      refine cont_forget 2 rfl ?_
      refine cont_done ?_
      refine then_normal ?_
      refine cont_seq ?_
      refine cont_seq ?_
      refine cont_region 2 rfl ?_
      refine batch0 [0] 1 1 [(4, .pointer (some ⟨b3, 0, none⟩)), (5, .pointer (some ⟨b4, 0, none⟩)), (39, .agg #[.int .i64 a, .int .i64 b, .int .i64 c', .int .i64 d'])] [.cells b4 [.int .i64 a, .int .i64 b, .int .i64 c', .int .i64 d'] 28 true, .cells b3 [.int .i64 0, .int .i64 0, .int .i64 0, .int .i64 0] 28 true] rfl rfl (by kernel_rfl) (by kernel_rfl) ?_
      refine pl_step 2 0 rfl rfl ?_
      refine call_pure (d := 40) (.bool (emptyB a b c' d')) (by kernel_rfl) (fun w hT => refEmpty a b c' d' w) ?_
      refine cont_done ?_
      refine then_normal ?_
      refine cont_split 40 (emptyB a b c' d') rfl (fun c31_ => ?_) (fun c31_ => ?_)
      ·
        refine cont_true rfl ?_
        refine cont_seq ?_
        refine cont_region 2 rfl ?_
        refine batch0 [0, 1] 2 0 [(4, .pointer (some ⟨b3, 0, none⟩))] [.cells b4 [.int .i64 a, .int .i64 b, .int .i64 c', .int .i64 d'] 28 true, .cells b3 [.int .i64 0, .int .i64 0, .int .i64 0, .int .i64 0] 28 true] rfl rfl (by kernel_rfl) (by kernel_rfl) ?_
        refine cont_forget 0 rfl ?_
        refine cont_done ?_
        refine then_normal ?_
        refine cont_ret ?_
        refine then_ret ?_
        refine ret_one (.inl rfl) rfl 0 (.agg #[.int .i64 0, .int .i64 0, .int .i64 0, .int .i64 0]) (by kernel_rfl) (by kernel_rfl) (fun w hT => ?_)
        have he_ := emptyB_true.1 ‹_›
        exact ⟨by rw [cutR, emptyB_true.2 (by omega)]; rfl, hT.post rfl⟩
      refine cont_false rfl ?_
      refine cont_skip ?_
      refine then_normal ?_
      refine cont_seq ?_
      refine cont_region 2 rfl ?_
      refine batch0 [0, 1] 2 0 [(4, .pointer (some ⟨b3, 0, none⟩))] [.cells b4 [.int .i64 a, .int .i64 b, .int .i64 c', .int .i64 d'] 28 true, .cells b3 [.int .i64 a, .int .i64 b, .int .i64 c', .int .i64 d'] 28 true] rfl rfl (by kernel_rfl) (by kernel_rfl) ?_
      refine cont_forget 0 rfl ?_
      refine cont_done ?_
      refine then_normal ?_
      refine cont_ret ?_
      refine ret_one (.inl rfl) rfl 0 (.agg #[.int .i64 a, .int .i64 b, .int .i64 c', .int .i64 d']) (by kernel_rfl) (by kernel_rfl) (fun w hT => ?_)
      have he_ := emptyB_false.1 ‹_›
      exact ⟨by rw [cutR, show max a a' = a by omega, show max b b' = b by omega, show min c c' = c' by omega, show min d d' = d' by omega, emptyB_false.2 he_]; rfl, hT.post rfl⟩
    replace c30_ := of_decide_eq_false c30_
    refine cont_false rfl ?_
    refine cont_skip ?_
    refine then_normal ?_
    refine cont_seq ?_
    refine cont_seq ?_
    refine cont_region 2 rfl ?_
    refine batch0 [0] 1 1 [(4, .pointer (some ⟨b3, 0, none⟩)), (5, .pointer (some ⟨b4, 0, none⟩)), (39, .agg #[.int .i64 a, .int .i64 b, .int .i64 c', .int .i64 d])] [.cells b4 [.int .i64 a, .int .i64 b, .int .i64 c', .int .i64 d] 28 true, .cells b3 [.int .i64 0, .int .i64 0, .int .i64 0, .int .i64 0] 28 true, .cells b2 [.int .i64 a', .int .i64 b', .int .i64 c', .int .i64 d'] 28 true] rfl rfl (by kernel_rfl) (by kernel_rfl) ?_
    refine cont_forget 2 rfl ?_
    refine pl_step 2 0 rfl rfl ?_
    refine call_pure (d := 40) (.bool (emptyB a b c' d)) (by kernel_rfl) (fun w hT => refEmpty a b c' d w) ?_
    refine cont_done ?_
    refine then_normal ?_
    refine cont_split 40 (emptyB a b c' d) rfl (fun c32_ => ?_) (fun c32_ => ?_)
    ·
      refine cont_true rfl ?_
      refine cont_seq ?_
      refine cont_region 2 rfl ?_
      refine batch0 [0, 1] 2 0 [(4, .pointer (some ⟨b3, 0, none⟩))] [.cells b4 [.int .i64 a, .int .i64 b, .int .i64 c', .int .i64 d] 28 true, .cells b3 [.int .i64 0, .int .i64 0, .int .i64 0, .int .i64 0] 28 true] rfl rfl (by kernel_rfl) (by kernel_rfl) ?_
      refine cont_forget 0 rfl ?_
      refine cont_done ?_
      refine then_normal ?_
      refine cont_ret ?_
      refine then_ret ?_
      refine ret_one (.inl rfl) rfl 0 (.agg #[.int .i64 0, .int .i64 0, .int .i64 0, .int .i64 0]) (by kernel_rfl) (by kernel_rfl) (fun w hT => ?_)
      have he_ := emptyB_true.1 ‹_›
      exact ⟨by rw [cutR, emptyB_true.2 (by omega)]; rfl, hT.post rfl⟩
    refine cont_false rfl ?_
    refine cont_skip ?_
    refine then_normal ?_
    refine cont_seq ?_
    refine cont_region 2 rfl ?_
    refine batch0 [0, 1] 2 0 [(4, .pointer (some ⟨b3, 0, none⟩))] [.cells b4 [.int .i64 a, .int .i64 b, .int .i64 c', .int .i64 d] 28 true, .cells b3 [.int .i64 a, .int .i64 b, .int .i64 c', .int .i64 d] 28 true] rfl rfl (by kernel_rfl) (by kernel_rfl) ?_
    refine cont_forget 0 rfl ?_
    refine cont_done ?_
    refine then_normal ?_
    refine cont_ret ?_
    refine ret_one (.inl rfl) rfl 0 (.agg #[.int .i64 a, .int .i64 b, .int .i64 c', .int .i64 d]) (by kernel_rfl) (by kernel_rfl) (fun w hT => ?_)
    have he_ := emptyB_false.1 ‹_›
    exact ⟨by rw [cutR, show max a a' = a by omega, show max b b' = b by omega, show min c c' = c' by omega, show min d d' = d by omega, emptyB_false.2 he_]; rfl, hT.post rfl⟩
  replace c29_ := of_decide_eq_false c29_
  refine cont_false rfl ?_
  refine cont_skip ?_
  refine then_normal ?_
  refine cont_seq ?_
  refine cont_seq ?_
  refine cont_region 5 rfl ?_
  refine batch0 [0, 2, 0, 0, 0] 5 0 [(3, .pointer (some ⟨b2, 0, none⟩)), (4, .pointer (some ⟨b3, 0, none⟩)), (5, .pointer (some ⟨b4, 0, none⟩)), (35, .bool (decide (d' < d)))] [.cells b4 [.int .i64 a, .int .i64 b, .int .i64 c, .int .i64 d] 28 true, .cells b3 [.int .i64 0, .int .i64 0, .int .i64 0, .int .i64 0] 28 true, .cells b2 [.int .i64 a', .int .i64 b', .int .i64 c', .int .i64 d'] 28 true] rfl rfl (by kernel_rfl) (by kernel_rfl) ?_
  refine cont_done ?_
  refine then_normal ?_
  refine cont_split 35 (decide (d' < d)) rfl (fun c33_ => ?_) (fun c33_ => ?_)
  ·
    replace c33_ := of_decide_eq_true c33_
    refine cont_true rfl ?_
    refine cont_region 4 rfl ?_
    refine batch0 [0, 2, 0, 0] 4 0 [(4, .pointer (some ⟨b3, 0, none⟩)), (5, .pointer (some ⟨b4, 0, none⟩))] [.cells b4 [.int .i64 a, .int .i64 b, .int .i64 c, .int .i64 d'] 28 true, .cells b3 [.int .i64 0, .int .i64 0, .int .i64 0, .int .i64 0] 28 true, .cells b2 [.int .i64 a', .int .i64 b', .int .i64 c', .int .i64 d'] 28 true] rfl rfl (by kernel_rfl) (by kernel_rfl) ?_
    refine cont_forget 2 rfl ?_
    refine cont_done ?_
    refine then_normal ?_
    refine cont_seq ?_
    refine cont_seq ?_
    refine cont_region 2 rfl ?_
    refine batch0 [0] 1 1 [(4, .pointer (some ⟨b3, 0, none⟩)), (5, .pointer (some ⟨b4, 0, none⟩)), (39, .agg #[.int .i64 a, .int .i64 b, .int .i64 c, .int .i64 d'])] [.cells b4 [.int .i64 a, .int .i64 b, .int .i64 c, .int .i64 d'] 28 true, .cells b3 [.int .i64 0, .int .i64 0, .int .i64 0, .int .i64 0] 28 true] rfl rfl (by kernel_rfl) (by kernel_rfl) ?_
    refine pl_step 2 0 rfl rfl ?_
    refine call_pure (d := 40) (.bool (emptyB a b c d')) (by kernel_rfl) (fun w hT => refEmpty a b c d' w) ?_
    refine cont_done ?_
    refine then_normal ?_
    refine cont_split 40 (emptyB a b c d') rfl (fun c34_ => ?_) (fun c34_ => ?_)
    ·
      refine cont_true rfl ?_
      refine cont_seq ?_
      refine cont_region 2 rfl ?_
      refine batch0 [0, 1] 2 0 [(4, .pointer (some ⟨b3, 0, none⟩))] [.cells b4 [.int .i64 a, .int .i64 b, .int .i64 c, .int .i64 d'] 28 true, .cells b3 [.int .i64 0, .int .i64 0, .int .i64 0, .int .i64 0] 28 true] rfl rfl (by kernel_rfl) (by kernel_rfl) ?_
      refine cont_forget 0 rfl ?_
      refine cont_done ?_
      refine then_normal ?_
      refine cont_ret ?_
      refine then_ret ?_
      refine ret_one (.inl rfl) rfl 0 (.agg #[.int .i64 0, .int .i64 0, .int .i64 0, .int .i64 0]) (by kernel_rfl) (by kernel_rfl) (fun w hT => ?_)
      have he_ := emptyB_true.1 ‹_›
      exact ⟨by rw [cutR, emptyB_true.2 (by omega)]; rfl, hT.post rfl⟩
    refine cont_false rfl ?_
    refine cont_skip ?_
    refine then_normal ?_
    refine cont_seq ?_
    refine cont_region 2 rfl ?_
    refine batch0 [0, 1] 2 0 [(4, .pointer (some ⟨b3, 0, none⟩))] [.cells b4 [.int .i64 a, .int .i64 b, .int .i64 c, .int .i64 d'] 28 true, .cells b3 [.int .i64 a, .int .i64 b, .int .i64 c, .int .i64 d'] 28 true] rfl rfl (by kernel_rfl) (by kernel_rfl) ?_
    refine cont_forget 0 rfl ?_
    refine cont_done ?_
    refine then_normal ?_
    refine cont_ret ?_
    refine ret_one (.inl rfl) rfl 0 (.agg #[.int .i64 a, .int .i64 b, .int .i64 c, .int .i64 d']) (by kernel_rfl) (by kernel_rfl) (fun w hT => ?_)
    have he_ := emptyB_false.1 ‹_›
    exact ⟨by rw [cutR, show max a a' = a by omega, show max b b' = b by omega, show min c c' = c by omega, show min d d' = d' by omega, emptyB_false.2 he_]; rfl, hT.post rfl⟩
  replace c33_ := of_decide_eq_false c33_
  refine cont_false rfl ?_
  refine cont_skip ?_
  refine then_normal ?_
  refine cont_seq ?_
  refine cont_seq ?_
  refine cont_region 2 rfl ?_
  refine batch0 [0] 1 1 [(4, .pointer (some ⟨b3, 0, none⟩)), (5, .pointer (some ⟨b4, 0, none⟩)), (39, .agg #[.int .i64 a, .int .i64 b, .int .i64 c, .int .i64 d])] [.cells b4 [.int .i64 a, .int .i64 b, .int .i64 c, .int .i64 d] 28 true, .cells b3 [.int .i64 0, .int .i64 0, .int .i64 0, .int .i64 0] 28 true, .cells b2 [.int .i64 a', .int .i64 b', .int .i64 c', .int .i64 d'] 28 true] rfl rfl (by kernel_rfl) (by kernel_rfl) ?_
  refine cont_forget 2 rfl ?_
  refine pl_step 2 0 rfl rfl ?_
  refine call_pure (d := 40) (.bool (emptyB a b c d)) (by kernel_rfl) (fun w hT => refEmpty a b c d w) ?_
  refine cont_done ?_
  refine then_normal ?_
  refine cont_split 40 (emptyB a b c d) rfl (fun c35_ => ?_) (fun c35_ => ?_)
  ·
    refine cont_true rfl ?_
    refine cont_seq ?_
    refine cont_region 2 rfl ?_
    refine batch0 [0, 1] 2 0 [(4, .pointer (some ⟨b3, 0, none⟩))] [.cells b4 [.int .i64 a, .int .i64 b, .int .i64 c, .int .i64 d] 28 true, .cells b3 [.int .i64 0, .int .i64 0, .int .i64 0, .int .i64 0] 28 true] rfl rfl (by kernel_rfl) (by kernel_rfl) ?_
    refine cont_forget 0 rfl ?_
    refine cont_done ?_
    refine then_normal ?_
    refine cont_ret ?_
    refine then_ret ?_
    refine ret_one (.inl rfl) rfl 0 (.agg #[.int .i64 0, .int .i64 0, .int .i64 0, .int .i64 0]) (by kernel_rfl) (by kernel_rfl) (fun w hT => ?_)
    have he_ := emptyB_true.1 ‹_›
    exact ⟨by rw [cutR, emptyB_true.2 (by omega)]; rfl, hT.post rfl⟩
  refine cont_false rfl ?_
  refine cont_skip ?_
  refine then_normal ?_
  refine cont_seq ?_
  refine cont_region 2 rfl ?_
  refine batch0 [0, 1] 2 0 [(4, .pointer (some ⟨b3, 0, none⟩))] [.cells b4 [.int .i64 a, .int .i64 b, .int .i64 c, .int .i64 d] 28 true, .cells b3 [.int .i64 a, .int .i64 b, .int .i64 c, .int .i64 d] 28 true] rfl rfl (by kernel_rfl) (by kernel_rfl) ?_
  refine cont_forget 0 rfl ?_
  refine cont_done ?_
  refine then_normal ?_
  refine cont_ret ?_
  refine ret_one (.inl rfl) rfl 0 (.agg #[.int .i64 a, .int .i64 b, .int .i64 c, .int .i64 d]) (by kernel_rfl) (by kernel_rfl) (fun w hT => ?_)
  have he_ := emptyB_false.1 ‹_›
  exact ⟨by rw [cutR, show max a a' = a by omega, show max b b' = b by omega, show min c c' = c by omega, show min d d' = d by omega, emptyB_false.2 he_]; rfl, hT.post rfl⟩

theorem layF (W H : Int) (ms : Value) (X Y s al ca cb cc cd : Int) (w : World) :
    Calls Try.prog 12 #[.agg #[.bool false, .int .i64 W, .int .i64 H, ms, .int .i64 X, .int .i64 Y, .int .i64 s, .int .i64 al, .int .i64 ca, .int .i64 cb, .int .i64 cc, .int .i64 cd]] w fun e w' => e = .returned (.agg #[.pointer none, .int .i64 X, .int .i64 Y, .int .i64 s, .int .i64 al, .int .i64 ca, .int .i64 cb, .int .i64 cc, .int .i64 cd]) ∧ Below w.heap.size w w' := by
  refine enter 20 [(0, .agg #[.bool false, .int .i64 W, .int .i64 H, ms, .int .i64 X, .int .i64 Y, .int .i64 s, .int .i64 al, .int .i64 ca, .int .i64 cb, .int .i64 cc, .int .i64 cd])] [] Try.func12 rfl Try.ntmps12 rfl (by kernel_rfl) (Tab.start w) ?_
  refine cont_seq ?_
  refine cont_region 2 rfl ?_
  refine batch2 [0, 0] 2 0 (fun b1 b2 => [(1, .pointer (some ⟨b1, 0, none⟩)), (2, .pointer (some ⟨b2, 0, none⟩))]) (fun b1 b2 => [.cells b2 [.pointer none, .int .i64 0, .int .i64 0, .int .i64 0, .int .i64 0, .int .i64 0, .int .i64 0, .int .i64 0, .int .i64 0] 37 true, .cells b1 [.bool false, .int .i64 W, .int .i64 H, ms, .int .i64 X, .int .i64 Y, .int .i64 s, .int .i64 al, .int .i64 ca, .int .i64 cb, .int .i64 cc, .int .i64 cd] 30 true]) rfl rfl [1, 2] (fun _ _ => rfl) (fun b1 b2 => by kernel_rfl) (fun b1 b2 => by kernel_rfl) (fun b1 b2 => ?_)
  refine cont_done ?_
  refine then_normal ?_
  refine cont_seq ?_
  refine cont_region 11 rfl ?_
  refine batch1 [0, 1, 0, 1, 0, 1, 0, 1, 0, 0, 0] 11 0 (fun b3 => [(1, .pointer (some ⟨b1, 0, none⟩)), (2, .pointer (some ⟨b2, 0, none⟩)), (3, .pointer (some ⟨b3, 0, none⟩))]) (fun b3 => [.cells b3 [.pointer none, .int .i64 X, .int .i64 Y, .int .i64 s, .int .i64 al, .int .i64 ca, .int .i64 cb, .int .i64 cc, .int .i64 cd] 37 true, .cells b2 [.pointer none, .int .i64 0, .int .i64 0, .int .i64 0, .int .i64 0, .int .i64 0, .int .i64 0, .int .i64 0, .int .i64 0] 37 true, .cells b1 [.bool false, .int .i64 W, .int .i64 H, ms, .int .i64 X, .int .i64 Y, .int .i64 s, .int .i64 al, .int .i64 ca, .int .i64 cb, .int .i64 cc, .int .i64 cd] 30 true]) rfl rfl [1, 2, 3] (fun _ => rfl) (fun b3 => by kernel_rfl) (fun b3 => by kernel_rfl) (fun b3 => ?_)
  refine cont_done ?_
  refine then_normal ?_
  refine cont_seq ?_
  refine cont_seq ?_
  refine cont_region 2 rfl ?_
  refine batch0 [0, 2] 2 0 [(1, .pointer (some ⟨b1, 0, none⟩)), (2, .pointer (some ⟨b2, 0, none⟩)), (3, .pointer (some ⟨b3, 0, none⟩)), (14, .bool false)] [.cells b3 [.pointer none, .int .i64 X, .int .i64 Y, .int .i64 s, .int .i64 al, .int .i64 ca, .int .i64 cb, .int .i64 cc, .int .i64 cd] 37 true, .cells b2 [.pointer none, .int .i64 0, .int .i64 0, .int .i64 0, .int .i64 0, .int .i64 0, .int .i64 0, .int .i64 0, .int .i64 0] 37 true, .cells b1 [.bool false, .int .i64 W, .int .i64 H, ms, .int .i64 X, .int .i64 Y, .int .i64 s, .int .i64 al, .int .i64 ca, .int .i64 cb, .int .i64 cc, .int .i64 cd] 30 true] rfl rfl (by kernel_rfl) (by kernel_rfl) ?_
  refine cont_done ?_
  refine then_normal ?_
  refine cont_false rfl ?_
  refine cont_skip ?_
  refine then_normal ?_
  refine cont_seq ?_
  refine cont_region 2 rfl ?_
  refine batch0 [0, 1] 2 0 [(2, .pointer (some ⟨b2, 0, none⟩))] [.cells b3 [.pointer none, .int .i64 X, .int .i64 Y, .int .i64 s, .int .i64 al, .int .i64 ca, .int .i64 cb, .int .i64 cc, .int .i64 cd] 37 true, .cells b2 [.pointer none, .int .i64 X, .int .i64 Y, .int .i64 s, .int .i64 al, .int .i64 ca, .int .i64 cb, .int .i64 cc, .int .i64 cd] 37 true, .cells b1 [.bool false, .int .i64 W, .int .i64 H, ms, .int .i64 X, .int .i64 Y, .int .i64 s, .int .i64 al, .int .i64 ca, .int .i64 cb, .int .i64 cc, .int .i64 cd] 30 true] rfl rfl (by kernel_rfl) (by kernel_rfl) ?_
  refine cont_forget 0 rfl ?_
  refine cont_forget 1 rfl ?_
  refine cont_done ?_
  refine then_normal ?_
  refine cont_ret ?_
  refine ret_one (.inl rfl) rfl 0 (.agg #[.pointer none, .int .i64 X, .int .i64 Y, .int .i64 s, .int .i64 al, .int .i64 ca, .int .i64 cb, .int .i64 cc, .int .i64 cd]) (by kernel_rfl) (by kernel_rfl) (fun w hT => ?_)
  exact ⟨rfl, hT.post rfl⟩

theorem layT (W H : Int) (r n cap : Nat) (px : List Int) (X Y s al ca cb cc cd : Int) (w : World) (hT0 : Tab w w [.gen (rdE (some ⟨r, 0, none⟩) r 0 n 1 (ivals .u32 px))]) (hok : ImgOk W H n px) (hmay : AllMay px) :
    Calls Try.prog 12 #[.agg #[.bool true, .int .i64 W, .int .i64 H, .slice (some ⟨r, 0, none⟩) n cap, .int .i64 X, .int .i64 Y, .int .i64 s, .int .i64 al, .int .i64 ca, .int .i64 cb, .int .i64 cc, .int .i64 cd]] w fun e w' => ∃ b q : Nat, e = .returned (.agg #[.pointer (some ⟨b, 0, none⟩), .int .i64 X, .int .i64 Y, .int .i64 s, .int .i64 al, .int .i64 ca, .int .i64 cb, .int .i64 cc, .int .i64 cd]) ∧ NewImg 99 45 w w' b W H q n n px := by
  refine enter 20 [(0, .agg #[.bool true, .int .i64 W, .int .i64 H, .slice (some ⟨r, 0, none⟩) n cap, .int .i64 X, .int .i64 Y, .int .i64 s, .int .i64 al, .int .i64 ca, .int .i64 cb, .int .i64 cc, .int .i64 cd])] [.gen (rdE (some ⟨r, 0, none⟩) r 0 n 1 (ivals .u32 px))] Try.func12 rfl Try.ntmps12 rfl (by kernel_rfl) hT0 ?_
  refine cont_seq ?_
  refine cont_region 2 rfl ?_
  refine batch2 [0, 0] 2 0 (fun b1 b2 => [(1, .pointer (some ⟨b1, 0, none⟩)), (2, .pointer (some ⟨b2, 0, none⟩))]) (fun b1 b2 => [.cells b2 [.pointer none, .int .i64 0, .int .i64 0, .int .i64 0, .int .i64 0, .int .i64 0, .int .i64 0, .int .i64 0, .int .i64 0] 37 true, .cells b1 [.bool true, .int .i64 W, .int .i64 H, .slice (some ⟨r, 0, none⟩) n cap, .int .i64 X, .int .i64 Y, .int .i64 s, .int .i64 al, .int .i64 ca, .int .i64 cb, .int .i64 cc, .int .i64 cd] 30 true, .gen (rdE (some ⟨r, 0, none⟩) r 0 n 1 (ivals .u32 px))]) rfl rfl [1, 2] (fun _ _ => rfl) (fun b1 b2 => by kernel_rfl) (fun b1 b2 => by kernel_rfl) (fun b1 b2 => ?_)
  refine cont_done ?_
  refine then_normal ?_
  refine cont_seq ?_
  refine cont_region 11 rfl ?_
  refine batch1 [0, 1, 0, 1, 0, 1, 0, 1, 0, 0, 0] 11 0 (fun b3 => [(1, .pointer (some ⟨b1, 0, none⟩)), (2, .pointer (some ⟨b2, 0, none⟩)), (3, .pointer (some ⟨b3, 0, none⟩))]) (fun b3 => [.cells b3 [.pointer none, .int .i64 X, .int .i64 Y, .int .i64 s, .int .i64 al, .int .i64 ca, .int .i64 cb, .int .i64 cc, .int .i64 cd] 37 true, .cells b2 [.pointer none, .int .i64 0, .int .i64 0, .int .i64 0, .int .i64 0, .int .i64 0, .int .i64 0, .int .i64 0, .int .i64 0] 37 true, .cells b1 [.bool true, .int .i64 W, .int .i64 H, .slice (some ⟨r, 0, none⟩) n cap, .int .i64 X, .int .i64 Y, .int .i64 s, .int .i64 al, .int .i64 ca, .int .i64 cb, .int .i64 cc, .int .i64 cd] 30 true, .gen (rdE (some ⟨r, 0, none⟩) r 0 n 1 (ivals .u32 px))]) rfl rfl [1, 2, 3] (fun _ => rfl) (fun b3 => by kernel_rfl) (fun b3 => by kernel_rfl) (fun b3 => ?_)
  refine cont_done ?_
  refine then_normal ?_
  refine cont_seq ?_
  refine cont_seq ?_
  refine cont_region 2 rfl ?_
  refine batch0 [0, 2] 2 0 [(1, .pointer (some ⟨b1, 0, none⟩)), (2, .pointer (some ⟨b2, 0, none⟩)), (3, .pointer (some ⟨b3, 0, none⟩)), (14, .bool true)] [.cells b3 [.pointer none, .int .i64 X, .int .i64 Y, .int .i64 s, .int .i64 al, .int .i64 ca, .int .i64 cb, .int .i64 cc, .int .i64 cd] 37 true, .cells b2 [.pointer none, .int .i64 0, .int .i64 0, .int .i64 0, .int .i64 0, .int .i64 0, .int .i64 0, .int .i64 0, .int .i64 0] 37 true, .cells b1 [.bool true, .int .i64 W, .int .i64 H, .slice (some ⟨r, 0, none⟩) n cap, .int .i64 X, .int .i64 Y, .int .i64 s, .int .i64 al, .int .i64 ca, .int .i64 cb, .int .i64 cc, .int .i64 cd] 30 true, .gen (rdE (some ⟨r, 0, none⟩) r 0 n 1 (ivals .u32 px))] rfl rfl (by kernel_rfl) (by kernel_rfl) ?_
  refine cont_done ?_
  refine then_normal ?_
  refine cont_true rfl ?_
  refine cont_region 5 rfl ?_
  refine batch0 [0, 2] 2 3 [(2, .pointer (some ⟨b2, 0, none⟩)), (3, .pointer (some ⟨b3, 0, none⟩)), (16, .agg #[.int .i64 W, .int .i64 H, .slice (some ⟨r, 0, none⟩) n cap])] [.cells b3 [.pointer none, .int .i64 X, .int .i64 Y, .int .i64 s, .int .i64 al, .int .i64 ca, .int .i64 cb, .int .i64 cc, .int .i64 cd] 37 true, .cells b2 [.pointer none, .int .i64 0, .int .i64 0, .int .i64 0, .int .i64 0, .int .i64 0, .int .i64 0, .int .i64 0, .int .i64 0] 37 true, .cells b1 [.bool true, .int .i64 W, .int .i64 H, .slice (some ⟨r, 0, none⟩) n cap, .int .i64 X, .int .i64 Y, .int .i64 s, .int .i64 al, .int .i64 ca, .int .i64 cb, .int .i64 cc, .int .i64 cd] 30 true, .gen (rdE (some ⟨r, 0, none⟩) r 0 n 1 (ivals .u32 px))] rfl rfl (by kernel_rfl) (by kernel_rfl) ?_
  refine cont_forget 2 rfl ?_
  refine pl_step 3 2 rfl rfl ?_
  refine call_gen (d := 17) (α := Nat × Nat) (fun x_ => .pointer (some ⟨x_.1, 0, none⟩)) (fun x_ => [.cells x_.1 [.int .i64 W, .int .i64 H, .slice (some ⟨x_.2, 0, none⟩) n n] 99 true, .gen (rowE (some ⟨x_.2, 0, none⟩) x_.2 n n 45 1 (ivals .u32 px) true), .cells b3 [.pointer none, .int .i64 X, .int .i64 Y, .int .i64 s, .int .i64 al, .int .i64 ca, .int .i64 cb, .int .i64 cc, .int .i64 cd] 37 true, .cells b2 [.pointer none, .int .i64 0, .int .i64 0, .int .i64 0, .int .i64 0, .int .i64 0, .int .i64 0, .int .i64 0, .int .i64 0] 37 true, .gen (rdE (some ⟨r, 0, none⟩) r 0 n 1 (ivals .u32 px))]) (fun _ => True) (by kernel_rfl) (fun w hT => (bld W H r n cap px w (hT.view (.cons (i := 2) rfl Vw.rd .nil) (by decide)) hok hmay).mono fun e w' ⟨b_, q_, he_, hi_⟩ => ⟨(b_, q_), he_, trivial, hT.addImg hi_⟩) ?_
  rintro ⟨bl4, bq4⟩ -
  refine cont_norm [(2, .pointer (some ⟨b2, 0, none⟩)), (3, .pointer (some ⟨b3, 0, none⟩)), (16, .agg #[.int .i64 W, .int .i64 H, .slice (some ⟨r, 0, none⟩) n cap]), (17, .pointer (some ⟨bl4, 0, none⟩))] [.cells bl4 [.int .i64 W, .int .i64 H, .slice (some ⟨bq4, 0, none⟩) n n] 99 true, .gen (rowE (some ⟨bq4, 0, none⟩) bq4 n n 45 1 (ivals .u32 px) true), .cells b3 [.pointer none, .int .i64 X, .int .i64 Y, .int .i64 s, .int .i64 al, .int .i64 ca, .int .i64 cb, .int .i64 cc, .int .i64 cd] 37 true, .cells b2 [.pointer none, .int .i64 0, .int .i64 0, .int .i64 0, .int .i64 0, .int .i64 0, .int .i64 0, .int .i64 0, .int .i64 0] 37 true, .gen (rdE (some ⟨r, 0, none⟩) r 0 n 1 (ivals .u32 px))] (by kernel_rfl) rfl ?_
  refine batch0 [0, 2] 5 0 [(2, .pointer (some ⟨b2, 0, none⟩)), (3, .pointer (some ⟨b3, 0, none⟩))] [.cells bl4 [.int .i64 W, .int .i64 H, .slice (some ⟨bq4, 0, none⟩) n n] 99 true, .gen (rowE (some ⟨bq4, 0, none⟩) bq4 n n 45 1 (ivals .u32 px) true), .cells b3 [.pointer (some ⟨bl4, 0, none⟩), .int .i64 X, .int .i64 Y, .int .i64 s, .int .i64 al, .int .i64 ca, .int .i64 cb, .int .i64 cc, .int .i64 cd] 37 true, .cells b2 [.pointer none, .int .i64 0, .int .i64 0, .int .i64 0, .int .i64 0, .int .i64 0, .int .i64 0, .int .i64 0, .int .i64 0] 37 true, .gen (rdE (some ⟨r, 0, none⟩) r 0 n 1 (ivals .u32 px))] rfl rfl (by kernel_rfl) (by kernel_rfl) ?_
  refine cont_done ?_
  refine then_normal ?_
  refine cont_seq ?_
  refine cont_region 2 rfl ?_
  refine batch0 [2, 3] 2 0 [(2, .pointer (some ⟨b2, 0, none⟩))] [.cells bl4 [.int .i64 W, .int .i64 H, .slice (some ⟨bq4, 0, none⟩) n n] 99 true, .gen (rowE (some ⟨bq4, 0, none⟩) bq4 n n 45 1 (ivals .u32 px) true), .cells b3 [.pointer (some ⟨bl4, 0, none⟩), .int .i64 X, .int .i64 Y, .int .i64 s, .int .i64 al, .int .i64 ca, .int .i64 cb, .int .i64 cc, .int .i64 cd] 37 true, .cells b2 [.pointer (some ⟨bl4, 0, none⟩), .int .i64 X, .int .i64 Y, .int .i64 s, .int .i64 al, .int .i64 ca, .int .i64 cb, .int .i64 cc, .int .i64 cd] 37 true, .gen (rdE (some ⟨r, 0, none⟩) r 0 n 1 (ivals .u32 px))] rfl rfl (by kernel_rfl) (by kernel_rfl) ?_
  refine cont_forget 2 rfl ?_
  refine cont_done ?_
  refine then_normal ?_
  refine cont_ret ?_
  refine ret_one (.inl rfl) rfl 2 (.agg #[.pointer (some ⟨bl4, 0, none⟩), .int .i64 X, .int .i64 Y, .int .i64 s, .int .i64 al, .int .i64 ca, .int .i64 cb, .int .i64 cc, .int .i64 cd]) (by kernel_rfl) (by kernel_rfl) (fun w hT => ?_)
  replace hT := hT.erase 3 (fun e h hw => by cases h; first | rfl | cases hw)
  replace hT := hT.erase 2 (fun e h hw => by cases h; first | rfl | cases hw)
  exact ⟨_, _, rfl, newImg_of_tab hT⟩

theorem refGood5 (A1 : Option Addr) (g1 o1 n1 cap1 : Nat) (xs1 : List Int) (sm : Bool) (mw mh : Int) (ms : Value) (X Y s al ca cb cc cd : Int) (a b : Int) (w : World) (hT0 : Tab w w [.gen (rdE (A1) g1 o1 n1 1 (ivals .u32 xs1))]) (hh : GoodIn a b A1 g1 o1 n1 cap1 xs1) (hX : -9223372036854775808 ≤ X ∧ X ≤ 9223372036854775807) (hY : -9223372036854775808 ≤ Y ∧ Y ≤ 9223372036854775807) (hs : -9223372036854775808 ≤ s ∧ s ≤ 9223372036854775807) (hal : -9223372036854775808 ≤ al ∧ al ≤ 9223372036854775807) :
    Calls Try.prog 10 #[.agg #[.bool sm, .int .i64 mw, .int .i64 mh, ms, .int .i64 X, .int .i64 Y, .int .i64 s, .int .i64 al, .int .i64 ca, .int .i64 cb, .int .i64 cc, .int .i64 cd], .int .i64 a, .int .i64 b, .slice A1 n1 cap1] w fun e w' => ∃ r n : Nat, e = .returned (.agg #[.bool true, .int .i64 (1 + aroundI (aroundI a 6) 16), .int .i64 (1 + aroundI (aroundI b 6) 16), .slice (some ⟨r, 0, none⟩) n n, .int .i64 (aroundI X 24 - 6), .int .i64 (aroundI Y 24 - 6), .int .i64 (1 + aroundI s 3), .int .i64 (aroundI al 256), .int .i64 ca, .int .i64 cb, .int .i64 cc, .int .i64 cd]) ∧ (n : Int) = (1 + aroundI (aroundI a 6) 16) * (1 + aroundI (aroundI b 6) 16) ∧ Tab w w' [.gen (rowE (some ⟨r, 0, none⟩) r n n 45 1 (ivals .u32 (goodP n xs1 n)) true)] := by
  obtain ⟨ha, hb, hl1, hc1, hm1, hx1, hat1⟩ := hh
  have hqa := aroundI_range a (m := 6) (by omega)
  have hqb := aroundI_range b (m := 6) (by omega)
  refine enter 39 [(0, .agg #[.bool sm, .int .i64 mw, .int .i64 mh, ms, .int .i64 X, .int .i64 Y, .int .i64 s, .int .i64 al, .int .i64 ca, .int .i64 cb, .int .i64 cc, .int .i64 cd]), (1, .int .i64 a), (2, .int .i64 b), (3, .slice A1 n1 cap1)] [.gen (rdE (A1) g1 o1 n1 1 (ivals .u32 xs1))] Try.func10 rfl Try.ntmps10 rfl (by kernel_rfl) hT0 ?_
  refine cont_seq ?_
  refine cont_region 2 rfl ?_
  refine batch2 [0, 0] 2 0 (fun b1 b2 => [(1, .int .i64 a), (2, .int .i64 b), (3, .slice A1 n1 cap1), (4, .pointer (some ⟨b1, 0, none⟩)), (8, .pointer (some ⟨b2, 0, none⟩))]) (fun b1 b2 => [.cells b2 [.bool false, .int .i64 0, .int .i64 0, .slice none 0 0, .int .i64 0, .int .i64 0, .int .i64 0, .int .i64 0, .int .i64 0, .int .i64 0, .int .i64 0, .int .i64 0] 30 true, .cells b1 [.bool sm, .int .i64 mw, .int .i64 mh, ms, .int .i64 X, .int .i64 Y, .int .i64 s, .int .i64 al, .int .i64 ca, .int .i64 cb, .int .i64 cc, .int .i64 cd] 30 true, .gen (rdE (A1) g1 o1 n1 1 (ivals .u32 xs1))]) rfl rfl [1, 2, 3, 4, 8] (fun _ _ => rfl) (fun b1 b2 => by kernel_rfl) (fun b1 b2 => by kernel_rfl) (fun b1 b2 => ?_)
  refine cont_done ?_
  refine then_normal ?_
  refine cont_seq ?_
  refine cont_region 2 rfl ?_
  refine batch0 [0, 1] 2 0 [(1, .int .i64 a), (2, .int .i64 b), (3, .slice A1 n1 cap1), (4, .pointer (some ⟨b1, 0, none⟩)), (8, .pointer (some ⟨b2, 0, none⟩))] [.cells b2 [.bool false, .int .i64 0, .int .i64 0, .slice none 0 0, .int .i64 0, .int .i64 0, .int .i64 0, .int .i64 0, .int .i64 0, .int .i64 0, .int .i64 0, .int .i64 0] 30 true, .cells b1 [.bool true, .int .i64 mw, .int .i64 mh, ms, .int .i64 X, .int .i64 Y, .int .i64 s, .int .i64 al, .int .i64 ca, .int .i64 cb, .int .i64 cc, .int .i64 cd] 30 true, .gen (rdE (A1) g1 o1 n1 1 (ivals .u32 xs1))] rfl rfl (by kernel_rfl) (by kernel_rfl) ?_
  refine cont_done ?_
  refine then_normal ?_
  refine cont_seq ?_
  refine cont_region 8 rfl ?_
  refine batch0 [0] 1 7 [(2, .int .i64 b), (3, .slice A1 n1 cap1), (4, .pointer (some ⟨b1, 0, none⟩)), (8, .pointer (some ⟨b2, 0, none⟩)), (10, .int .i64 a)] [.cells b2 [.bool false, .int .i64 0, .int .i64 0, .slice none 0 0, .int .i64 0, .int .i64 0, .int .i64 0, .int .i64 0, .int .i64 0, .int .i64 0, .int .i64 0, .int .i64 0] 30 true, .cells b1 [.bool true, .int .i64 mw, .int .i64 mh, ms, .int .i64 X, .int .i64 Y, .int .i64 s, .int .i64 al, .int .i64 ca, .int .i64 cb, .int .i64 cc, .int .i64 cd] 30 true, .gen (rdE (A1) g1 o1 n1 1 (ivals .u32 xs1))] rfl rfl (by kernel_rfl) (by kernel_rfl) ?_
  refine pl_step 2 6 rfl rfl ?_
  refine call_pure (d := 11) (.int .i64 (aroundI a 6)) (by kernel_rfl) (fun w hT => refAround a 6 w (by omega) (by omega)) ?_
  have hq3_ := aroundI_range a (m := 6) (by omega)
  refine batch0 [0] 3 5 [(3, .slice A1 n1 cap1), (4, .pointer (some ⟨b1, 0, none⟩)), (8, .pointer (some ⟨b2, 0, none⟩)), (11, .int .i64 (aroundI a 6)), (12, .int .i64 b)] [.cells b2 [.bool false, .int .i64 0, .int .i64 0, .slice none 0 0, .int .i64 0, .int .i64 0, .int .i64 0, .int .i64 0, .int .i64 0, .int .i64 0, .int .i64 0, .int .i64 0] 30 true, .cells b1 [.bool true, .int .i64 mw, .int .i64 mh, ms, .int .i64 X, .int .i64 Y, .int .i64 s, .int .i64 al, .int .i64 ca, .int .i64 cb, .int .i64 cc, .int .i64 cd] 30 true, .gen (rdE (A1) g1 o1 n1 1 (ivals .u32 xs1))] rfl rfl (by kernel_rfl) (by kernel_rfl) ?_
  refine pl_step 4 4 rfl rfl ?_
  refine call_pure (d := 13) (.int .i64 (aroundI b 6)) (by kernel_rfl) (fun w hT => refAround b 6 w (by omega) (by omega)) ?_
  have hq4_ := aroundI_range b (m := 6) (by omega)
  refine batch0 [0] 5 3 [(4, .pointer (some ⟨b1, 0, none⟩)), (8, .pointer (some ⟨b2, 0, none⟩)), (11, .int .i64 (aroundI a 6)), (13, .int .i64 (aroundI b 6)), (14, .slice A1 n1 cap1)] [.cells b2 [.bool false, .int .i64 0, .int .i64 0, .slice none 0 0, .int .i64 0, .int .i64 0, .int .i64 0, .int .i64 0, .int .i64 0, .int .i64 0, .int .i64 0, .int .i64 0] 30 true, .cells b1 [.bool true, .int .i64 mw, .int .i64 mh, ms, .int .i64 X, .int .i64 Y, .int .i64 s, .int .i64 al, .int .i64 ca, .int .i64 cb, .int .i64 cc, .int .i64 cd] 30 true, .gen (rdE (A1) g1 o1 n1 1 (ivals .u32 xs1))] rfl rfl (by kernel_rfl) (by kernel_rfl) ?_
  refine pl_step 6 2 rfl rfl ?_
  refine call_gen (d := 15) (α := Nat × Nat) (fun x_ => .agg #[.int .i64 (1 + aroundI (aroundI a 6) 16), .int .i64 (1 + aroundI (aroundI b 6) 16), .slice (some ⟨x_.1, 0, none⟩) x_.2 x_.2]) (fun x_ => [.gen (rowE (some ⟨x_.1, 0, none⟩) x_.1 x_.2 x_.2 45 1 (ivals .u32 (goodP x_.2 xs1 x_.2)) true), .cells b2 [.bool false, .int .i64 0, .int .i64 0, .slice none 0 0, .int .i64 0, .int .i64 0, .int .i64 0, .int .i64 0, .int .i64 0, .int .i64 0, .int .i64 0, .int .i64 0] 30 true, .cells b1 [.bool true, .int .i64 mw, .int .i64 mh, ms, .int .i64 X, .int .i64 Y, .int .i64 s, .int .i64 al, .int .i64 ca, .int .i64 cb, .int .i64 cc, .int .i64 cd] 30 true, .gen (rdE (A1) g1 o1 n1 1 (ivals .u32 xs1))]) (fun x_ => (x_.2 : Int) = (1 + aroundI (aroundI a 6) 16) * (1 + aroundI (aroundI b 6) 16)) (by kernel_rfl) (fun w hT => (refGood4 A1 g1 o1 n1 cap1 xs1 (aroundI a 6) (aroundI b 6) w (hT.viewRo (.cons (i := 2) rfl Vw.rd .nil) rfl) ⟨by omega, by omega, hl1, hc1, hm1, hx1, hat1⟩).mono fun e w' ⟨r5, n6, he_, hf_, ht_⟩ => ⟨(r5, n6), he_, hf_, hT.news ht_ rfl⟩) ?_
  rintro ⟨r5, n6⟩ hf7_
  replace hf7_ : (n6 : Int) = (1 + aroundI (aroundI a 6) 16) * (1 + aroundI (aroundI b 6) 16) := hf7_
  refine cont_norm [(4, .pointer (some ⟨b1, 0, none⟩)), (8, .pointer (some ⟨b2, 0, none⟩)), (11, .int .i64 (aroundI a 6)), (13, .int .i64 (aroundI b 6)), (14, .slice A1 n1 cap1), (15, .agg #[.int .i64 (1 + aroundI (aroundI a 6) 16), .int .i64 (1 + aroundI (aroundI b 6) 16), .slice (some ⟨r5, 0, none⟩) n6 n6])] [.gen (rowE (some ⟨r5, 0, none⟩) r5 n6 n6 45 1 (ivals .u32 (goodP n6 xs1 n6)) true), .cells b2 [.bool false, .int .i64 0, .int .i64 0, .slice none 0 0, .int .i64 0, .int .i64 0, .int .i64 0, .int .i64 0, .int .i64 0, .int .i64 0, .int .i64 0, .int .i64 0] 30 true, .cells b1 [.bool true, .int .i64 mw, .int .i64 mh, ms, .int .i64 X, .int .i64 Y, .int .i64 s, .int .i64 al, .int .i64 ca, .int .i64 cb, .int .i64 cc, .int .i64 cd] 30 true, .gen (rdE (A1) g1 o1 n1 1 (ivals .u32 xs1))] (by kernel_rfl) rfl ?_
  refine batch0 [0, 2] 8 0 [(4, .pointer (some ⟨b1, 0, none⟩)), (8, .pointer (some ⟨b2, 0, none⟩))] [.gen (rowE (some ⟨r5, 0, none⟩) r5 n6 n6 45 1 (ivals .u32 (goodP n6 xs1 n6)) true), .cells b2 [.bool false, .int .i64 0, .int .i64 0, .slice none 0 0, .int .i64 0, .int .i64 0, .int .i64 0, .int .i64 0, .int .i64 0, .int .i64 0, .int .i64 0, .int .i64 0] 30 true, .cells b1 [.bool true, .int .i64 (1 + aroundI (aroundI a 6) 16), .int .i64 (1 + aroundI (aroundI b 6) 16), .slice (some ⟨r5, 0, none⟩) n6 n6, .int .i64 X, .int .i64 Y, .int .i64 s, .int .i64 al, .int .i64 ca, .int .i64 cb, .int .i64 cc, .int .i64 cd] 30 true, .gen (rdE (A1) g1 o1 n1 1 (ivals .u32 xs1))] rfl rfl (by kernel_rfl) (by kernel_rfl) ?_
  refine cont_done ?_
  refine then_normal ?_
  refine cont_seq ?_
  refine drawn_enter 13 [2] rfl (by kernel_rfl) ?_
  refine takes 0 [2] [(0, 0), (5, 0), (1, 0), (6, 0)] 9 [6, 1, 5, 0] [(4, .pointer (some ⟨b1, 0, none⟩)), (8, .pointer (some ⟨b2, 0, none⟩)), (18, .pointer (some ⟨b1, 4, none⟩)), (23, .pointer (some ⟨b1, 5, none⟩))] (by kernel_rfl) (by repeat' (first | exact pok_body | refine pok_then ?_ | refine pok_blk ?_)) (by kernel_rfl) rfl rfl (by kernel_rfl) (by kernel_rfl) ?_
  refine drawn_two 2 7 8 rfl (by kernel_rfl) ?_ ?_
  ·
    refine one_step 2 [(4, .pointer (some ⟨b1, 0, none⟩)), (8, .pointer (some ⟨b2, 0, none⟩)), (19, .int .i64 X), (23, .pointer (some ⟨b1, 5, none⟩))] [.gen (rowE (some ⟨r5, 0, none⟩) r5 n6 n6 45 1 (ivals .u32 (goodP n6 xs1 n6)) true), .cells b2 [.bool false, .int .i64 0, .int .i64 0, .slice none 0 0, .int .i64 0, .int .i64 0, .int .i64 0, .int .i64 0, .int .i64 0, .int .i64 0, .int .i64 0, .int .i64 0] 30 true, .cells b1 [.bool true, .int .i64 (1 + aroundI (aroundI a 6) 16), .int .i64 (1 + aroundI (aroundI b 6) 16), .slice (some ⟨r5, 0, none⟩) n6 n6, .int .i64 X, .int .i64 Y, .int .i64 s, .int .i64 al, .int .i64 ca, .int .i64 cb, .int .i64 cc, .int .i64 cd] 30 true, .gen (rdE (A1) g1 o1 n1 1 (ivals .u32 xs1))] (by kernel_rfl) (by kernel_rfl) ?_
    refine drawn_next 0 [2] (by kernel_rfl) ?_
    refine drawn_two 3 7 7 rfl (by kernel_rfl) ?_ ?_
    ·
      refine call_pure (d := 20) (.int .i64 (aroundI X 24)) (by kernel_rfl) (fun w hT => refAround X 24 w (by omega) (by omega)) ?_
      have hq8_ := aroundI_range X (m := 24) (by omega)
      refine drawn_next 0 [2] (by kernel_rfl) ?_
      refine takes 0 [2] [(4, 0)] 6 [4, 3, 2, 6, 1, 5, 0] [(4, .pointer (some ⟨b1, 0, none⟩)), (8, .pointer (some ⟨b2, 0, none⟩)), (21, .int .i64 (IntKind.i64.wrap ((aroundI X 24) - 6))), (23, .pointer (some ⟨b1, 5, none⟩))] (by kernel_rfl) (by repeat' (first | exact pok_body | refine pok_then ?_ | refine pok_blk ?_)) (by kernel_rfl) rfl rfl (by kernel_rfl) (by kernel_rfl) ?_
      refine cont_recast 21 (.int .i64 (IntKind.i64.wrap ((aroundI X 24) - 6))) (.int .i64 ((aroundI X 24) - 6)) rfl (wrapI (by omega) (by omega)) ?_
      refine drawn_one 7 5 rfl (by kernel_rfl) ?_
      refine one_step 2 [(4, .pointer (some ⟨b1, 0, none⟩)), (8, .pointer (some ⟨b2, 0, none⟩)), (21, .int .i64 ((aroundI X 24) - 6)), (24, .int .i64 Y)] [.gen (rowE (some ⟨r5, 0, none⟩) r5 n6 n6 45 1 (ivals .u32 (goodP n6 xs1 n6)) true), .cells b2 [.bool false, .int .i64 0, .int .i64 0, .slice none 0 0, .int .i64 0, .int .i64 0, .int .i64 0, .int .i64 0, .int .i64 0, .int .i64 0, .int .i64 0, .int .i64 0] 30 true, .cells b1 [.bool true, .int .i64 (1 + aroundI (aroundI a 6) 16), .int .i64 (1 + aroundI (aroundI b 6) 16), .slice (some ⟨r5, 0, none⟩) n6 n6, .int .i64 X, .int .i64 Y, .int .i64 s, .int .i64 al, .int .i64 ca, .int .i64 cb, .int .i64 cc, .int .i64 cd] 30 true, .gen (rdE (A1) g1 o1 n1 1 (ivals .u32 xs1))] (by kernel_rfl) (by kernel_rfl) ?_
      refine drawn_next 0 [2] (by kernel_rfl) ?_
      refine drawn_one 8 4 rfl (by kernel_rfl) ?_
      refine call_pure (d := 25) (.int .i64 (aroundI Y 24)) (by kernel_rfl) (fun w hT => refAround Y 24 w (by omega) (by omega)) ?_
      have hq9_ := aroundI_range Y (m := 24) (by omega)
      refine drawn_next 0 [2] (by kernel_rfl) ?_
      refine takes 0 [2] [(9, 0)] 3 [9, 8, 7, 4, 3, 2, 6, 1, 5, 0] [(4, .pointer (some ⟨b1, 0, none⟩)), (8, .pointer (some ⟨b2, 0, none⟩)), (21, .int .i64 ((aroundI X 24) - 6)), (26, .int .i64 (IntKind.i64.wrap ((aroundI Y 24) - 6)))] (by kernel_rfl) (by repeat' (first | exact pok_body | refine pok_then ?_ | refine pok_blk ?_)) (by kernel_rfl) rfl rfl (by kernel_rfl) (by kernel_rfl) ?_
      refine cont_recast 26 (.int .i64 (IntKind.i64.wrap ((aroundI Y 24) - 6))) (.int .i64 ((aroundI Y 24) - 6)) rfl (wrapI (by omega) (by omega)) ?_
      refine takes 0 [2] [(10, 0), (11, 0)] 1 [11, 10, 9, 8, 7, 4, 3, 2, 6, 1, 5, 0] [(4, .pointer (some ⟨b1, 0, none⟩)), (8, .pointer (some ⟨b2, 0, none⟩)), (27, .agg #[.int .i64 ((aroundI X 24) - 6), .int .i64 ((aroundI Y 24) - 6)]), (28, .pointer (some ⟨b1, 4, none⟩))] (by kernel_rfl) (by repeat' (first | exact pok_body | refine pok_then ?_ | refine pok_blk ?_)) (by kernel_rfl) rfl rfl (by kernel_rfl) (by kernel_rfl) ?_
      refine drawn_one 12 0 rfl (by kernel_rfl) ?_
      refine one_step 2 [(4, .pointer (some ⟨b1, 0, none⟩)), (8, .pointer (some ⟨b2, 0, none⟩))] [.gen (rowE (some ⟨r5, 0, none⟩) r5 n6 n6 45 1 (ivals .u32 (goodP n6 xs1 n6)) true), .cells b2 [.bool false, .int .i64 0, .int .i64 0, .slice none 0 0, .int .i64 0, .int .i64 0, .int .i64 0, .int .i64 0, .int .i64 0, .int .i64 0, .int .i64 0, .int .i64 0] 30 true, .cells b1 [.bool true, .int .i64 (1 + aroundI (aroundI a 6) 16), .int .i64 (1 + aroundI (aroundI b 6) 16), .slice (some ⟨r5, 0, none⟩) n6 n6, .int .i64 ((aroundI X 24) - 6), .int .i64 ((aroundI Y 24) - 6), .int .i64 s, .int .i64 al, .int .i64 ca, .int .i64 cb, .int .i64 cc, .int .i64 cd] 30 true, .gen (rdE (A1) g1 o1 n1 1 (ivals .u32 xs1))] (by kernel_rfl) (by kernel_rfl) ?_
      refine drawn_next 0 [2] (by kernel_rfl) ?_
      refine drawn_done (by kernel_rfl) ?_
      refine then_normal ?_
      refine cont_seq ?_
      refine cont_region 6 rfl ?_
      refine batch0 [0, 2] 2 4 [(4, .pointer (some ⟨b1, 0, none⟩)), (8, .pointer (some ⟨b2, 0, none⟩)), (30, .int .i64 s)] [.gen (rowE (some ⟨r5, 0, none⟩) r5 n6 n6 45 1 (ivals .u32 (goodP n6 xs1 n6)) true), .cells b2 [.bool false, .int .i64 0, .int .i64 0, .slice none 0 0, .int .i64 0, .int .i64 0, .int .i64 0, .int .i64 0, .int .i64 0, .int .i64 0, .int .i64 0, .int .i64 0] 30 true, .cells b1 [.bool true, .int .i64 (1 + aroundI (aroundI a 6) 16), .int .i64 (1 + aroundI (aroundI b 6) 16), .slice (some ⟨r5, 0, none⟩) n6 n6, .int .i64 ((aroundI X 24) - 6), .int .i64 ((aroundI Y 24) - 6), .int .i64 s, .int .i64 al, .int .i64 ca, .int .i64 cb, .int .i64 cc, .int .i64 cd] 30 true, .gen (rdE (A1) g1 o1 n1 1 (ivals .u32 xs1))] rfl rfl (by kernel_rfl) (by kernel_rfl) ?_
      refine pl_step 3 3 rfl rfl ?_
      refine call_pure (d := 31) (.int .i64 (aroundI s 3)) (by kernel_rfl) (fun w hT => refAround s 3 w (by omega) (by omega)) ?_
      have hq10_ := aroundI_range s (m := 3) (by omega)
      refine batch0 [0] 4 2 [(4, .pointer (some ⟨b1, 0, none⟩)), (8, .pointer (some ⟨b2, 0, none⟩)), (32, .int .i64 (IntKind.i64.wrap (1 + (aroundI s 3))))] [.gen (rowE (some ⟨r5, 0, none⟩) r5 n6 n6 45 1 (ivals .u32 (goodP n6 xs1 n6)) true), .cells b2 [.bool false, .int .i64 0, .int .i64 0, .slice none 0 0, .int .i64 0, .int .i64 0, .int .i64 0, .int .i64 0, .int .i64 0, .int .i64 0, .int .i64 0, .int .i64 0] 30 true, .cells b1 [.bool true, .int .i64 (1 + aroundI (aroundI a 6) 16), .int .i64 (1 + aroundI (aroundI b 6) 16), .slice (some ⟨r5, 0, none⟩) n6 n6, .int .i64 ((aroundI X 24) - 6), .int .i64 ((aroundI Y 24) - 6), .int .i64 s, .int .i64 al, .int .i64 ca, .int .i64 cb, .int .i64 cc, .int .i64 cd] 30 true, .gen (rdE (A1) g1 o1 n1 1 (ivals .u32 xs1))] rfl rfl (by kernel_rfl) (by kernel_rfl) ?_
      refine cont_recast 32 (.int .i64 (IntKind.i64.wrap (1 + (aroundI s 3)))) (.int .i64 (1 + (aroundI s 3))) rfl (wrapI (by omega) (by omega)) ?_
      refine batch0 [0, 2] 6 0 [(4, .pointer (some ⟨b1, 0, none⟩)), (8, .pointer (some ⟨b2, 0, none⟩))] [.gen (rowE (some ⟨r5, 0, none⟩) r5 n6 n6 45 1 (ivals .u32 (goodP n6 xs1 n6)) true), .cells b2 [.bool false, .int .i64 0, .int .i64 0, .slice none 0 0, .int .i64 0, .int .i64 0, .int .i64 0, .int .i64 0, .int .i64 0, .int .i64 0, .int .i64 0, .int .i64 0] 30 true, .cells b1 [.bool true, .int .i64 (1 + aroundI (aroundI a 6) 16), .int .i64 (1 + aroundI (aroundI b 6) 16), .slice (some ⟨r5, 0, none⟩) n6 n6, .int .i64 ((aroundI X 24) - 6), .int .i64 ((aroundI Y 24) - 6), .int .i64 (1 + (aroundI s 3)), .int .i64 al, .int .i64 ca, .int .i64 cb, .int .i64 cc, .int .i64 cd] 30 true, .gen (rdE (A1) g1 o1 n1 1 (ivals .u32 xs1))] rfl rfl (by kernel_rfl) (by kernel_rfl) ?_
      refine cont_done ?_
      refine then_normal ?_
      refine cont_seq ?_
      refine cont_region 5 rfl ?_
      refine batch0 [0, 2] 2 3 [(4, .pointer (some ⟨b1, 0, none⟩)), (8, .pointer (some ⟨b2, 0, none⟩)), (35, .int .i64 al)] [.gen (rowE (some ⟨r5, 0, none⟩) r5 n6 n6 45 1 (ivals .u32 (goodP n6 xs1 n6)) true), .cells b2 [.bool false, .int .i64 0, .int .i64 0, .slice none 0 0, .int .i64 0, .int .i64 0, .int .i64 0, .int .i64 0, .int .i64 0, .int .i64 0, .int .i64 0, .int .i64 0] 30 true, .cells b1 [.bool true, .int .i64 (1 + aroundI (aroundI a 6) 16), .int .i64 (1 + aroundI (aroundI b 6) 16), .slice (some ⟨r5, 0, none⟩) n6 n6, .int .i64 ((aroundI X 24) - 6), .int .i64 ((aroundI Y 24) - 6), .int .i64 (1 + (aroundI s 3)), .int .i64 al, .int .i64 ca, .int .i64 cb, .int .i64 cc, .int .i64 cd] 30 true, .gen (rdE (A1) g1 o1 n1 1 (ivals .u32 xs1))] rfl rfl (by kernel_rfl) (by kernel_rfl) ?_
      refine pl_step 3 2 rfl rfl ?_
      refine call_pure (d := 36) (.int .i64 (aroundI al 256)) (by kernel_rfl) (fun w hT => refAround al 256 w (by omega) (by omega)) ?_
      have hq11_ := aroundI_range al (m := 256) (by omega)
      refine batch0 [0, 2] 5 0 [(4, .pointer (some ⟨b1, 0, none⟩)), (8, .pointer (some ⟨b2, 0, none⟩))] [.gen (rowE (some ⟨r5, 0, none⟩) r5 n6 n6 45 1 (ivals .u32 (goodP n6 xs1 n6)) true), .cells b2 [.bool false, .int .i64 0, .int .i64 0, .slice none 0 0, .int .i64 0, .int .i64 0, .int .i64 0, .int .i64 0, .int .i64 0, .int .i64 0, .int .i64 0, .int .i64 0] 30 true, .cells b1 [.bool true, .int .i64 (1 + aroundI (aroundI a 6) 16), .int .i64 (1 + aroundI (aroundI b 6) 16), .slice (some ⟨r5, 0, none⟩) n6 n6, .int .i64 ((aroundI X 24) - 6), .int .i64 ((aroundI Y 24) - 6), .int .i64 (1 + (aroundI s 3)), .int .i64 (aroundI al 256), .int .i64 ca, .int .i64 cb, .int .i64 cc, .int .i64 cd] 30 true, .gen (rdE (A1) g1 o1 n1 1 (ivals .u32 xs1))] rfl rfl (by kernel_rfl) (by kernel_rfl) ?_
      refine cont_done ?_
      refine then_normal ?_
      refine cont_seq ?_
      refine cont_region 2 rfl ?_
      refine batch0 [2, 1] 2 0 [(8, .pointer (some ⟨b2, 0, none⟩))] [.gen (rowE (some ⟨r5, 0, none⟩) r5 n6 n6 45 1 (ivals .u32 (goodP n6 xs1 n6)) true), .cells b2 [.bool true, .int .i64 (1 + aroundI (aroundI a 6) 16), .int .i64 (1 + aroundI (aroundI b 6) 16), .slice (some ⟨r5, 0, none⟩) n6 n6, .int .i64 ((aroundI X 24) - 6), .int .i64 ((aroundI Y 24) - 6), .int .i64 (1 + (aroundI s 3)), .int .i64 (aroundI al 256), .int .i64 ca, .int .i64 cb, .int .i64 cc, .int .i64 cd] 30 true, .cells b1 [.bool true, .int .i64 (1 + aroundI (aroundI a 6) 16), .int .i64 (1 + aroundI (aroundI b 6) 16), .slice (some ⟨r5, 0, none⟩) n6 n6, .int .i64 ((aroundI X 24) - 6), .int .i64 ((aroundI Y 24) - 6), .int .i64 (1 + (aroundI s 3)), .int .i64 (aroundI al 256), .int .i64 ca, .int .i64 cb, .int .i64 cc, .int .i64 cd] 30 true, .gen (rdE (A1) g1 o1 n1 1 (ivals .u32 xs1))] rfl rfl (by kernel_rfl) (by kernel_rfl) ?_
      refine cont_forget 2 rfl ?_
      refine cont_done ?_
      refine then_normal ?_
      refine cont_ret ?_
      refine ret_one (.inl rfl) rfl 1 (.agg #[.bool true, .int .i64 (1 + aroundI (aroundI a 6) 16), .int .i64 (1 + aroundI (aroundI b 6) 16), .slice (some ⟨r5, 0, none⟩) n6 n6, .int .i64 ((aroundI X 24) - 6), .int .i64 ((aroundI Y 24) - 6), .int .i64 (1 + (aroundI s 3)), .int .i64 (aroundI al 256), .int .i64 ca, .int .i64 cb, .int .i64 cc, .int .i64 cd]) (by kernel_rfl) (by kernel_rfl) (fun w hT => ?_)
      replace hT := hT.erase 2 (fun e h hw => by cases h; first | rfl | cases hw)
      replace hT := hT.erase 1 (fun e h hw => by cases h; first | rfl | cases hw)
      exact ⟨_, _, rfl, ‹_›, hT⟩
    refine one_step 2 [(4, .pointer (some ⟨b1, 0, none⟩)), (8, .pointer (some ⟨b2, 0, none⟩)), (19, .int .i64 X), (24, .int .i64 Y)] [.gen (rowE (some ⟨r5, 0, none⟩) r5 n6 n6 45 1 (ivals .u32 (goodP n6 xs1 n6)) true), .cells b2 [.bool false, .int .i64 0, .int .i64 0, .slice none 0 0, .int .i64 0, .int .i64 0, .int .i64 0, .int .i64 0, .int .i64 0, .int .i64 0, .int .i64 0, .int .i64 0] 30 true, .cells b1 [.bool true, .int .i64 (1 + aroundI (aroundI a 6) 16), .int .i64 (1 + aroundI (aroundI b 6) 16), .slice (some ⟨r5, 0, none⟩) n6 n6, .int .i64 X, .int .i64 Y, .int .i64 s, .int .i64 al, .int .i64 ca, .int .i64 cb, .int .i64 cc, .int .i64 cd] 30 true, .gen (rdE (A1) g1 o1 n1 1 (ivals .u32 xs1))] (by kernel_rfl) (by kernel_rfl) ?_
    refine drawn_next 0 [2] (by kernel_rfl) ?_
    refine drawn_one 3 6 rfl (by kernel_rfl) ?_
    refine call_pure (d := 20) (.int .i64 (aroundI X 24)) (by kernel_rfl) (fun w hT => refAround X 24 w (by omega) (by omega)) ?_
    have hq12_ := aroundI_range X (m := 24) (by omega)
    refine drawn_next 0 [2] (by kernel_rfl) ?_
    refine takes 0 [2] [(4, 0)] 5 [4, 3, 7, 2, 6, 1, 5, 0] [(4, .pointer (some ⟨b1, 0, none⟩)), (8, .pointer (some ⟨b2, 0, none⟩)), (21, .int .i64 (IntKind.i64.wrap ((aroundI X 24) - 6))), (24, .int .i64 Y)] (by kernel_rfl) (by repeat' (first | exact pok_body | refine pok_then ?_ | refine pok_blk ?_)) (by kernel_rfl) rfl rfl (by kernel_rfl) (by kernel_rfl) ?_
    refine cont_recast 21 (.int .i64 (IntKind.i64.wrap ((aroundI X 24) - 6))) (.int .i64 ((aroundI X 24) - 6)) rfl (wrapI (by omega) (by omega)) ?_
    refine drawn_one 8 4 rfl (by kernel_rfl) ?_
    refine call_pure (d := 25) (.int .i64 (aroundI Y 24)) (by kernel_rfl) (fun w hT => refAround Y 24 w (by omega) (by omega)) ?_
    have hq13_ := aroundI_range Y (m := 24) (by omega)
    refine drawn_next 0 [2] (by kernel_rfl) ?_
    refine takes 0 [2] [(9, 0)] 3 [9, 8, 4, 3, 7, 2, 6, 1, 5, 0] [(4, .pointer (some ⟨b1, 0, none⟩)), (8, .pointer (some ⟨b2, 0, none⟩)), (21, .int .i64 ((aroundI X 24) - 6)), (26, .int .i64 (IntKind.i64.wrap ((aroundI Y 24) - 6)))] (by kernel_rfl) (by repeat' (first | exact pok_body | refine pok_then ?_ | refine pok_blk ?_)) (by kernel_rfl) rfl rfl (by kernel_rfl) (by kernel_rfl) ?_
    refine cont_recast 26 (.int .i64 (IntKind.i64.wrap ((aroundI Y 24) - 6))) (.int .i64 ((aroundI Y 24) - 6)) rfl (wrapI (by omega) (by omega)) ?_
    refine takes 0 [2] [(10, 0), (11, 0)] 1 [11, 10, 9, 8, 4, 3, 7, 2, 6, 1, 5, 0] [(4, .pointer (some ⟨b1, 0, none⟩)), (8, .pointer (some ⟨b2, 0, none⟩)), (27, .agg #[.int .i64 ((aroundI X 24) - 6), .int .i64 ((aroundI Y 24) - 6)]), (28, .pointer (some ⟨b1, 4, none⟩))] (by kernel_rfl) (by repeat' (first | exact pok_body | refine pok_then ?_ | refine pok_blk ?_)) (by kernel_rfl) rfl rfl (by kernel_rfl) (by kernel_rfl) ?_
    refine drawn_one 12 0 rfl (by kernel_rfl) ?_
    refine one_step 2 [(4, .pointer (some ⟨b1, 0, none⟩)), (8, .pointer (some ⟨b2, 0, none⟩))] [.gen (rowE (some ⟨r5, 0, none⟩) r5 n6 n6 45 1 (ivals .u32 (goodP n6 xs1 n6)) true), .cells b2 [.bool false, .int .i64 0, .int .i64 0, .slice none 0 0, .int .i64 0, .int .i64 0, .int .i64 0, .int .i64 0, .int .i64 0, .int .i64 0, .int .i64 0, .int .i64 0] 30 true, .cells b1 [.bool true, .int .i64 (1 + aroundI (aroundI a 6) 16), .int .i64 (1 + aroundI (aroundI b 6) 16), .slice (some ⟨r5, 0, none⟩) n6 n6, .int .i64 ((aroundI X 24) - 6), .int .i64 ((aroundI Y 24) - 6), .int .i64 s, .int .i64 al, .int .i64 ca, .int .i64 cb, .int .i64 cc, .int .i64 cd] 30 true, .gen (rdE (A1) g1 o1 n1 1 (ivals .u32 xs1))] (by kernel_rfl) (by kernel_rfl) ?_
    refine drawn_next 0 [2] (by kernel_rfl) ?_
    refine drawn_done (by kernel_rfl) ?_
    refine then_normal ?_
    refine cont_seq ?_
    refine cont_region 6 rfl ?_
    refine batch0 [0, 2] 2 4 [(4, .pointer (some ⟨b1, 0, none⟩)), (8, .pointer (some ⟨b2, 0, none⟩)), (30, .int .i64 s)] [.gen (rowE (some ⟨r5, 0, none⟩) r5 n6 n6 45 1 (ivals .u32 (goodP n6 xs1 n6)) true), .cells b2 [.bool false, .int .i64 0, .int .i64 0, .slice none 0 0, .int .i64 0, .int .i64 0, .int .i64 0, .int .i64 0, .int .i64 0, .int .i64 0, .int .i64 0, .int .i64 0] 30 true, .cells b1 [.bool true, .int .i64 (1 + aroundI (aroundI a 6) 16), .int .i64 (1 + aroundI (aroundI b 6) 16), .slice (some ⟨r5, 0, none⟩) n6 n6, .int .i64 ((aroundI X 24) - 6), .int .i64 ((aroundI Y 24) - 6), .int .i64 s, .int .i64 al, .int .i64 ca, .int .i64 cb, .int .i64 cc, .int .i64 cd] 30 true, .gen (rdE (A1) g1 o1 n1 1 (ivals .u32 xs1))] rfl rfl (by kernel_rfl) (by kernel_rfl) ?_
    refine pl_step 3 3 rfl rfl ?_
    refine call_pure (d := 31) (.int .i64 (aroundI s 3)) (by kernel_rfl) (fun w hT => refAround s 3 w (by omega) (by omega)) ?_
    have hq14_ := aroundI_range s (m := 3) (by omega)
    refine batch0 [0] 4 2 [(4, .pointer (some ⟨b1, 0, none⟩)), (8, .pointer (some ⟨b2, 0, none⟩)), (32, .int .i64 (IntKind.i64.wrap (1 + (aroundI s 3))))] [.gen (rowE (some ⟨r5, 0, none⟩) r5 n6 n6 45 1 (ivals .u32 (goodP n6 xs1 n6)) true), .cells b2 [.bool false, .int .i64 0, .int .i64 0, .slice none 0 0, .int .i64 0, .int .i64 0, .int .i64 0, .int .i64 0, .int .i64 0, .int .i64 0, .int .i64 0, .int .i64 0] 30 true, .cells b1 [.bool true, .int .i64 (1 + aroundI (aroundI a 6) 16), .int .i64 (1 + aroundI (aroundI b 6) 16), .slice (some ⟨r5, 0, none⟩) n6 n6, .int .i64 ((aroundI X 24) - 6), .int .i64 ((aroundI Y 24) - 6), .int .i64 s, .int .i64 al, .int .i64 ca, .int .i64 cb, .int .i64 cc, .int .i64 cd] 30 true, .gen (rdE (A1) g1 o1 n1 1 (ivals .u32 xs1))] rfl rfl (by kernel_rfl) (by kernel_rfl) ?_
    refine cont_recast 32 (.int .i64 (IntKind.i64.wrap (1 + (aroundI s 3)))) (.int .i64 (1 + (aroundI s 3))) rfl (wrapI (by omega) (by omega)) ?_
    refine batch0 [0, 2] 6 0 [(4, .pointer (some ⟨b1, 0, none⟩)), (8, .pointer (some ⟨b2, 0, none⟩))] [.gen (rowE (some ⟨r5, 0, none⟩) r5 n6 n6 45 1 (ivals .u32 (goodP n6 xs1 n6)) true), .cells b2 [.bool false, .int .i64 0, .int .i64 0, .slice none 0 0, .int .i64 0, .int .i64 0, .int .i64 0, .int .i64 0, .int .i64 0, .int .i64 0, .int .i64 0, .int .i64 0] 30 true, .cells b1 [.bool true, .int .i64 (1 + aroundI (aroundI a 6) 16), .int .i64 (1 + aroundI (aroundI b 6) 16), .slice (some ⟨r5, 0, none⟩) n6 n6, .int .i64 ((aroundI X 24) - 6), .int .i64 ((aroundI Y 24) - 6), .int .i64 (1 + (aroundI s 3)), .int .i64 al, .int .i64 ca, .int .i64 cb, .int .i64 cc, .int .i64 cd] 30 true, .gen (rdE (A1) g1 o1 n1 1 (ivals .u32 xs1))] rfl rfl (by kernel_rfl) (by kernel_rfl) ?_
    refine cont_done ?_
    refine then_normal ?_
    refine cont_seq ?_
    refine cont_region 5 rfl ?_
    refine batch0 [0, 2] 2 3 [(4, .pointer (some ⟨b1, 0, none⟩)), (8, .pointer (some ⟨b2, 0, none⟩)), (35, .int .i64 al)] [.gen (rowE (some ⟨r5, 0, none⟩) r5 n6 n6 45 1 (ivals .u32 (goodP n6 xs1 n6)) true), .cells b2 [.bool false, .int .i64 0, .int .i64 0, .slice none 0 0, .int .i64 0, .int .i64 0, .int .i64 0, .int .i64 0, .int .i64 0, .int .i64 0, .int .i64 0, .int .i64 0] 30 true, .cells b1 [.bool true, .int .i64 (1 + aroundI (aroundI a 6) 16), .int .i64 (1 + aroundI (aroundI b 6) 16), .slice (some ⟨r5, 0, none⟩) n6 n6, .int .i64 ((aroundI X 24) - 6), .int .i64 ((aroundI Y 24) - 6), .int .i64 (1 + (aroundI s 3)), .int .i64 al, .int .i64 ca, .int .i64 cb, .int .i64 cc, .int .i64 cd] 30 true, .gen (rdE (A1) g1 o1 n1 1 (ivals .u32 xs1))] rfl rfl (by kernel_rfl) (by kernel_rfl) ?_
    refine pl_step 3 2 rfl rfl ?_
    refine call_pure (d := 36) (.int .i64 (aroundI al 256)) (by kernel_rfl) (fun w hT => refAround al 256 w (by omega) (by omega)) ?_
    have hq15_ := aroundI_range al (m := 256) (by omega)
    refine batch0 [0, 2] 5 0 [(4, .pointer (some ⟨b1, 0, none⟩)), (8, .pointer (some ⟨b2, 0, none⟩))] [.gen (rowE (some ⟨r5, 0, none⟩) r5 n6 n6 45 1 (ivals .u32 (goodP n6 xs1 n6)) true), .cells b2 [.bool false, .int .i64 0, .int .i64 0, .slice none 0 0, .int .i64 0, .int .i64 0, .int .i64 0, .int .i64 0, .int .i64 0, .int .i64 0, .int .i64 0, .int .i64 0] 30 true, .cells b1 [.bool true, .int .i64 (1 + aroundI (aroundI a 6) 16), .int .i64 (1 + aroundI (aroundI b 6) 16), .slice (some ⟨r5, 0, none⟩) n6 n6, .int .i64 ((aroundI X 24) - 6), .int .i64 ((aroundI Y 24) - 6), .int .i64 (1 + (aroundI s 3)), .int .i64 (aroundI al 256), .int .i64 ca, .int .i64 cb, .int .i64 cc, .int .i64 cd] 30 true, .gen (rdE (A1) g1 o1 n1 1 (ivals .u32 xs1))] rfl rfl (by kernel_rfl) (by kernel_rfl) ?_
    refine cont_done ?_
    refine then_normal ?_
    refine cont_seq ?_
    refine cont_region 2 rfl ?_
    refine batch0 [2, 1] 2 0 [(8, .pointer (some ⟨b2, 0, none⟩))] [.gen (rowE (some ⟨r5, 0, none⟩) r5 n6 n6 45 1 (ivals .u32 (goodP n6 xs1 n6)) true), .cells b2 [.bool true, .int .i64 (1 + aroundI (aroundI a 6) 16), .int .i64 (1 + aroundI (aroundI b 6) 16), .slice (some ⟨r5, 0, none⟩) n6 n6, .int .i64 ((aroundI X 24) - 6), .int .i64 ((aroundI Y 24) - 6), .int .i64 (1 + (aroundI s 3)), .int .i64 (aroundI al 256), .int .i64 ca, .int .i64 cb, .int .i64 cc, .int .i64 cd] 30 true, .cells b1 [.bool true, .int .i64 (1 + aroundI (aroundI a 6) 16), .int .i64 (1 + aroundI (aroundI b 6) 16), .slice (some ⟨r5, 0, none⟩) n6 n6, .int .i64 ((aroundI X 24) - 6), .int .i64 ((aroundI Y 24) - 6), .int .i64 (1 + (aroundI s 3)), .int .i64 (aroundI al 256), .int .i64 ca, .int .i64 cb, .int .i64 cc, .int .i64 cd] 30 true, .gen (rdE (A1) g1 o1 n1 1 (ivals .u32 xs1))] rfl rfl (by kernel_rfl) (by kernel_rfl) ?_
    refine cont_forget 2 rfl ?_
    refine cont_done ?_
    refine then_normal ?_
    refine cont_ret ?_
    refine ret_one (.inl rfl) rfl 1 (.agg #[.bool true, .int .i64 (1 + aroundI (aroundI a 6) 16), .int .i64 (1 + aroundI (aroundI b 6) 16), .slice (some ⟨r5, 0, none⟩) n6 n6, .int .i64 ((aroundI X 24) - 6), .int .i64 ((aroundI Y 24) - 6), .int .i64 (1 + (aroundI s 3)), .int .i64 (aroundI al 256), .int .i64 ca, .int .i64 cb, .int .i64 cc, .int .i64 cd]) (by kernel_rfl) (by kernel_rfl) (fun w hT => ?_)
    replace hT := hT.erase 2 (fun e h hw => by cases h; first | rfl | cases hw)
    replace hT := hT.erase 1 (fun e h hw => by cases h; first | rfl | cases hw)
    exact ⟨_, _, rfl, ‹_›, hT⟩
  refine one_step 2 [(4, .pointer (some ⟨b1, 0, none⟩)), (8, .pointer (some ⟨b2, 0, none⟩)), (18, .pointer (some ⟨b1, 4, none⟩)), (24, .int .i64 Y)] [.gen (rowE (some ⟨r5, 0, none⟩) r5 n6 n6 45 1 (ivals .u32 (goodP n6 xs1 n6)) true), .cells b2 [.bool false, .int .i64 0, .int .i64 0, .slice none 0 0, .int .i64 0, .int .i64 0, .int .i64 0, .int .i64 0, .int .i64 0, .int .i64 0, .int .i64 0, .int .i64 0] 30 true, .cells b1 [.bool true, .int .i64 (1 + aroundI (aroundI a 6) 16), .int .i64 (1 + aroundI (aroundI b 6) 16), .slice (some ⟨r5, 0, none⟩) n6 n6, .int .i64 X, .int .i64 Y, .int .i64 s, .int .i64 al, .int .i64 ca, .int .i64 cb, .int .i64 cc, .int .i64 cd] 30 true, .gen (rdE (A1) g1 o1 n1 1 (ivals .u32 xs1))] (by kernel_rfl) (by kernel_rfl) ?_
  refine drawn_next 0 [2] (by kernel_rfl) ?_
  refine drawn_one 2 7 rfl (by kernel_rfl) ?_
  refine one_step 2 [(4, .pointer (some ⟨b1, 0, none⟩)), (8, .pointer (some ⟨b2, 0, none⟩)), (19, .int .i64 X), (24, .int .i64 Y)] [.gen (rowE (some ⟨r5, 0, none⟩) r5 n6 n6 45 1 (ivals .u32 (goodP n6 xs1 n6)) true), .cells b2 [.bool false, .int .i64 0, .int .i64 0, .slice none 0 0, .int .i64 0, .int .i64 0, .int .i64 0, .int .i64 0, .int .i64 0, .int .i64 0, .int .i64 0, .int .i64 0] 30 true, .cells b1 [.bool true, .int .i64 (1 + aroundI (aroundI a 6) 16), .int .i64 (1 + aroundI (aroundI b 6) 16), .slice (some ⟨r5, 0, none⟩) n6 n6, .int .i64 X, .int .i64 Y, .int .i64 s, .int .i64 al, .int .i64 ca, .int .i64 cb, .int .i64 cc, .int .i64 cd] 30 true, .gen (rdE (A1) g1 o1 n1 1 (ivals .u32 xs1))] (by kernel_rfl) (by kernel_rfl) ?_
  refine drawn_next 0 [2] (by kernel_rfl) ?_
  refine drawn_one 3 6 rfl (by kernel_rfl) ?_
  refine call_pure (d := 20) (.int .i64 (aroundI X 24)) (by kernel_rfl) (fun w hT => refAround X 24 w (by omega) (by omega)) ?_
  have hq16_ := aroundI_range X (m := 24) (by omega)
  refine drawn_next 0 [2] (by kernel_rfl) ?_
  refine takes 0 [2] [(4, 0)] 5 [4, 3, 2, 7, 6, 1, 5, 0] [(4, .pointer (some ⟨b1, 0, none⟩)), (8, .pointer (some ⟨b2, 0, none⟩)), (21, .int .i64 (IntKind.i64.wrap ((aroundI X 24) - 6))), (24, .int .i64 Y)] (by kernel_rfl) (by repeat' (first | exact pok_body | refine pok_then ?_ | refine pok_blk ?_)) (by kernel_rfl) rfl rfl (by kernel_rfl) (by kernel_rfl) ?_
  refine cont_recast 21 (.int .i64 (IntKind.i64.wrap ((aroundI X 24) - 6))) (.int .i64 ((aroundI X 24) - 6)) rfl (wrapI (by omega) (by omega)) ?_
  refine drawn_one 8 4 rfl (by kernel_rfl) ?_
  refine call_pure (d := 25) (.int .i64 (aroundI Y 24)) (by kernel_rfl) (fun w hT => refAround Y 24 w (by omega) (by omega)) ?_
  have hq17_ := aroundI_range Y (m := 24) (by omega)
  refine drawn_next 0 [2] (by kernel_rfl) ?_
  refine takes 0 [2] [(9, 0)] 3 [9, 8, 4, 3, 2, 7, 6, 1, 5, 0] [(4, .pointer (some ⟨b1, 0, none⟩)), (8, .pointer (some ⟨b2, 0, none⟩)), (21, .int .i64 ((aroundI X 24) - 6)), (26, .int .i64 (IntKind.i64.wrap ((aroundI Y 24) - 6)))] (by kernel_rfl) (by repeat' (first | exact pok_body | refine pok_then ?_ | refine pok_blk ?_)) (by kernel_rfl) rfl rfl (by kernel_rfl) (by kernel_rfl) ?_
  refine cont_recast 26 (.int .i64 (IntKind.i64.wrap ((aroundI Y 24) - 6))) (.int .i64 ((aroundI Y 24) - 6)) rfl (wrapI (by omega) (by omega)) ?_
  refine takes 0 [2] [(10, 0), (11, 0)] 1 [11, 10, 9, 8, 4, 3, 2, 7, 6, 1, 5, 0] [(4, .pointer (some ⟨b1, 0, none⟩)), (8, .pointer (some ⟨b2, 0, none⟩)), (27, .agg #[.int .i64 ((aroundI X 24) - 6), .int .i64 ((aroundI Y 24) - 6)]), (28, .pointer (some ⟨b1, 4, none⟩))] (by kernel_rfl) (by repeat' (first | exact pok_body | refine pok_then ?_ | refine pok_blk ?_)) (by kernel_rfl) rfl rfl (by kernel_rfl) (by kernel_rfl) ?_
  refine drawn_one 12 0 rfl (by kernel_rfl) ?_
  refine one_step 2 [(4, .pointer (some ⟨b1, 0, none⟩)), (8, .pointer (some ⟨b2, 0, none⟩))] [.gen (rowE (some ⟨r5, 0, none⟩) r5 n6 n6 45 1 (ivals .u32 (goodP n6 xs1 n6)) true), .cells b2 [.bool false, .int .i64 0, .int .i64 0, .slice none 0 0, .int .i64 0, .int .i64 0, .int .i64 0, .int .i64 0, .int .i64 0, .int .i64 0, .int .i64 0, .int .i64 0] 30 true, .cells b1 [.bool true, .int .i64 (1 + aroundI (aroundI a 6) 16), .int .i64 (1 + aroundI (aroundI b 6) 16), .slice (some ⟨r5, 0, none⟩) n6 n6, .int .i64 ((aroundI X 24) - 6), .int .i64 ((aroundI Y 24) - 6), .int .i64 s, .int .i64 al, .int .i64 ca, .int .i64 cb, .int .i64 cc, .int .i64 cd] 30 true, .gen (rdE (A1) g1 o1 n1 1 (ivals .u32 xs1))] (by kernel_rfl) (by kernel_rfl) ?_
  refine drawn_next 0 [2] (by kernel_rfl) ?_
  refine drawn_done (by kernel_rfl) ?_
  refine then_normal ?_
  refine cont_seq ?_
  refine cont_region 6 rfl ?_
  refine batch0 [0, 2] 2 4 [(4, .pointer (some ⟨b1, 0, none⟩)), (8, .pointer (some ⟨b2, 0, none⟩)), (30, .int .i64 s)] [.gen (rowE (some ⟨r5, 0, none⟩) r5 n6 n6 45 1 (ivals .u32 (goodP n6 xs1 n6)) true), .cells b2 [.bool false, .int .i64 0, .int .i64 0, .slice none 0 0, .int .i64 0, .int .i64 0, .int .i64 0, .int .i64 0, .int .i64 0, .int .i64 0, .int .i64 0, .int .i64 0] 30 true, .cells b1 [.bool true, .int .i64 (1 + aroundI (aroundI a 6) 16), .int .i64 (1 + aroundI (aroundI b 6) 16), .slice (some ⟨r5, 0, none⟩) n6 n6, .int .i64 ((aroundI X 24) - 6), .int .i64 ((aroundI Y 24) - 6), .int .i64 s, .int .i64 al, .int .i64 ca, .int .i64 cb, .int .i64 cc, .int .i64 cd] 30 true, .gen (rdE (A1) g1 o1 n1 1 (ivals .u32 xs1))] rfl rfl (by kernel_rfl) (by kernel_rfl) ?_
  refine pl_step 3 3 rfl rfl ?_
  refine call_pure (d := 31) (.int .i64 (aroundI s 3)) (by kernel_rfl) (fun w hT => refAround s 3 w (by omega) (by omega)) ?_
  have hq18_ := aroundI_range s (m := 3) (by omega)
  refine batch0 [0] 4 2 [(4, .pointer (some ⟨b1, 0, none⟩)), (8, .pointer (some ⟨b2, 0, none⟩)), (32, .int .i64 (IntKind.i64.wrap (1 + (aroundI s 3))))] [.gen (rowE (some ⟨r5, 0, none⟩) r5 n6 n6 45 1 (ivals .u32 (goodP n6 xs1 n6)) true), .cells b2 [.bool false, .int .i64 0, .int .i64 0, .slice none 0 0, .int .i64 0, .int .i64 0, .int .i64 0, .int .i64 0, .int .i64 0, .int .i64 0, .int .i64 0, .int .i64 0] 30 true, .cells b1 [.bool true, .int .i64 (1 + aroundI (aroundI a 6) 16), .int .i64 (1 + aroundI (aroundI b 6) 16), .slice (some ⟨r5, 0, none⟩) n6 n6, .int .i64 ((aroundI X 24) - 6), .int .i64 ((aroundI Y 24) - 6), .int .i64 s, .int .i64 al, .int .i64 ca, .int .i64 cb, .int .i64 cc, .int .i64 cd] 30 true, .gen (rdE (A1) g1 o1 n1 1 (ivals .u32 xs1))] rfl rfl (by kernel_rfl) (by kernel_rfl) ?_
  refine cont_recast 32 (.int .i64 (IntKind.i64.wrap (1 + (aroundI s 3)))) (.int .i64 (1 + (aroundI s 3))) rfl (wrapI (by omega) (by omega)) ?_
  refine batch0 [0, 2] 6 0 [(4, .pointer (some ⟨b1, 0, none⟩)), (8, .pointer (some ⟨b2, 0, none⟩))] [.gen (rowE (some ⟨r5, 0, none⟩) r5 n6 n6 45 1 (ivals .u32 (goodP n6 xs1 n6)) true), .cells b2 [.bool false, .int .i64 0, .int .i64 0, .slice none 0 0, .int .i64 0, .int .i64 0, .int .i64 0, .int .i64 0, .int .i64 0, .int .i64 0, .int .i64 0, .int .i64 0] 30 true, .cells b1 [.bool true, .int .i64 (1 + aroundI (aroundI a 6) 16), .int .i64 (1 + aroundI (aroundI b 6) 16), .slice (some ⟨r5, 0, none⟩) n6 n6, .int .i64 ((aroundI X 24) - 6), .int .i64 ((aroundI Y 24) - 6), .int .i64 (1 + (aroundI s 3)), .int .i64 al, .int .i64 ca, .int .i64 cb, .int .i64 cc, .int .i64 cd] 30 true, .gen (rdE (A1) g1 o1 n1 1 (ivals .u32 xs1))] rfl rfl (by kernel_rfl) (by kernel_rfl) ?_
  refine cont_done ?_
  refine then_normal ?_
  refine cont_seq ?_
  refine cont_region 5 rfl ?_
  refine batch0 [0, 2] 2 3 [(4, .pointer (some ⟨b1, 0, none⟩)), (8, .pointer (some ⟨b2, 0, none⟩)), (35, .int .i64 al)] [.gen (rowE (some ⟨r5, 0, none⟩) r5 n6 n6 45 1 (ivals .u32 (goodP n6 xs1 n6)) true), .cells b2 [.bool false, .int .i64 0, .int .i64 0, .slice none 0 0, .int .i64 0, .int .i64 0, .int .i64 0, .int .i64 0, .int .i64 0, .int .i64 0, .int .i64 0, .int .i64 0] 30 true, .cells b1 [.bool true, .int .i64 (1 + aroundI (aroundI a 6) 16), .int .i64 (1 + aroundI (aroundI b 6) 16), .slice (some ⟨r5, 0, none⟩) n6 n6, .int .i64 ((aroundI X 24) - 6), .int .i64 ((aroundI Y 24) - 6), .int .i64 (1 + (aroundI s 3)), .int .i64 al, .int .i64 ca, .int .i64 cb, .int .i64 cc, .int .i64 cd] 30 true, .gen (rdE (A1) g1 o1 n1 1 (ivals .u32 xs1))] rfl rfl (by kernel_rfl) (by kernel_rfl) ?_
  refine pl_step 3 2 rfl rfl ?_
  refine call_pure (d := 36) (.int .i64 (aroundI al 256)) (by kernel_rfl) (fun w hT => refAround al 256 w (by omega) (by omega)) ?_
  have hq19_ := aroundI_range al (m := 256) (by omega)
  refine batch0 [0, 2] 5 0 [(4, .pointer (some ⟨b1, 0, none⟩)), (8, .pointer (some ⟨b2, 0, none⟩))] [.gen (rowE (some ⟨r5, 0, none⟩) r5 n6 n6 45 1 (ivals .u32 (goodP n6 xs1 n6)) true), .cells b2 [.bool false, .int .i64 0, .int .i64 0, .slice none 0 0, .int .i64 0, .int .i64 0, .int .i64 0, .int .i64 0, .int .i64 0, .int .i64 0, .int .i64 0, .int .i64 0] 30 true, .cells b1 [.bool true, .int .i64 (1 + aroundI (aroundI a 6) 16), .int .i64 (1 + aroundI (aroundI b 6) 16), .slice (some ⟨r5, 0, none⟩) n6 n6, .int .i64 ((aroundI X 24) - 6), .int .i64 ((aroundI Y 24) - 6), .int .i64 (1 + (aroundI s 3)), .int .i64 (aroundI al 256), .int .i64 ca, .int .i64 cb, .int .i64 cc, .int .i64 cd] 30 true, .gen (rdE (A1) g1 o1 n1 1 (ivals .u32 xs1))] rfl rfl (by kernel_rfl) (by kernel_rfl) ?_
  refine cont_done ?_
  refine then_normal ?_
  refine cont_seq ?_
  refine cont_region 2 rfl ?_
  refine batch0 [2, 1] 2 0 [(8, .pointer (some ⟨b2, 0, none⟩))] [.gen (rowE (some ⟨r5, 0, none⟩) r5 n6 n6 45 1 (ivals .u32 (goodP n6 xs1 n6)) true), .cells b2 [.bool true, .int .i64 (1 + aroundI (aroundI a 6) 16), .int .i64 (1 + aroundI (aroundI b 6) 16), .slice (some ⟨r5, 0, none⟩) n6 n6, .int .i64 ((aroundI X 24) - 6), .int .i64 ((aroundI Y 24) - 6), .int .i64 (1 + (aroundI s 3)), .int .i64 (aroundI al 256), .int .i64 ca, .int .i64 cb, .int .i64 cc, .int .i64 cd] 30 true, .cells b1 [.bool true, .int .i64 (1 + aroundI (aroundI a 6) 16), .int .i64 (1 + aroundI (aroundI b 6) 16), .slice (some ⟨r5, 0, none⟩) n6 n6, .int .i64 ((aroundI X 24) - 6), .int .i64 ((aroundI Y 24) - 6), .int .i64 (1 + (aroundI s 3)), .int .i64 (aroundI al 256), .int .i64 ca, .int .i64 cb, .int .i64 cc, .int .i64 cd] 30 true, .gen (rdE (A1) g1 o1 n1 1 (ivals .u32 xs1))] rfl rfl (by kernel_rfl) (by kernel_rfl) ?_
  refine cont_forget 2 rfl ?_
  refine cont_done ?_
  refine then_normal ?_
  refine cont_ret ?_
  refine ret_one (.inl rfl) rfl 1 (.agg #[.bool true, .int .i64 (1 + aroundI (aroundI a 6) 16), .int .i64 (1 + aroundI (aroundI b 6) 16), .slice (some ⟨r5, 0, none⟩) n6 n6, .int .i64 ((aroundI X 24) - 6), .int .i64 ((aroundI Y 24) - 6), .int .i64 (1 + (aroundI s 3)), .int .i64 (aroundI al 256), .int .i64 ca, .int .i64 cb, .int .i64 cc, .int .i64 cd]) (by kernel_rfl) (by kernel_rfl) (fun w hT => ?_)
  replace hT := hT.erase 2 (fun e h hw => by cases h; first | rfl | cases hw)
  replace hT := hT.erase 1 (fun e h hw => by cases h; first | rfl | cases hw)
  exact ⟨_, _, rfl, ‹_›, hT⟩

theorem refIn (n : Int) (w : World) :
    Calls Try.prog 43 #[.int .i64 n] w fun e w' => e = .returned (.bool (inB n)) ∧ Below w.heap.size w w' := by
  refine enter 9 [(0, .int .i64 n)] [] Try.func43 rfl Try.ntmps43 rfl (by kernel_rfl) (Tab.start w) ?_
  refine cont_seq ?_
  refine cont_region 1 rfl ?_
  refine batch0 [0] 1 0 [(0, .int .i64 n)] [] rfl rfl (by kernel_rfl) (by kernel_rfl) ?_
  refine cont_done ?_
  refine then_normal ?_
  refine cont_seq ?_
  refine cont_region 7 rfl ?_
  refine batch0 [0, 0, 0] 3 4 [(0, .int .i64 n), (5, .bool (decide (n ≥ (-1048576))))] [] rfl rfl (by kernel_rfl) (by kernel_rfl) ?_
  refine cont_split 5 (decide (n ≥ (-1048576))) rfl (fun c1_ => ?_) (fun c1_ => ?_)
  ·
    replace c1_ := of_decide_eq_true c1_
    refine batch0 [0, 0, 0, 0] 7 0 [(2, .bool (decide (n ≤ 1048576)))] [] rfl rfl (by kernel_rfl) (by kernel_rfl) ?_
    refine cont_done ?_
    refine then_normal ?_
    refine cont_ret ?_
    refine ret_one (.inl rfl) rfl 0 (.bool (decide (n ≤ 1048576))) (by kernel_rfl) (by kernel_rfl) (fun w hT => ?_)
    exact ⟨ret_bool (by unfold inB; rw [Bool.eq_iff_iff]; simp only [decide_eq_true_eq, Bool.false_eq_true, true_iff, false_iff]; omega), hT.post rfl⟩
  replace c1_ := of_decide_eq_false c1_
  refine batch0 [0, 0, 0, 0] 7 0 [(2, .bool false)] [] rfl rfl (by kernel_rfl) (by kernel_rfl) ?_
  refine cont_done ?_
  refine then_normal ?_
  refine cont_ret ?_
  refine ret_one (.inl rfl) rfl 0 (.bool false) (by kernel_rfl) (by kernel_rfl) (fun w hT => ?_)
  exact ⟨ret_bool (by unfold inB; rw [Bool.eq_iff_iff]; simp only [decide_eq_true_eq, Bool.false_eq_true, true_iff, false_iff]; omega), hT.post rfl⟩

theorem refMay5 (sm : Bool) (W H : Int) (ms : Value) (X Y s al ca cb cc cd : Int) (w : World) (hw : 1 ≤ W ∧ W ≤ 256) (hh : 1 ≤ H ∧ H ≤ 256) :
    Calls Try.prog 13 #[.agg #[.bool sm, .int .i64 W, .int .i64 H, ms, .int .i64 X, .int .i64 Y, .int .i64 s, .int .i64 al, .int .i64 ca, .int .i64 cb, .int .i64 cc, .int .i64 cd]] w fun e w' => e = .returned (.bool (sm && rmayB W H X Y s al)) ∧ Below w.heap.size w w' := by
  refine enter 64 [(0, .agg #[.bool sm, .int .i64 W, .int .i64 H, ms, .int .i64 X, .int .i64 Y, .int .i64 s, .int .i64 al, .int .i64 ca, .int .i64 cb, .int .i64 cc, .int .i64 cd])] [] Try.func13 rfl Try.ntmps13 rfl (by kernel_rfl) (Tab.start w) ?_
  refine cont_seq ?_
  refine cont_region 2 rfl ?_
  refine batch1 [0, 0] 2 0 (fun b1 => [(1, .pointer (some ⟨b1, 0, none⟩))]) (fun b1 => [.cells b1 [.bool sm, .int .i64 W, .int .i64 H, ms, .int .i64 X, .int .i64 Y, .int .i64 s, .int .i64 al, .int .i64 ca, .int .i64 cb, .int .i64 cc, .int .i64 cd] 30 true]) rfl rfl [1] (fun _ => rfl) (fun b1 => by kernel_rfl) (fun b1 => by kernel_rfl) (fun b1 => ?_)
  refine cont_done ?_
  refine then_normal ?_
  refine cont_seq ?_
  refine cont_seq ?_
  refine cont_region 23 rfl ?_
  refine batch0 [0, 0, 0, 0] 4 19 [(1, .pointer (some ⟨b1, 0, none⟩)), (7, .bool (!sm))] [.cells b1 [.bool sm, .int .i64 W, .int .i64 H, ms, .int .i64 X, .int .i64 Y, .int .i64 s, .int .i64 al, .int .i64 ca, .int .i64 cb, .int .i64 cc, .int .i64 cd] 30 true] rfl rfl (by kernel_rfl) (by kernel_rfl) ?_
  refine cont_split 7 (!sm) rfl (fun c2_ => ?_) (fun c2_ => ?_)
  ·
    replace c2_ : sm = false := by simpa using c2_
    refine batch0 [0, 0, 0, 0, 0, 0, 0, 0, 0, 0, 0, 0, 0, 0, 0, 0, 0, 0, 0] 23 0 [(1, .pointer (some ⟨b1, 0, none⟩)), (26, .bool true)] [.cells b1 [.bool sm, .int .i64 W, .int .i64 H, ms, .int .i64 X, .int .i64 Y, .int .i64 s, .int .i64 al, .int .i64 ca, .int .i64 cb, .int .i64 cc, .int .i64 cd] 30 true] rfl rfl (by kernel_rfl) (by kernel_rfl) ?_
    refine cont_done ?_
    refine then_normal ?_
    refine cont_true rfl ?_
    refine cont_seq ?_
    refine cont_region 1 rfl ?_
    refine batch0 [0] 1 0 [(2, .bool false)] [.cells b1 [.bool sm, .int .i64 W, .int .i64 H, ms, .int .i64 X, .int .i64 Y, .int .i64 s, .int .i64 al, .int .i64 ca, .int .i64 cb, .int .i64 cc, .int .i64 cd] 30 true] rfl rfl (by kernel_rfl) (by kernel_rfl) ?_
    refine cont_forget 0 rfl ?_
    refine cont_done ?_
    refine then_normal ?_
    refine cont_ret ?_
    refine then_ret ?_
    refine ret_one (.inl rfl) rfl 0 (.bool false) (by kernel_rfl) (by kernel_rfl) (fun w hT => ?_)
    refine ⟨ret_bool ?_, hT.post rfl⟩
    simp [rmayB, *] <;> omega
  replace c2_ : sm = true := by simpa using c2_
  refine batch0 [0, 0, 0, 0, 0] 9 14 [(1, .pointer (some ⟨b1, 0, none⟩)), (12, .bool (decide (s < 1)))] [.cells b1 [.bool sm, .int .i64 W, .int .i64 H, ms, .int .i64 X, .int .i64 Y, .int .i64 s, .int .i64 al, .int .i64 ca, .int .i64 cb, .int .i64 cc, .int .i64 cd] 30 true] rfl rfl (by kernel_rfl) (by kernel_rfl) ?_
  refine cont_split 12 (decide (s < 1)) rfl (fun c3_ => ?_) (fun c3_ => ?_)
  ·
    replace c3_ := of_decide_eq_true c3_
    refine batch0 [0, 0, 0, 0, 0, 0, 0, 0, 0, 0, 0, 0, 0, 0] 23 0 [(1, .pointer (some ⟨b1, 0, none⟩)), (26, .bool true)] [.cells b1 [.bool sm, .int .i64 W, .int .i64 H, ms, .int .i64 X, .int .i64 Y, .int .i64 s, .int .i64 al, .int .i64 ca, .int .i64 cb, .int .i64 cc, .int .i64 cd] 30 true] rfl rfl (by kernel_rfl) (by kernel_rfl) ?_
    refine cont_done ?_
    refine then_normal ?_
    refine cont_true rfl ?_
    refine cont_seq ?_
    refine cont_region 1 rfl ?_
    refine batch0 [0] 1 0 [(2, .bool false)] [.cells b1 [.bool sm, .int .i64 W, .int .i64 H, ms, .int .i64 X, .int .i64 Y, .int .i64 s, .int .i64 al, .int .i64 ca, .int .i64 cb, .int .i64 cc, .int .i64 cd] 30 true] rfl rfl (by kernel_rfl) (by kernel_rfl) ?_
    refine cont_forget 0 rfl ?_
    refine cont_done ?_
    refine then_normal ?_
    refine cont_ret ?_
    refine then_ret ?_
    refine ret_one (.inl rfl) rfl 0 (.bool false) (by kernel_rfl) (by kernel_rfl) (fun w hT => ?_)
    refine ⟨ret_bool ?_, hT.post rfl⟩
    simp [rmayB, *] <;> omega
  replace c3_ := of_decide_eq_false c3_
  refine batch0 [0, 0, 0, 0, 0] 14 9 [(1, .pointer (some ⟨b1, 0, none⟩)), (17, .bool (decide (s > 8)))] [.cells b1 [.bool sm, .int .i64 W, .int .i64 H, ms, .int .i64 X, .int .i64 Y, .int .i64 s, .int .i64 al, .int .i64 ca, .int .i64 cb, .int .i64 cc, .int .i64 cd] 30 true] rfl rfl (by kernel_rfl) (by kernel_rfl) ?_
  refine cont_split 17 (decide (s > 8)) rfl (fun c4_ => ?_) (fun c4_ => ?_)
  ·
    replace c4_ := of_decide_eq_true c4_
    refine batch0 [0, 0, 0, 0, 0, 0, 0, 0, 0] 23 0 [(1, .pointer (some ⟨b1, 0, none⟩)), (26, .bool true)] [.cells b1 [.bool sm, .int .i64 W, .int .i64 H, ms, .int .i64 X, .int .i64 Y, .int .i64 s, .int .i64 al, .int .i64 ca, .int .i64 cb, .int .i64 cc, .int .i64 cd] 30 true] rfl rfl (by kernel_rfl) (by kernel_rfl) ?_
    refine cont_done ?_
    refine then_normal ?_
    refine cont_true rfl ?_
    refine cont_seq ?_
    refine cont_region 1 rfl ?_
    refine batch0 [0] 1 0 [(2, .bool false)] [.cells b1 [.bool sm, .int .i64 W, .int .i64 H, ms, .int .i64 X, .int .i64 Y, .int .i64 s, .int .i64 al, .int .i64 ca, .int .i64 cb, .int .i64 cc, .int .i64 cd] 30 true] rfl rfl (by kernel_rfl) (by kernel_rfl) ?_
    refine cont_forget 0 rfl ?_
    refine cont_done ?_
    refine then_normal ?_
    refine cont_ret ?_
    refine then_ret ?_
    refine ret_one (.inl rfl) rfl 0 (.bool false) (by kernel_rfl) (by kernel_rfl) (fun w hT => ?_)
    refine ⟨ret_bool ?_, hT.post rfl⟩
    simp [rmayB, *] <;> omega
  replace c4_ := of_decide_eq_false c4_
  refine batch0 [0, 0, 0, 0, 0] 19 4 [(1, .pointer (some ⟨b1, 0, none⟩)), (22, .bool (decide (al < 0)))] [.cells b1 [.bool sm, .int .i64 W, .int .i64 H, ms, .int .i64 X, .int .i64 Y, .int .i64 s, .int .i64 al, .int .i64 ca, .int .i64 cb, .int .i64 cc, .int .i64 cd] 30 true] rfl rfl (by kernel_rfl) (by kernel_rfl) ?_
  refine cont_split 22 (decide (al < 0)) rfl (fun c5_ => ?_) (fun c5_ => ?_)
  ·
    replace c5_ := of_decide_eq_true c5_
    refine batch0 [0, 0, 0, 0] 23 0 [(1, .pointer (some ⟨b1, 0, none⟩)), (26, .bool true)] [.cells b1 [.bool sm, .int .i64 W, .int .i64 H, ms, .int .i64 X, .int .i64 Y, .int .i64 s, .int .i64 al, .int .i64 ca, .int .i64 cb, .int .i64 cc, .int .i64 cd] 30 true] rfl rfl (by kernel_rfl) (by kernel_rfl) ?_
    refine cont_done ?_
    refine then_normal ?_
    refine cont_true rfl ?_
    refine cont_seq ?_
    refine cont_region 1 rfl ?_
    refine batch0 [0] 1 0 [(2, .bool false)] [.cells b1 [.bool sm, .int .i64 W, .int .i64 H, ms, .int .i64 X, .int .i64 Y, .int .i64 s, .int .i64 al, .int .i64 ca, .int .i64 cb, .int .i64 cc, .int .i64 cd] 30 true] rfl rfl (by kernel_rfl) (by kernel_rfl) ?_
    refine cont_forget 0 rfl ?_
    refine cont_done ?_
    refine then_normal ?_
    refine cont_ret ?_
    refine then_ret ?_
    refine ret_one (.inl rfl) rfl 0 (.bool false) (by kernel_rfl) (by kernel_rfl) (fun w hT => ?_)
    refine ⟨ret_bool ?_, hT.post rfl⟩
    simp [rmayB, *] <;> omega
  replace c5_ := of_decide_eq_false c5_
  refine batch0 [0, 0, 0, 0] 23 0 [(1, .pointer (some ⟨b1, 0, none⟩)), (26, .bool (decide (al > 255)))] [.cells b1 [.bool sm, .int .i64 W, .int .i64 H, ms, .int .i64 X, .int .i64 Y, .int .i64 s, .int .i64 al, .int .i64 ca, .int .i64 cb, .int .i64 cc, .int .i64 cd] 30 true] rfl rfl (by kernel_rfl) (by kernel_rfl) ?_
  refine cont_done ?_
  refine then_normal ?_
  refine cont_split 26 (decide (al > 255)) rfl (fun c6_ => ?_) (fun c6_ => ?_)
  ·
    replace c6_ := of_decide_eq_true c6_
    refine cont_true rfl ?_
    refine cont_seq ?_
    refine cont_region 1 rfl ?_
    refine batch0 [0] 1 0 [(2, .bool false)] [.cells b1 [.bool sm, .int .i64 W, .int .i64 H, ms, .int .i64 X, .int .i64 Y, .int .i64 s, .int .i64 al, .int .i64 ca, .int .i64 cb, .int .i64 cc, .int .i64 cd] 30 true] rfl rfl (by kernel_rfl) (by kernel_rfl) ?_
    refine cont_forget 0 rfl ?_
    refine cont_done ?_
    refine then_normal ?_
    refine cont_ret ?_
    refine then_ret ?_
    refine ret_one (.inl rfl) rfl 0 (.bool false) (by kernel_rfl) (by kernel_rfl) (fun w hT => ?_)
    refine ⟨ret_bool ?_, hT.post rfl⟩
    simp [rmayB, *] <;> omega
  replace c6_ := of_decide_eq_false c6_
  refine cont_false rfl ?_
  refine cont_skip ?_
  refine then_normal ?_
  refine cont_seq ?_
  refine cont_region 11 rfl ?_
  have hm1 := mul_scale (m := 256) (show 0 ≤ W by omega) (by omega) (s := s) (by omega)
  have hm2 := mul_scale (m := 256) (show 0 ≤ H by omega) (by omega) (s := s) (by omega)
  refine batch0 [0, 0, 0] 3 8 [(1, .pointer (some ⟨b1, 0, none⟩)), (29, .int .i64 X)] [.cells b1 [.bool sm, .int .i64 W, .int .i64 H, ms, .int .i64 X, .int .i64 Y, .int .i64 s, .int .i64 al, .int .i64 ca, .int .i64 cb, .int .i64 cc, .int .i64 cd] 30 true] rfl rfl (by kernel_rfl) (by kernel_rfl) ?_
  refine pl_step 4 7 rfl rfl ?_
  refine call_pure (d := 30) (.bool (inB X)) (by kernel_rfl) (fun w hT => refIn X w) ?_
  refine batch0 [0] 5 6 [(1, .pointer (some ⟨b1, 0, none⟩)), (31, .bool (inB X))] [.cells b1 [.bool sm, .int .i64 W, .int .i64 H, ms, .int .i64 X, .int .i64 Y, .int .i64 s, .int .i64 al, .int .i64 ca, .int .i64 cb, .int .i64 cc, .int .i64 cd] 30 true] rfl rfl (by kernel_rfl) (by kernel_rfl) ?_
  refine cont_split 31 (inB X) rfl (fun c7_ => ?_) (fun c7_ => ?_)
  ·
    have hinc7_ := of_decide_eq_true (show decide _ = true from c7_)
    refine batch0 [0, 0, 0] 8 3 [(1, .pointer (some ⟨b1, 0, none⟩)), (31, .bool true), (34, .int .i64 Y)] [.cells b1 [.bool sm, .int .i64 W, .int .i64 H, ms, .int .i64 X, .int .i64 Y, .int .i64 s, .int .i64 al, .int .i64 ca, .int .i64 cb, .int .i64 cc, .int .i64 cd] 30 true] rfl rfl (by kernel_rfl) (by kernel_rfl) ?_
    refine pl_step 9 2 rfl rfl ?_
    refine call_pure (d := 35) (.bool (inB Y)) (by kernel_rfl) (fun w hT => refIn Y w) ?_
    refine batch0 [0, 0] 11 0 [(1, .pointer (some ⟨b1, 0, none⟩)), (3, .bool (inB Y))] [.cells b1 [.bool sm, .int .i64 W, .int .i64 H, ms, .int .i64 X, .int .i64 Y, .int .i64 s, .int .i64 al, .int .i64 ca, .int .i64 cb, .int .i64 cc, .int .i64 cd] 30 true] rfl rfl (by kernel_rfl) (by kernel_rfl) ?_
    refine cont_done ?_
    refine then_normal ?_
    refine cont_seq ?_
    refine cont_region 28 rfl ?_
    refine batch0 [0, 0] 2 26 [(1, .pointer (some ⟨b1, 0, none⟩)), (38, .bool (inB Y))] [.cells b1 [.bool sm, .int .i64 W, .int .i64 H, ms, .int .i64 X, .int .i64 Y, .int .i64 s, .int .i64 al, .int .i64 ca, .int .i64 cb, .int .i64 cc, .int .i64 cd] 30 true] rfl rfl (by kernel_rfl) (by kernel_rfl) ?_
    refine cont_split 38 (inB Y) rfl (fun c8_ => ?_) (fun c8_ => ?_)
    ·
      have hinc8_ := of_decide_eq_true (show decide _ = true from c8_)
      refine batch0 [0, 0, 0, 0, 0, 0, 0, 0, 0] 11 17 [(1, .pointer (some ⟨b1, 0, none⟩)), (38, .bool true), (41, .int .i64 X), (47, .int .i64 (IntKind.i64.wrap (W * s)))] [.cells b1 [.bool sm, .int .i64 W, .int .i64 H, ms, .int .i64 X, .int .i64 Y, .int .i64 s, .int .i64 al, .int .i64 ca, .int .i64 cb, .int .i64 cc, .int .i64 cd] 30 true] rfl rfl (by kernel_rfl) (by kernel_rfl) ?_
      refine cont_recast 47 (.int .i64 (IntKind.i64.wrap (W * s))) (.int .i64 (W * s)) rfl (wrapI (by omega) (by omega)) ?_
      refine batch0 [0] 12 16 [(1, .pointer (some ⟨b1, 0, none⟩)), (38, .bool true), (48, .int .i64 (IntKind.i64.wrap (X + (W * s))))] [.cells b1 [.bool sm, .int .i64 W, .int .i64 H, ms, .int .i64 X, .int .i64 Y, .int .i64 s, .int .i64 al, .int .i64 ca, .int .i64 cb, .int .i64 cc, .int .i64 cd] 30 true] rfl rfl (by kernel_rfl) (by kernel_rfl) ?_
      refine cont_recast 48 (.int .i64 (IntKind.i64.wrap (X + (W * s)))) (.int .i64 (X + (W * s))) rfl (wrapI (by omega) (by omega)) ?_
      refine pl_step 13 15 rfl rfl ?_
      refine call_pure (d := 49) (.bool (inB (X + (W * s)))) (by kernel_rfl) (fun w hT => refIn (X + (W * s)) w) ?_
      refine batch0 [0, 0] 15 13 [(1, .pointer (some ⟨b1, 0, none⟩)), (51, .bool (inB (X + (W * s))))] [.cells b1 [.bool sm, .int .i64 W, .int .i64 H, ms, .int .i64 X, .int .i64 Y, .int .i64 s, .int .i64 al, .int .i64 ca, .int .i64 cb, .int .i64 cc, .int .i64 cd] 30 true] rfl rfl (by kernel_rfl) (by kernel_rfl) ?_
      refine cont_split 51 (inB (X + (W * s))) rfl (fun c9_ => ?_) (fun c9_ => ?_)
      ·
        have hinc9_ := of_decide_eq_true (show decide _ = true from c9_)
        refine batch0 [0, 0, 0, 0, 0, 0, 0, 0, 0] 24 4 [(51, .bool true), (54, .int .i64 Y), (60, .int .i64 (IntKind.i64.wrap (H * s)))] [.cells b1 [.bool sm, .int .i64 W, .int .i64 H, ms, .int .i64 X, .int .i64 Y, .int .i64 s, .int .i64 al, .int .i64 ca, .int .i64 cb, .int .i64 cc, .int .i64 cd] 30 true] rfl rfl (by kernel_rfl) (by kernel_rfl) ?_
        refine cont_recast 60 (.int .i64 (IntKind.i64.wrap (H * s))) (.int .i64 (H * s)) rfl (wrapI (by omega) (by omega)) ?_
        refine cont_forget 0 rfl ?_
        refine batch0 [0] 25 3 [(51, .bool true), (61, .int .i64 (IntKind.i64.wrap (Y + (H * s))))] [] rfl rfl (by kernel_rfl) (by kernel_rfl) ?_
        refine cont_recast 61 (.int .i64 (IntKind.i64.wrap (Y + (H * s)))) (.int .i64 (Y + (H * s))) rfl (wrapI (by omega) (by omega)) ?_
        refine pl_step 26 2 rfl rfl ?_
        refine call_pure (d := 62) (.bool (inB (Y + (H * s)))) (by kernel_rfl) (fun w hT => refIn (Y + (H * s)) w) ?_
        refine batch0 [0, 0] 28 0 [(2, .bool (inB (Y + (H * s))))] [] rfl rfl (by kernel_rfl) (by kernel_rfl) ?_
        refine cont_done ?_
        refine then_normal ?_
        refine cont_ret ?_
        refine ret_one (.inl rfl) rfl 0 (.bool (inB (Y + (H * s)))) (by kernel_rfl) (by kernel_rfl) (fun w hT => ?_)
        refine ⟨ret_bool ?_, hT.post rfl⟩
        simp [rmayB, *] <;> omega
      refine batch0 [0, 0, 0, 0, 0, 0, 0, 0, 0, 0, 0, 0, 0] 28 0 [(2, .bool false)] [.cells b1 [.bool sm, .int .i64 W, .int .i64 H, ms, .int .i64 X, .int .i64 Y, .int .i64 s, .int .i64 al, .int .i64 ca, .int .i64 cb, .int .i64 cc, .int .i64 cd] 30 true] rfl rfl (by kernel_rfl) (by kernel_rfl) ?_
      refine cont_forget 0 rfl ?_
      refine cont_done ?_
      refine then_normal ?_
      refine cont_ret ?_
      refine ret_one (.inl rfl) rfl 0 (.bool false) (by kernel_rfl) (by kernel_rfl) (fun w hT => ?_)
      refine ⟨ret_bool ?_, hT.post rfl⟩
      simp [rmayB, *] <;> omega
    refine batch0 [0, 0, 0, 0, 0, 0, 0, 0, 0, 0, 0, 0, 0, 0, 0, 0, 0, 0, 0, 0, 0, 0, 0, 0, 0, 0] 28 0 [(2, .bool false)] [.cells b1 [.bool sm, .int .i64 W, .int .i64 H, ms, .int .i64 X, .int .i64 Y, .int .i64 s, .int .i64 al, .int .i64 ca, .int .i64 cb, .int .i64 cc, .int .i64 cd] 30 true] rfl rfl (by kernel_rfl) (by kernel_rfl) ?_
    refine cont_forget 0 rfl ?_
    refine cont_done ?_
    refine then_normal ?_
    refine cont_ret ?_
    refine ret_one (.inl rfl) rfl 0 (.bool false) (by kernel_rfl) (by kernel_rfl) (fun w hT => ?_)
    refine ⟨ret_bool ?_, hT.post rfl⟩
    simp [rmayB, *] <;> omega
  refine batch0 [0, 0, 0, 0, 0, 0] 11 0 [(1, .pointer (some ⟨b1, 0, none⟩)), (3, .bool false)] [.cells b1 [.bool sm, .int .i64 W, .int .i64 H, ms, .int .i64 X, .int .i64 Y, .int .i64 s, .int .i64 al, .int .i64 ca, .int .i64 cb, .int .i64 cc, .int .i64 cd] 30 true] rfl rfl (by kernel_rfl) (by kernel_rfl) ?_
  refine cont_done ?_
  refine then_normal ?_
  refine cont_seq ?_
  refine cont_region 28 rfl ?_
  refine batch0 [0, 0, 0, 0, 0, 0, 0, 0, 0, 0, 0, 0, 0, 0, 0, 0, 0, 0, 0, 0, 0, 0, 0, 0, 0, 0, 0, 0] 28 0 [(2, .bool false)] [.cells b1 [.bool sm, .int .i64 W, .int .i64 H, ms, .int .i64 X, .int .i64 Y, .int .i64 s, .int .i64 al, .int .i64 ca, .int .i64 cb, .int .i64 cc, .int .i64 cd] 30 true] rfl rfl (by kernel_rfl) (by kernel_rfl) ?_
  refine cont_forget 0 rfl ?_
  refine cont_done ?_
  refine then_normal ?_
  refine cont_ret ?_
  refine ret_one (.inl rfl) rfl 0 (.bool false) (by kernel_rfl) (by kernel_rfl) (fun w hT => ?_)
  refine ⟨ret_bool ?_, hT.post rfl⟩
  simp [rmayB, *] <;> omega

theorem payMayN (X Y s al ca cb cc cd : Int) (w : World) :
    Calls Try.prog 11 #[.agg #[.pointer none, .int .i64 X, .int .i64 Y, .int .i64 s, .int .i64 al, .int .i64 ca, .int .i64 cb, .int .i64 cc, .int .i64 cd]] w fun e w' => e = .returned (.bool (false)) ∧ Below w.heap.size w w' := by
  refine enter 54 [(0, .agg #[.pointer none, .int .i64 X, .int .i64 Y, .int .i64 s, .int .i64 al, .int .i64 ca, .int .i64 cb, .int .i64 cc, .int .i64 cd])] [] Try.func11 rfl Try.ntmps11 rfl (by kernel_rfl) (Tab.start w) ?_
  refine cont_seq ?_
  refine cont_region 2 rfl ?_
  refine batch1 [0, 0] 2 0 (fun b1 => [(1, .pointer (some ⟨b1, 0, none⟩))]) (fun b1 => [.cells b1 [.pointer none, .int .i64 X, .int .i64 Y, .int .i64 s, .int .i64 al, .int .i64 ca, .int .i64 cb, .int .i64 cc, .int .i64 cd] 37 true]) rfl rfl [1] (fun _ => rfl) (fun b1 => by kernel_rfl) (fun b1 => by kernel_rfl) (fun b1 => ?_)
  refine cont_done ?_
  refine then_normal ?_
  refine cont_seq ?_
  refine cont_seq ?_
  refine cont_region 40 rfl ?_
  refine batch0 [0, 0, 0, 0, 0, 0, 0, 0, 0, 0, 0, 0, 0, 0, 0, 0, 0, 0, 0, 0, 0, 0, 0, 0, 0, 0, 0, 0, 0, 0, 0, 0, 0, 0, 0, 0, 0, 0, 0, 0] 40 0 [(1, .pointer (some ⟨b1, 0, none⟩)), (44, .bool true)] [.cells b1 [.pointer none, .int .i64 X, .int .i64 Y, .int .i64 s, .int .i64 al, .int .i64 ca, .int .i64 cb, .int .i64 cc, .int .i64 cd] 37 true] rfl rfl (by kernel_rfl) (by kernel_rfl) ?_
  refine cont_done ?_
  refine then_normal ?_
  refine cont_true rfl ?_
  refine cont_seq ?_
  refine cont_region 1 rfl ?_
  refine batch0 [0] 1 0 [(2, .bool false)] [.cells b1 [.pointer none, .int .i64 X, .int .i64 Y, .int .i64 s, .int .i64 al, .int .i64 ca, .int .i64 cb, .int .i64 cc, .int .i64 cd] 37 true] rfl rfl (by kernel_rfl) (by kernel_rfl) ?_
  refine cont_forget 0 rfl ?_
  refine cont_done ?_
  refine then_normal ?_
  refine cont_ret ?_
  refine then_ret ?_
  refine ret_one (.inl rfl) rfl 0 (.bool false) (by kernel_rfl) (by kernel_rfl) (fun w hT => ?_)
  exact ⟨rfl, hT.post rfl⟩

theorem payMay (m : Nat) (W H : Int) (r n cap : Nat) (px : List Int) (X Y s al ca cb cc cd : Int) (w : World) (hI : ImgR 99 w m W H r n cap px) (hok : ImgOk W H n px) :
    Calls Try.prog 11 #[.agg #[.pointer (some ⟨m, 0, none⟩), .int .i64 X, .int .i64 Y, .int .i64 s, .int .i64 al, .int .i64 ca, .int .i64 cb, .int .i64 cc, .int .i64 cd]] w fun e w' => e = .returned (.bool (pmayB W H X Y s al)) ∧ Below w.heap.size w w' := by
  have hcap := hI.cap
  refine enter 54 [(0, .agg #[.pointer (some ⟨m, 0, none⟩), .int .i64 X, .int .i64 Y, .int .i64 s, .int .i64 al, .int .i64 ca, .int .i64 cb, .int .i64 cc, .int .i64 cd])] [.ro m [.int .i64 W, .int .i64 H, .slice (some ⟨r, 0, none⟩) n cap] 99, .gen (rdE (some ⟨r, 0, none⟩) r 0 n 1 (ivals .u32 px))] Try.func11 rfl Try.ntmps11 rfl (by kernel_rfl) hI.tab ?_
  refine cont_seq ?_
  refine cont_region 2 rfl ?_
  refine batch1 [0, 0] 2 0 (fun b1 => [(1, .pointer (some ⟨b1, 0, none⟩))]) (fun b1 => [.cells b1 [.pointer (some ⟨m, 0, none⟩), .int .i64 X, .int .i64 Y, .int .i64 s, .int .i64 al, .int .i64 ca, .int .i64 cb, .int .i64 cc, .int .i64 cd] 37 true, .ro m [.int .i64 W, .int .i64 H, .slice (some ⟨r, 0, none⟩) n cap] 99, .gen (rdE (some ⟨r, 0, none⟩) r 0 n 1 (ivals .u32 px))]) rfl rfl [1] (fun _ => rfl) (fun b1 => by kernel_rfl) (fun b1 => by kernel_rfl) (fun b1 => ?_)
  refine cont_done ?_
  refine then_normal ?_
  refine cont_seq ?_
  refine cont_seq ?_
  refine cont_region 40 rfl ?_
  refine batch0 [0, 0, 0, 0, 0, 0, 0, 0, 0] 9 31 [(1, .pointer (some ⟨b1, 0, none⟩)), (13, .bool (decide (al < 0)))] [.cells b1 [.pointer (some ⟨m, 0, none⟩), .int .i64 X, .int .i64 Y, .int .i64 s, .int .i64 al, .int .i64 ca, .int .i64 cb, .int .i64 cc, .int .i64 cd] 37 true, .ro m [.int .i64 W, .int .i64 H, .slice (some ⟨r, 0, none⟩) n cap] 99, .gen (rdE (some ⟨r, 0, none⟩) r 0 n 1 (ivals .u32 px))] rfl rfl (by kernel_rfl) (by kernel_rfl) ?_
  refine cont_split 13 (decide (al < 0)) rfl (fun c2_ => ?_) (fun c2_ => ?_)
  ·
    replace c2_ := of_decide_eq_true c2_
    refine batch0 [0, 0, 0, 0, 0, 0, 0, 0, 0, 0, 0, 0, 0, 0, 0, 0, 0, 0, 0, 0, 0, 0, 0, 0, 0, 0, 0, 0, 0, 0, 0] 40 0 [(1, .pointer (some ⟨b1, 0, none⟩)), (44, .bool true)] [.cells b1 [.pointer (some ⟨m, 0, none⟩), .int .i64 X, .int .i64 Y, .int .i64 s, .int .i64 al, .int .i64 ca, .int .i64 cb, .int .i64 cc, .int .i64 cd] 37 true, .ro m [.int .i64 W, .int .i64 H, .slice (some ⟨r, 0, none⟩) n cap] 99, .gen (rdE (some ⟨r, 0, none⟩) r 0 n 1 (ivals .u32 px))] rfl rfl (by kernel_rfl) (by kernel_rfl) ?_
    refine cont_done ?_
    refine then_normal ?_
    refine cont_true rfl ?_
    refine cont_seq ?_
    refine cont_region 1 rfl ?_
    refine batch0 [0] 1 0 [(2, .bool false)] [.cells b1 [.pointer (some ⟨m, 0, none⟩), .int .i64 X, .int .i64 Y, .int .i64 s, .int .i64 al, .int .i64 ca, .int .i64 cb, .int .i64 cc, .int .i64 cd] 37 true, .ro m [.int .i64 W, .int .i64 H, .slice (some ⟨r, 0, none⟩) n cap] 99, .gen (rdE (some ⟨r, 0, none⟩) r 0 n 1 (ivals .u32 px))] rfl rfl (by kernel_rfl) (by kernel_rfl) ?_
    refine cont_forget 0 rfl ?_
    refine cont_done ?_
    refine then_normal ?_
    refine cont_ret ?_
    refine then_ret ?_
    refine ret_one (.inl rfl) rfl 0 (.bool false) (by kernel_rfl) (by kernel_rfl) (fun w hT => ?_)
    exact ⟨ret_bool (by simp [pmayB, *] <;> omega), hT.post rfl⟩
  replace c2_ := of_decide_eq_false c2_
  refine batch0 [0, 0, 0, 0, 0] 14 26 [(1, .pointer (some ⟨b1, 0, none⟩)), (18, .bool (decide (al > 255)))] [.cells b1 [.pointer (some ⟨m, 0, none⟩), .int .i64 X, .int .i64 Y, .int .i64 s, .int .i64 al, .int .i64 ca, .int .i64 cb, .int .i64 cc, .int .i64 cd] 37 true, .ro m [.int .i64 W, .int .i64 H, .slice (some ⟨r, 0, none⟩) n cap] 99, .gen (rdE (some ⟨r, 0, none⟩) r 0 n 1 (ivals .u32 px))] rfl rfl (by kernel_rfl) (by kernel_rfl) ?_
  refine cont_split 18 (decide (al > 255)) rfl (fun c3_ => ?_) (fun c3_ => ?_)
  ·
    replace c3_ := of_decide_eq_true c3_
    refine batch0 [0, 0, 0, 0, 0, 0, 0, 0, 0, 0, 0, 0, 0, 0, 0, 0, 0, 0, 0, 0, 0, 0, 0, 0, 0, 0] 40 0 [(1, .pointer (some ⟨b1, 0, none⟩)), (44, .bool true)] [.cells b1 [.pointer (some ⟨m, 0, none⟩), .int .i64 X, .int .i64 Y, .int .i64 s, .int .i64 al, .int .i64 ca, .int .i64 cb, .int .i64 cc, .int .i64 cd] 37 true, .ro m [.int .i64 W, .int .i64 H, .slice (some ⟨r, 0, none⟩) n cap] 99, .gen (rdE (some ⟨r, 0, none⟩) r 0 n 1 (ivals .u32 px))] rfl rfl (by kernel_rfl) (by kernel_rfl) ?_
    refine cont_done ?_
    refine then_normal ?_
    refine cont_true rfl ?_
    refine cont_seq ?_
    refine cont_region 1 rfl ?_
    refine batch0 [0] 1 0 [(2, .bool false)] [.cells b1 [.pointer (some ⟨m, 0, none⟩), .int .i64 X, .int .i64 Y, .int .i64 s, .int .i64 al, .int .i64 ca, .int .i64 cb, .int .i64 cc, .int .i64 cd] 37 true, .ro m [.int .i64 W, .int .i64 H, .slice (some ⟨r, 0, none⟩) n cap] 99, .gen (rdE (some ⟨r, 0, none⟩) r 0 n 1 (ivals .u32 px))] rfl rfl (by kernel_rfl) (by kernel_rfl) ?_
    refine cont_forget 0 rfl ?_
    refine cont_done ?_
    refine then_normal ?_
    refine cont_ret ?_
    refine then_ret ?_
    refine ret_one (.inl rfl) rfl 0 (.bool false) (by kernel_rfl) (by kernel_rfl) (fun w hT => ?_)
    exact ⟨ret_bool (by simp [pmayB, *] <;> omega), hT.post rfl⟩
  replace c3_ := of_decide_eq_false c3_
  refine batch0 [0, 0, 0, 0, 0] 19 21 [(1, .pointer (some ⟨b1, 0, none⟩)), (23, .bool (decide (s < 1)))] [.cells b1 [.pointer (some ⟨m, 0, none⟩), .int .i64 X, .int .i64 Y, .int .i64 s, .int .i64 al, .int .i64 ca, .int .i64 cb, .int .i64 cc, .int .i64 cd] 37 true, .ro m [.int .i64 W, .int .i64 H, .slice (some ⟨r, 0, none⟩) n cap] 99, .gen (rdE (some ⟨r, 0, none⟩) r 0 n 1 (ivals .u32 px))] rfl rfl (by kernel_rfl) (by kernel_rfl) ?_
  refine cont_split 23 (decide (s < 1)) rfl (fun c4_ => ?_) (fun c4_ => ?_)
  ·
    replace c4_ := of_decide_eq_true c4_
    refine batch0 [0, 0, 0, 0, 0, 0, 0, 0, 0, 0, 0, 0, 0, 0, 0, 0, 0, 0, 0, 0, 0] 40 0 [(1, .pointer (some ⟨b1, 0, none⟩)), (44, .bool true)] [.cells b1 [.pointer (some ⟨m, 0, none⟩), .int .i64 X, .int .i64 Y, .int .i64 s, .int .i64 al, .int .i64 ca, .int .i64 cb, .int .i64 cc, .int .i64 cd] 37 true, .ro m [.int .i64 W, .int .i64 H, .slice (some ⟨r, 0, none⟩) n cap] 99, .gen (rdE (some ⟨r, 0, none⟩) r 0 n 1 (ivals .u32 px))] rfl rfl (by kernel_rfl) (by kernel_rfl) ?_
    refine cont_done ?_
    refine then_normal ?_
    refine cont_true rfl ?_
    refine cont_seq ?_
    refine cont_region 1 rfl ?_
    refine batch0 [0] 1 0 [(2, .bool false)] [.cells b1 [.pointer (some ⟨m, 0, none⟩), .int .i64 X, .int .i64 Y, .int .i64 s, .int .i64 al, .int .i64 ca, .int .i64 cb, .int .i64 cc, .int .i64 cd] 37 true, .ro m [.int .i64 W, .int .i64 H, .slice (some ⟨r, 0, none⟩) n cap] 99, .gen (rdE (some ⟨r, 0, none⟩) r 0 n 1 (ivals .u32 px))] rfl rfl (by kernel_rfl) (by kernel_rfl) ?_
    refine cont_forget 0 rfl ?_
    refine cont_done ?_
    refine then_normal ?_
    refine cont_ret ?_
    refine then_ret ?_
    refine ret_one (.inl rfl) rfl 0 (.bool false) (by kernel_rfl) (by kernel_rfl) (fun w hT => ?_)
    exact ⟨ret_bool (by simp [pmayB, *] <;> omega), hT.post rfl⟩
  replace c4_ := of_decide_eq_false c4_
  refine batch0 [0, 0, 0, 0, 0] 24 16 [(1, .pointer (some ⟨b1, 0, none⟩)), (28, .bool (decide (s > 8)))] [.cells b1 [.pointer (some ⟨m, 0, none⟩), .int .i64 X, .int .i64 Y, .int .i64 s, .int .i64 al, .int .i64 ca, .int .i64 cb, .int .i64 cc, .int .i64 cd] 37 true, .ro m [.int .i64 W, .int .i64 H, .slice (some ⟨r, 0, none⟩) n cap] 99, .gen (rdE (some ⟨r, 0, none⟩) r 0 n 1 (ivals .u32 px))] rfl rfl (by kernel_rfl) (by kernel_rfl) ?_
  refine cont_split 28 (decide (s > 8)) rfl (fun c5_ => ?_) (fun c5_ => ?_)
  ·
    replace c5_ := of_decide_eq_true c5_
    refine batch0 [0, 0, 0, 0, 0, 0, 0, 0, 0, 0, 0, 0, 0, 0, 0, 0] 40 0 [(1, .pointer (some ⟨b1, 0, none⟩)), (44, .bool true)] [.cells b1 [.pointer (some ⟨m, 0, none⟩), .int .i64 X, .int .i64 Y, .int .i64 s, .int .i64 al, .int .i64 ca, .int .i64 cb, .int .i64 cc, .int .i64 cd] 37 true, .ro m [.int .i64 W, .int .i64 H, .slice (some ⟨r, 0, none⟩) n cap] 99, .gen (rdE (some ⟨r, 0, none⟩) r 0 n 1 (ivals .u32 px))] rfl rfl (by kernel_rfl) (by kernel_rfl) ?_
    refine cont_done ?_
    refine then_normal ?_
    refine cont_true rfl ?_
    refine cont_seq ?_
    refine cont_region 1 rfl ?_
    refine batch0 [0] 1 0 [(2, .bool false)] [.cells b1 [.pointer (some ⟨m, 0, none⟩), .int .i64 X, .int .i64 Y, .int .i64 s, .int .i64 al, .int .i64 ca, .int .i64 cb, .int .i64 cc, .int .i64 cd] 37 true, .ro m [.int .i64 W, .int .i64 H, .slice (some ⟨r, 0, none⟩) n cap] 99, .gen (rdE (some ⟨r, 0, none⟩) r 0 n 1 (ivals .u32 px))] rfl rfl (by kernel_rfl) (by kernel_rfl) ?_
    refine cont_forget 0 rfl ?_
    refine cont_done ?_
    refine then_normal ?_
    refine cont_ret ?_
    refine then_ret ?_
    refine ret_one (.inl rfl) rfl 0 (.bool false) (by kernel_rfl) (by kernel_rfl) (fun w hT => ?_)
    exact ⟨ret_bool (by simp [pmayB, *] <;> omega), hT.post rfl⟩
  replace c5_ := of_decide_eq_false c5_
  refine batch0 [0, 0, 0, 0, 0, 0, 0, 0, 0, 0, 0, 0, 0] 37 3 [(1, .pointer (some ⟨b1, 0, none⟩)), (28, .bool false), (41, .agg #[.int .i64 X, .int .i64 Y, .int .i64 X, .int .i64 Y])] [.cells b1 [.pointer (some ⟨m, 0, none⟩), .int .i64 X, .int .i64 Y, .int .i64 s, .int .i64 al, .int .i64 ca, .int .i64 cb, .int .i64 cc, .int .i64 cd] 37 true, .ro m [.int .i64 W, .int .i64 H, .slice (some ⟨r, 0, none⟩) n cap] 99, .gen (rdE (some ⟨r, 0, none⟩) r 0 n 1 (ivals .u32 px))] rfl rfl (by kernel_rfl) (by kernel_rfl) ?_
  refine pl_step 38 2 rfl rfl ?_
  refine call_pure (d := 42) (.bool (mayR X Y X Y)) (by kernel_rfl) (fun w hT => rectMay X Y X Y w) ?_
  refine batch0 [0, 0] 40 0 [(1, .pointer (some ⟨b1, 0, none⟩)), (44, .bool (!(mayR X Y X Y)))] [.cells b1 [.pointer (some ⟨m, 0, none⟩), .int .i64 X, .int .i64 Y, .int .i64 s, .int .i64 al, .int .i64 ca, .int .i64 cb, .int .i64 cc, .int .i64 cd] 37 true, .ro m [.int .i64 W, .int .i64 H, .slice (some ⟨r, 0, none⟩) n cap] 99, .gen (rdE (some ⟨r, 0, none⟩) r 0 n 1 (ivals .u32 px))] rfl rfl (by kernel_rfl) (by kernel_rfl) ?_
  refine cont_done ?_
  refine then_normal ?_
  refine cont_split 44 (!(mayR X Y X Y)) rfl (fun c6_ => ?_) (fun c6_ => ?_)
  ·
    replace c6_ : (mayR X Y X Y) = false := by simpa using c6_
    refine cont_true rfl ?_
    refine cont_seq ?_
    refine cont_region 1 rfl ?_
    refine batch0 [0] 1 0 [(2, .bool false)] [.cells b1 [.pointer (some ⟨m, 0, none⟩), .int .i64 X, .int .i64 Y, .int .i64 s, .int .i64 al, .int .i64 ca, .int .i64 cb, .int .i64 cc, .int .i64 cd] 37 true, .ro m [.int .i64 W, .int .i64 H, .slice (some ⟨r, 0, none⟩) n cap] 99, .gen (rdE (some ⟨r, 0, none⟩) r 0 n 1 (ivals .u32 px))] rfl rfl (by kernel_rfl) (by kernel_rfl) ?_
    refine cont_forget 0 rfl ?_
    refine cont_done ?_
    refine then_normal ?_
    refine cont_ret ?_
    refine then_ret ?_
    refine ret_one (.inl rfl) rfl 0 (.bool false) (by kernel_rfl) (by kernel_rfl) (fun w hT => ?_)
    exact ⟨ret_bool (by simp [pmayB, *] <;> omega), hT.post rfl⟩
  replace c6_ : (mayR X Y X Y) = true := by simpa using c6_
  refine cont_false rfl ?_
  refine cont_skip ?_
  refine then_normal ?_
  refine cont_seq ?_
  refine drawn_enter 11 [] rfl (by kernel_rfl) ?_
  refine takes 0 [] [(0, 0), (1, 0), (2, 0)] 8 [2, 1, 0] [(46, .agg #[.pointer (some ⟨m, 0, none⟩), .int .i64 X, .int .i64 Y, .int .i64 s, .int .i64 al, .int .i64 ca, .int .i64 cb, .int .i64 cc, .int .i64 cd]), (48, .pointer (some ⟨m, 0, none⟩))] (by kernel_rfl) (by repeat' (first | exact pok_body | refine pok_then ?_ | refine pok_blk ?_)) (by kernel_rfl) rfl rfl (by kernel_rfl) (by kernel_rfl) ?_
  refine drawn_two 3 8 7 rfl (by kernel_rfl) ?_ ?_
  ·
    refine call_pure (d := 49) (.agg #[.int .i64 0, .int .i64 0, .int .i64 W, .int .i64 H]) (by kernel_rfl) (fun w hT => imgBox m W H r n cap px  w ⟨hT.ok 1 _ rfl, hT.ok 2 _ rfl, by omega⟩ hok) ?_
    refine drawn_next 0 [] (by kernel_rfl) ?_
    refine drawn_two 4 8 6 rfl (by kernel_rfl) ?_ ?_
    ·
      refine call_pure (d := 50) (.tuple #[.agg #[.int .i64 ((shwR W H X Y s 0 0 W H).x0), .int .i64 ((shwR W H X Y s 0 0 W H).y0), .int .i64 ((shwR W H X Y s 0 0 W H).x1), .int .i64 ((shwR W H X Y s 0 0 W H).y1)], .bool (shwB W H X Y s 0 0 W H)]) (by kernel_rfl) (fun w hT => layShown m W H r n cap px X Y s al ca cb cc cd 0 0 W H w ⟨hT.ok 1 _ rfl, hT.ok 2 _ rfl, by omega⟩ hok) ?_
      refine drawn_next 0 [] (by kernel_rfl) ?_
      refine takes 0 [] [(5, 0), (6, 0), (7, 0)] 3 [7, 6, 5, 4, 3, 2, 1, 0] [(51, .agg #[.int .i64 ((shwR W H X Y s 0 0 W H).x0), .int .i64 ((shwR W H X Y s 0 0 W H).y0), .int .i64 ((shwR W H X Y s 0 0 W H).x1), .int .i64 ((shwR W H X Y s 0 0 W H).y1)]), (52, .bool (shwB W H X Y s 0 0 W H))] (by kernel_rfl) (by repeat' (first | exact pok_body | refine pok_then ?_ | refine pok_blk ?_)) (by kernel_rfl) rfl rfl (by kernel_rfl) (by kernel_rfl) ?_
      refine drawn_one 8 2 rfl (by kernel_rfl) ?_
      refine one_step1 0 (fun b7 => [(3, .pointer (some ⟨b7, 0, none⟩)), (51, .agg #[.int .i64 ((shwR W H X Y s 0 0 W H).x0), .int .i64 ((shwR W H X Y s 0 0 W H).y0), .int .i64 ((shwR W H X Y s 0 0 W H).x1), .int .i64 ((shwR W H X Y s 0 0 W H).y1)]), (52, .bool (shwB W H X Y s 0 0 W H))]) (fun b7 => [.cells b7 [.int .i64 0, .int .i64 0, .int .i64 0, .int .i64 0] 28 true, .cells b1 [.pointer (some ⟨m, 0, none⟩), .int .i64 X, .int .i64 Y, .int .i64 s, .int .i64 al, .int .i64 ca, .int .i64 cb, .int .i64 cc, .int .i64 cd] 37 true, .ro m [.int .i64 W, .int .i64 H, .slice (some ⟨r, 0, none⟩) n cap] 99, .gen (rdE (some ⟨r, 0, none⟩) r 0 n 1 (ivals .u32 px))]) (fun b7 => by kernel_rfl) (fun b7 => by kernel_rfl) (fun b7 => ?_)
      refine drawn_next 1 [] (by kernel_rfl) ?_
      refine drawn_one 9 1 rfl (by kernel_rfl) ?_
      refine one_step 0 [(52, .bool (shwB W H X Y s 0 0 W H))] [.cells b7 [.int .i64 ((shwR W H X Y s 0 0 W H).x0), .int .i64 ((shwR W H X Y s 0 0 W H).y0), .int .i64 ((shwR W H X Y s 0 0 W H).x1), .int .i64 ((shwR W H X Y s 0 0 W H).y1)] 28 true, .cells b1 [.pointer (some ⟨m, 0, none⟩), .int .i64 X, .int .i64 Y, .int .i64 s, .int .i64 al, .int .i64 ca, .int .i64 cb, .int .i64 cc, .int .i64 cd] 37 true, .ro m [.int .i64 W, .int .i64 H, .slice (some ⟨r, 0, none⟩) n cap] 99, .gen (rdE (some ⟨r, 0, none⟩) r 0 n 1 (ivals .u32 px))] (by kernel_rfl) (by kernel_rfl) ?_
      refine drawn_next 1 [] (by kernel_rfl) ?_
      refine takes 1 [] [(10, 0)] 0 [10, 9, 8, 7, 6, 5, 4, 3, 2, 1, 0] [(4, .bool (shwB W H X Y s 0 0 W H))] (by kernel_rfl) (by repeat' (first | exact pok_body | refine pok_then ?_ | refine pok_blk ?_)) (by kernel_rfl) rfl rfl (by kernel_rfl) (by kernel_rfl) ?_
      refine drawn_done (by kernel_rfl) ?_
      refine then_normal ?_
      refine cont_seq ?_
      refine cont_region 2 rfl ?_
      refine batch0 [0, 0] 2 0 [(2, .bool (shwB W H X Y s 0 0 W H))] [.cells b7 [.int .i64 ((shwR W H X Y s 0 0 W H).x0), .int .i64 ((shwR W H X Y s 0 0 W H).y0), .int .i64 ((shwR W H X Y s 0 0 W H).x1), .int .i64 ((shwR W H X Y s 0 0 W H).y1)] 28 true, .cells b1 [.pointer (some ⟨m, 0, none⟩), .int .i64 X, .int .i64 Y, .int .i64 s, .int .i64 al, .int .i64 ca, .int .i64 cb, .int .i64 cc, .int .i64 cd] 37 true, .ro m [.int .i64 W, .int .i64 H, .slice (some ⟨r, 0, none⟩) n cap] 99, .gen (rdE (some ⟨r, 0, none⟩) r 0 n 1 (ivals .u32 px))] rfl rfl (by kernel_rfl) (by kernel_rfl) ?_
      refine cont_forget 0 rfl ?_
      refine cont_forget 0 rfl ?_
      refine cont_done ?_
      refine then_normal ?_
      refine cont_ret ?_
      refine ret_one (.inl rfl) rfl 0 (.bool (shwB W H X Y s 0 0 W H)) (by kernel_rfl) (by kernel_rfl) (fun w hT => ?_)
      exact ⟨ret_bool (by simp [pmayB, *] <;> omega), hT.post rfl⟩
    refine one_step1 0 (fun b8 => [(3, .pointer (some ⟨b8, 0, none⟩)), (46, .agg #[.pointer (some ⟨m, 0, none⟩), .int .i64 X, .int .i64 Y, .int .i64 s, .int .i64 al, .int .i64 ca, .int .i64 cb, .int .i64 cc, .int .i64 cd]), (49, .agg #[.int .i64 0, .int .i64 0, .int .i64 W, .int .i64 H])]) (fun b8 => [.cells b8 [.int .i64 0, .int .i64 0, .int .i64 0, .int .i64 0] 28 true, .cells b1 [.pointer (some ⟨m, 0, none⟩), .int .i64 X, .int .i64 Y, .int .i64 s, .int .i64 al, .int .i64 ca, .int .i64 cb, .int .i64 cc, .int .i64 cd] 37 true, .ro m [.int .i64 W, .int .i64 H, .slice (some ⟨r, 0, none⟩) n cap] 99, .gen (rdE (some ⟨r, 0, none⟩) r 0 n 1 (ivals .u32 px))]) (fun b8 => by kernel_rfl) (fun b8 => by kernel_rfl) (fun b8 => ?_)
    refine drawn_next 1 [] (by kernel_rfl) ?_
    refine drawn_one 4 5 rfl (by kernel_rfl) ?_
    refine call_pure (d := 50) (.tuple #[.agg #[.int .i64 ((shwR W H X Y s 0 0 W H).x0), .int .i64 ((shwR W H X Y s 0 0 W H).y0), .int .i64 ((shwR W H X Y s 0 0 W H).x1), .int .i64 ((shwR W H X Y s 0 0 W H).y1)], .bool (shwB W H X Y s 0 0 W H)]) (by kernel_rfl) (fun w hT => layShown m W H r n cap px X Y s al ca cb cc cd 0 0 W H w ⟨hT.ok 2 _ rfl, hT.ok 3 _ rfl, by omega⟩ hok) ?_
    refine drawn_next 1 [] (by kernel_rfl) ?_
    refine takes 1 [] [(5, 0), (6, 0), (7, 0)] 2 [7, 6, 5, 4, 8, 3, 2, 1, 0] [(3, .pointer (some ⟨b8, 0, none⟩)), (51, .agg #[.int .i64 ((shwR W H X Y s 0 0 W H).x0), .int .i64 ((shwR W H X Y s 0 0 W H).y0), .int .i64 ((shwR W H X Y s 0 0 W H).x1), .int .i64 ((shwR W H X Y s 0 0 W H).y1)]), (52, .bool (shwB W H X Y s 0 0 W H))] (by kernel_rfl) (by repeat' (first | exact pok_body | refine pok_then ?_ | refine pok_blk ?_)) (by kernel_rfl) rfl rfl (by kernel_rfl) (by kernel_rfl) ?_
    refine drawn_one 9 1 rfl (by kernel_rfl) ?_
    refine one_step 0 [(52, .bool (shwB W H X Y s 0 0 W H))] [.cells b8 [.int .i64 ((shwR W H X Y s 0 0 W H).x0), .int .i64 ((shwR W H X Y s 0 0 W H).y0), .int .i64 ((shwR W H X Y s 0 0 W H).x1), .int .i64 ((shwR W H X Y s 0 0 W H).y1)] 28 true, .cells b1 [.pointer (some ⟨m, 0, none⟩), .int .i64 X, .int .i64 Y, .int .i64 s, .int .i64 al, .int .i64 ca, .int .i64 cb, .int .i64 cc, .int .i64 cd] 37 true, .ro m [.int .i64 W, .int .i64 H, .slice (some ⟨r, 0, none⟩) n cap] 99, .gen (rdE (some ⟨r, 0, none⟩) r 0 n 1 (ivals .u32 px))] (by kernel_rfl) (by kernel_rfl) ?_
    refine drawn_next 1 [] (by kernel_rfl) ?_
    refine takes 1 [] [(10, 0)] 0 [10, 9, 7, 6, 5, 4, 8, 3, 2, 1, 0] [(4, .bool (shwB W H X Y s 0 0 W H))] (by kernel_rfl) (by repeat' (first | exact pok_body | refine pok_then ?_ | refine pok_blk ?_)) (by kernel_rfl) rfl rfl (by kernel_rfl) (by kernel_rfl) ?_
    refine drawn_done (by kernel_rfl) ?_
    refine then_normal ?_
    refine cont_seq ?_
    refine cont_region 2 rfl ?_
    refine batch0 [0, 0] 2 0 [(2, .bool (shwB W H X Y s 0 0 W H))] [.cells b8 [.int .i64 ((shwR W H X Y s 0 0 W H).x0), .int .i64 ((shwR W H X Y s 0 0 W H).y0), .int .i64 ((shwR W H X Y s 0 0 W H).x1), .int .i64 ((shwR W H X Y s 0 0 W H).y1)] 28 true, .cells b1 [.pointer (some ⟨m, 0, none⟩), .int .i64 X, .int .i64 Y, .int .i64 s, .int .i64 al, .int .i64 ca, .int .i64 cb, .int .i64 cc, .int .i64 cd] 37 true, .ro m [.int .i64 W, .int .i64 H, .slice (some ⟨r, 0, none⟩) n cap] 99, .gen (rdE (some ⟨r, 0, none⟩) r 0 n 1 (ivals .u32 px))] rfl rfl (by kernel_rfl) (by kernel_rfl) ?_
    refine cont_forget 0 rfl ?_
    refine cont_forget 0 rfl ?_
    refine cont_done ?_
    refine then_normal ?_
    refine cont_ret ?_
    refine ret_one (.inl rfl) rfl 0 (.bool (shwB W H X Y s 0 0 W H)) (by kernel_rfl) (by kernel_rfl) (fun w hT => ?_)
    exact ⟨ret_bool (by simp [pmayB, *] <;> omega), hT.post rfl⟩
  refine one_step1 0 (fun b9 => [(3, .pointer (some ⟨b9, 0, none⟩)), (46, .agg #[.pointer (some ⟨m, 0, none⟩), .int .i64 X, .int .i64 Y, .int .i64 s, .int .i64 al, .int .i64 ca, .int .i64 cb, .int .i64 cc, .int .i64 cd]), (48, .pointer (some ⟨m, 0, none⟩))]) (fun b9 => [.cells b9 [.int .i64 0, .int .i64 0, .int .i64 0, .int .i64 0] 28 true, .cells b1 [.pointer (some ⟨m, 0, none⟩), .int .i64 X, .int .i64 Y, .int .i64 s, .int .i64 al, .int .i64 ca, .int .i64 cb, .int .i64 cc, .int .i64 cd] 37 true, .ro m [.int .i64 W, .int .i64 H, .slice (some ⟨r, 0, none⟩) n cap] 99, .gen (rdE (some ⟨r, 0, none⟩) r 0 n 1 (ivals .u32 px))]) (fun b9 => by kernel_rfl) (fun b9 => by kernel_rfl) (fun b9 => ?_)
  refine drawn_next 1 [] (by kernel_rfl) ?_
  refine drawn_one 3 6 rfl (by kernel_rfl) ?_
  refine call_pure (d := 49) (.agg #[.int .i64 0, .int .i64 0, .int .i64 W, .int .i64 H]) (by kernel_rfl) (fun w hT => imgBox m W H r n cap px  w ⟨hT.ok 2 _ rfl, hT.ok 3 _ rfl, by omega⟩ hok) ?_
  refine drawn_next 1 [] (by kernel_rfl) ?_
  refine drawn_one 4 5 rfl (by kernel_rfl) ?_
  refine call_pure (d := 50) (.tuple #[.agg #[.int .i64 ((shwR W H X Y s 0 0 W H).x0), .int .i64 ((shwR W H X Y s 0 0 W H).y0), .int .i64 ((shwR W H X Y s 0 0 W H).x1), .int .i64 ((shwR W H X Y s 0 0 W H).y1)], .bool (shwB W H X Y s 0 0 W H)]) (by kernel_rfl) (fun w hT => layShown m W H r n cap px X Y s al ca cb cc cd 0 0 W H w ⟨hT.ok 2 _ rfl, hT.ok 3 _ rfl, by omega⟩ hok) ?_
  refine drawn_next 1 [] (by kernel_rfl) ?_
  refine takes 1 [] [(5, 0), (6, 0), (7, 0)] 2 [7, 6, 5, 4, 3, 8, 2, 1, 0] [(3, .pointer (some ⟨b9, 0, none⟩)), (51, .agg #[.int .i64 ((shwR W H X Y s 0 0 W H).x0), .int .i64 ((shwR W H X Y s 0 0 W H).y0), .int .i64 ((shwR W H X Y s 0 0 W H).x1), .int .i64 ((shwR W H X Y s 0 0 W H).y1)]), (52, .bool (shwB W H X Y s 0 0 W H))] (by kernel_rfl) (by repeat' (first | exact pok_body | refine pok_then ?_ | refine pok_blk ?_)) (by kernel_rfl) rfl rfl (by kernel_rfl) (by kernel_rfl) ?_
  refine drawn_one 9 1 rfl (by kernel_rfl) ?_
  refine one_step 0 [(52, .bool (shwB W H X Y s 0 0 W H))] [.cells b9 [.int .i64 ((shwR W H X Y s 0 0 W H).x0), .int .i64 ((shwR W H X Y s 0 0 W H).y0), .int .i64 ((shwR W H X Y s 0 0 W H).x1), .int .i64 ((shwR W H X Y s 0 0 W H).y1)] 28 true, .cells b1 [.pointer (some ⟨m, 0, none⟩), .int .i64 X, .int .i64 Y, .int .i64 s, .int .i64 al, .int .i64 ca, .int .i64 cb, .int .i64 cc, .int .i64 cd] 37 true, .ro m [.int .i64 W, .int .i64 H, .slice (some ⟨r, 0, none⟩) n cap] 99, .gen (rdE (some ⟨r, 0, none⟩) r 0 n 1 (ivals .u32 px))] (by kernel_rfl) (by kernel_rfl) ?_
  refine drawn_next 1 [] (by kernel_rfl) ?_
  refine takes 1 [] [(10, 0)] 0 [10, 9, 7, 6, 5, 4, 3, 8, 2, 1, 0] [(4, .bool (shwB W H X Y s 0 0 W H))] (by kernel_rfl) (by repeat' (first | exact pok_body | refine pok_then ?_ | refine pok_blk ?_)) (by kernel_rfl) rfl rfl (by kernel_rfl) (by kernel_rfl) ?_
  refine drawn_done (by kernel_rfl) ?_
  refine then_normal ?_
  refine cont_seq ?_
  refine cont_region 2 rfl ?_
  refine batch0 [0, 0] 2 0 [(2, .bool (shwB W H X Y s 0 0 W H))] [.cells b9 [.int .i64 ((shwR W H X Y s 0 0 W H).x0), .int .i64 ((shwR W H X Y s 0 0 W H).y0), .int .i64 ((shwR W H X Y s 0 0 W H).x1), .int .i64 ((shwR W H X Y s 0 0 W H).y1)] 28 true, .cells b1 [.pointer (some ⟨m, 0, none⟩), .int .i64 X, .int .i64 Y, .int .i64 s, .int .i64 al, .int .i64 ca, .int .i64 cb, .int .i64 cc, .int .i64 cd] 37 true, .ro m [.int .i64 W, .int .i64 H, .slice (some ⟨r, 0, none⟩) n cap] 99, .gen (rdE (some ⟨r, 0, none⟩) r 0 n 1 (ivals .u32 px))] rfl rfl (by kernel_rfl) (by kernel_rfl) ?_
  refine cont_forget 0 rfl ?_
  refine cont_forget 0 rfl ?_
  refine cont_done ?_
  refine then_normal ?_
  refine cont_ret ?_
  refine ret_one (.inl rfl) rfl 0 (.bool (shwB W H X Y s 0 0 W H)) (by kernel_rfl) (by kernel_rfl) (fun w hT => ?_)
  exact ⟨ret_bool (by simp [pmayB, *] <;> omega), hT.post rfl⟩

theorem refBox5 (sm : Bool) (W H : Int) (ms : Value) (X Y s al ca cb cc cd : Int) (w : World) (hw : 1 ≤ W ∧ W ≤ 256) (hh : 1 ≤ H ∧ H ≤ 256) (hs : 1 ≤ s ∧ s ≤ 8) (hX : -1000000 ≤ X ∧ X ≤ 1000000) (hY : -1000000 ≤ Y ∧ Y ≤ 1000000) :
    Calls Try.prog 15 #[.agg #[.bool sm, .int .i64 W, .int .i64 H, ms, .int .i64 X, .int .i64 Y, .int .i64 s, .int .i64 al, .int .i64 ca, .int .i64 cb, .int .i64 cc, .int .i64 cd]] w fun e w' => e = .returned (.agg #[.int .i64 ((rboxR W H X Y s ca cb cc cd).x0), .int .i64 ((rboxR W H X Y s ca cb cc cd).y0), .int .i64 ((rboxR W H X Y s ca cb cc cd).x1), .int .i64 ((rboxR W H X Y s ca cb cc cd).y1)]) ∧ Below w.heap.size w w' := by
  obtain ⟨h1, h2, h3, h4, h5, h6⟩ := cut_in ca cb cc cd (W := W) (H := H) hw.1 hh.1
  have m0 := mul_scale (m := 256) h1 (by omega) hs
  have m1 := mul_scale (m := 256) (show 0 ≤ (cutR ca cb cc cd 0 0 W H).x1 by omega) (by omega) hs
  have m2 := mul_scale (m := 256) h4 (by omega) hs
  have m3 := mul_scale (m := 256) (show 0 ≤ (cutR ca cb cc cd 0 0 W H).y1 by omega) (by omega) hs
  refine enter 50 [(0, .agg #[.bool sm, .int .i64 W, .int .i64 H, ms, .int .i64 X, .int .i64 Y, .int .i64 s, .int .i64 al, .int .i64 ca, .int .i64 cb, .int .i64 cc, .int .i64 cd])] [] Try.func15 rfl Try.ntmps15 rfl (by kernel_rfl) (Tab.start w) ?_
  refine cont_seq ?_
  refine cont_region 2 rfl ?_
  refine batch2 [0, 0] 2 0 (fun b1 b2 => [(1, .pointer (some ⟨b1, 0, none⟩)), (2, .pointer (some ⟨b2, 0, none⟩))]) (fun b1 b2 => [.cells b2 [.int .i64 0, .int .i64 0, .int .i64 0, .int .i64 0] 28 true, .cells b1 [.bool sm, .int .i64 W, .int .i64 H, ms, .int .i64 X, .int .i64 Y, .int .i64 s, .int .i64 al, .int .i64 ca, .int .i64 cb, .int .i64 cc, .int .i64 cd] 30 true]) rfl rfl [1, 2] (fun _ _ => rfl) (fun b1 b2 => by kernel_rfl) (fun b1 b2 => by kernel_rfl) (fun b1 b2 => ?_)
  refine cont_done ?_
  refine then_normal ?_
  refine cont_seq ?_
  refine drawn_enter 8 [] rfl (by kernel_rfl) ?_
  refine takes 0 [] [(0, 0), (2, 0), (1, 1), (3, 1)] 4 [3, 1, 2, 0] [(1, .pointer (some ⟨b1, 0, none⟩)), (2, .pointer (some ⟨b2, 0, none⟩)), (5, .agg #[.int .i64 ca, .int .i64 cb, .int .i64 cc, .int .i64 cd]), (7, .agg #[.int .i64 W, .int .i64 H, ms])] (by kernel_rfl) (by repeat' (first | exact pok_body | refine pok_then ?_ | refine pok_blk ?_)) (by kernel_rfl) rfl rfl (by kernel_rfl) (by kernel_rfl) ?_
  refine drawn_two 4 6 3 rfl (by kernel_rfl) ?_ ?_
  ·
    refine call_pure (d := 8) (.agg #[.int .i64 0, .int .i64 0, .int .i64 W, .int .i64 H]) (by kernel_rfl) (fun w hT => refBox W H ms w) ?_
    refine drawn_next 0 [] (by kernel_rfl) ?_
    refine drawn_two 5 6 2 rfl (by kernel_rfl) ?_ ?_
    ·
      refine call_pure (d := 9) (.agg #[.int .i64 ((cutR ca cb cc cd 0 0 W H).x0), .int .i64 ((cutR ca cb cc cd 0 0 W H).y0), .int .i64 ((cutR ca cb cc cd 0 0 W H).x1), .int .i64 ((cutR ca cb cc cd 0 0 W H).y1)]) (by kernel_rfl) (fun w hT => refCut ca cb cc cd 0 0 W H w) ?_
      refine drawn_next 0 [] (by kernel_rfl) ?_
      refine drawn_one 6 1 rfl (by kernel_rfl) ?_
      refine one_step1 0 (fun b3 => [(1, .pointer (some ⟨b1, 0, none⟩)), (2, .pointer (some ⟨b2, 0, none⟩)), (3, .pointer (some ⟨b3, 0, none⟩)), (9, .agg #[.int .i64 ((cutR ca cb cc cd 0 0 W H).x0), .int .i64 ((cutR ca cb cc cd 0 0 W H).y0), .int .i64 ((cutR ca cb cc cd 0 0 W H).x1), .int .i64 ((cutR ca cb cc cd 0 0 W H).y1)])]) (fun b3 => [.cells b3 [.int .i64 0, .int .i64 0, .int .i64 0, .int .i64 0] 28 true, .cells b2 [.int .i64 0, .int .i64 0, .int .i64 0, .int .i64 0] 28 true, .cells b1 [.bool sm, .int .i64 W, .int .i64 H, ms, .int .i64 X, .int .i64 Y, .int .i64 s, .int .i64 al, .int .i64 ca, .int .i64 cb, .int .i64 cc, .int .i64 cd] 30 true]) (fun b3 => by kernel_rfl) (fun b3 => by kernel_rfl) (fun b3 => ?_)
      refine drawn_next 1 [] (by kernel_rfl) ?_
      refine drawn_one 7 0 rfl (by kernel_rfl) ?_
      refine one_step 0 [(1, .pointer (some ⟨b1, 0, none⟩)), (2, .pointer (some ⟨b2, 0, none⟩)), (3, .pointer (some ⟨b3, 0, none⟩))] [.cells b3 [.int .i64 ((cutR ca cb cc cd 0 0 W H).x0), .int .i64 ((cutR ca cb cc cd 0 0 W H).y0), .int .i64 ((cutR ca cb cc cd 0 0 W H).x1), .int .i64 ((cutR ca cb cc cd 0 0 W H).y1)] 28 true, .cells b2 [.int .i64 0, .int .i64 0, .int .i64 0, .int .i64 0] 28 true, .cells b1 [.bool sm, .int .i64 W, .int .i64 H, ms, .int .i64 X, .int .i64 Y, .int .i64 s, .int .i64 al, .int .i64 ca, .int .i64 cb, .int .i64 cc, .int .i64 cd] 30 true] (by kernel_rfl) (by kernel_rfl) ?_
      refine drawn_next 1 [] (by kernel_rfl) ?_
      refine drawn_done (by kernel_rfl) ?_
      refine then_normal ?_
      refine cont_seq ?_
      refine cont_seq ?_
      refine cont_region 2 rfl ?_
      refine batch0 [0] 1 1 [(1, .pointer (some ⟨b1, 0, none⟩)), (2, .pointer (some ⟨b2, 0, none⟩)), (3, .pointer (some ⟨b3, 0, none⟩)), (10, .agg #[.int .i64 ((cutR ca cb cc cd 0 0 W H).x0), .int .i64 ((cutR ca cb cc cd 0 0 W H).y0), .int .i64 ((cutR ca cb cc cd 0 0 W H).x1), .int .i64 ((cutR ca cb cc cd 0 0 W H).y1)])] [.cells b3 [.int .i64 ((cutR ca cb cc cd 0 0 W H).x0), .int .i64 ((cutR ca cb cc cd 0 0 W H).y0), .int .i64 ((cutR ca cb cc cd 0 0 W H).x1), .int .i64 ((cutR ca cb cc cd 0 0 W H).y1)] 28 true, .cells b2 [.int .i64 0, .int .i64 0, .int .i64 0, .int .i64 0] 28 true, .cells b1 [.bool sm, .int .i64 W, .int .i64 H, ms, .int .i64 X, .int .i64 Y, .int .i64 s, .int .i64 al, .int .i64 ca, .int .i64 cb, .int .i64 cc, .int .i64 cd] 30 true] rfl rfl (by kernel_rfl) (by kernel_rfl) ?_
      refine pl_step 2 0 rfl rfl ?_
      refine call_pure (d := 11) (.bool (emptyB ((cutR ca cb cc cd 0 0 W H).x0) ((cutR ca cb cc cd 0 0 W H).y0) ((cutR ca cb cc cd 0 0 W H).x1) ((cutR ca cb cc cd 0 0 W H).y1))) (by kernel_rfl) (fun w hT => refEmpty ((cutR ca cb cc cd 0 0 W H).x0) ((cutR ca cb cc cd 0 0 W H).y0) ((cutR ca cb cc cd 0 0 W H).x1) ((cutR ca cb cc cd 0 0 W H).y1) w) ?_
      refine cont_done ?_
      refine then_normal ?_
      refine cont_split 11 (emptyB ((cutR ca cb cc cd 0 0 W H).x0) ((cutR ca cb cc cd 0 0 W H).y0) ((cutR ca cb cc cd 0 0 W H).x1) ((cutR ca cb cc cd 0 0 W H).y1)) rfl (fun c4_ => ?_) (fun c4_ => ?_)
      ·
        refine cont_true rfl ?_
        refine cont_seq ?_
        refine cont_region 2 rfl ?_
        refine batch0 [0, 1] 2 0 [(2, .pointer (some ⟨b2, 0, none⟩))] [.cells b3 [.int .i64 ((cutR ca cb cc cd 0 0 W H).x0), .int .i64 ((cutR ca cb cc cd 0 0 W H).y0), .int .i64 ((cutR ca cb cc cd 0 0 W H).x1), .int .i64 ((cutR ca cb cc cd 0 0 W H).y1)] 28 true, .cells b2 [.int .i64 0, .int .i64 0, .int .i64 0, .int .i64 0] 28 true, .cells b1 [.bool sm, .int .i64 W, .int .i64 H, ms, .int .i64 X, .int .i64 Y, .int .i64 s, .int .i64 al, .int .i64 ca, .int .i64 cb, .int .i64 cc, .int .i64 cd] 30 true] rfl rfl (by kernel_rfl) (by kernel_rfl) ?_
        refine cont_forget 0 rfl ?_
        refine cont_forget 1 rfl ?_
        refine cont_done ?_
        refine then_normal ?_
        refine cont_ret ?_
        refine then_ret ?_
        refine ret_one (.inl rfl) rfl 0 (.agg #[.int .i64 0, .int .i64 0, .int .i64 0, .int .i64 0]) (by kernel_rfl) (by kernel_rfl) (fun w hT => ?_)
        exact ⟨by simp [rboxR, *], hT.post rfl⟩
      refine cont_false rfl ?_
      refine cont_skip ?_
      refine then_normal ?_
      refine cont_seq ?_
      refine cont_region 38 rfl ?_
      refine batch0 [0, 0, 2, 0, 0, 0, 2, 0] 8 30 [(1, .pointer (some ⟨b1, 0, none⟩)), (2, .pointer (some ⟨b2, 0, none⟩)), (3, .pointer (some ⟨b3, 0, none⟩)), (15, .int .i64 X), (20, .int .i64 (IntKind.i64.wrap (((cutR ca cb cc cd 0 0 W H).x0) * s)))] [.cells b3 [.int .i64 ((cutR ca cb cc cd 0 0 W H).x0), .int .i64 ((cutR ca cb cc cd 0 0 W H).y0), .int .i64 ((cutR ca cb cc cd 0 0 W H).x1), .int .i64 ((cutR ca cb cc cd 0 0 W H).y1)] 28 true, .cells b2 [.int .i64 0, .int .i64 0, .int .i64 0, .int .i64 0] 28 true, .cells b1 [.bool sm, .int .i64 W, .int .i64 H, ms, .int .i64 X, .int .i64 Y, .int .i64 s, .int .i64 al, .int .i64 ca, .int .i64 cb, .int .i64 cc, .int .i64 cd] 30 true] rfl rfl (by kernel_rfl) (by kernel_rfl) ?_
      refine cont_recast 20 (.int .i64 (IntKind.i64.wrap (((cutR ca cb cc cd 0 0 W H).x0) * s))) (.int .i64 (((cutR ca cb cc cd 0 0 W H).x0) * s)) rfl (wrapI (by omega) (by omega)) ?_
      refine batch0 [0] 9 29 [(1, .pointer (some ⟨b1, 0, none⟩)), (2, .pointer (some ⟨b2, 0, none⟩)), (3, .pointer (some ⟨b3, 0, none⟩)), (21, .int .i64 (IntKind.i64.wrap (X + (((cutR ca cb cc cd 0 0 W H).x0) * s))))] [.cells b3 [.int .i64 ((cutR ca cb cc cd 0 0 W H).x0), .int .i64 ((cutR ca cb cc cd 0 0 W H).y0), .int .i64 ((cutR ca cb cc cd 0 0 W H).x1), .int .i64 ((cutR ca cb cc cd 0 0 W H).y1)] 28 true, .cells b2 [.int .i64 0, .int .i64 0, .int .i64 0, .int .i64 0] 28 true, .cells b1 [.bool sm, .int .i64 W, .int .i64 H, ms, .int .i64 X, .int .i64 Y, .int .i64 s, .int .i64 al, .int .i64 ca, .int .i64 cb, .int .i64 cc, .int .i64 cd] 30 true] rfl rfl (by kernel_rfl) (by kernel_rfl) ?_
      refine cont_recast 21 (.int .i64 (IntKind.i64.wrap (X + (((cutR ca cb cc cd 0 0 W H).x0) * s)))) (.int .i64 (X + (((cutR ca cb cc cd 0 0 W H).x0) * s))) rfl (wrapI (by omega) (by omega)) ?_
      refine batch0 [0, 0, 2, 0, 0, 0, 2, 0] 17 21 [(1, .pointer (some ⟨b1, 0, none⟩)), (2, .pointer (some ⟨b2, 0, none⟩)), (3, .pointer (some ⟨b3, 0, none⟩)), (21, .int .i64 (X + (((cutR ca cb cc cd 0 0 W H).x0) * s))), (24, .int .i64 Y), (29, .int .i64 (IntKind.i64.wrap (((cutR ca cb cc cd 0 0 W H).y0) * s)))] [.cells b3 [.int .i64 ((cutR ca cb cc cd 0 0 W H).x0), .int .i64 ((cutR ca cb cc cd 0 0 W H).y0), .int .i64 ((cutR ca cb cc cd 0 0 W H).x1), .int .i64 ((cutR ca cb cc cd 0 0 W H).y1)] 28 true, .cells b2 [.int .i64 0, .int .i64 0, .int .i64 0, .int .i64 0] 28 true, .cells b1 [.bool sm, .int .i64 W, .int .i64 H, ms, .int .i64 X, .int .i64 Y, .int .i64 s, .int .i64 al, .int .i64 ca, .int .i64 cb, .int .i64 cc, .int .i64 cd] 30 true] rfl rfl (by kernel_rfl) (by kernel_rfl) ?_
      refine cont_recast 29 (.int .i64 (IntKind.i64.wrap (((cutR ca cb cc cd 0 0 W H).y0) * s))) (.int .i64 (((cutR ca cb cc cd 0 0 W H).y0) * s)) rfl (wrapI (by omega) (by omega)) ?_
      refine batch0 [0] 18 20 [(1, .pointer (some ⟨b1, 0, none⟩)), (2, .pointer (some ⟨b2, 0, none⟩)), (3, .pointer (some ⟨b3, 0, none⟩)), (21, .int .i64 (X + (((cutR ca cb cc cd 0 0 W H).x0) * s))), (30, .int .i64 (IntKind.i64.wrap (Y + (((cutR ca cb cc cd 0 0 W H).y0) * s))))] [.cells b3 [.int .i64 ((cutR ca cb cc cd 0 0 W H).x0), .int .i64 ((cutR ca cb cc cd 0 0 W H).y0), .int .i64 ((cutR ca cb cc cd 0 0 W H).x1), .int .i64 ((cutR ca cb cc cd 0 0 W H).y1)] 28 true, .cells b2 [.int .i64 0, .int .i64 0, .int .i64 0, .int .i64 0] 28 true, .cells b1 [.bool sm, .int .i64 W, .int .i64 H, ms, .int .i64 X, .int .i64 Y, .int .i64 s, .int .i64 al, .int .i64 ca, .int .i64 cb, .int .i64 cc, .int .i64 cd] 30 true] rfl rfl (by kernel_rfl) (by kernel_rfl) ?_
      refine cont_recast 30 (.int .i64 (IntKind.i64.wrap (Y + (((cutR ca cb cc cd 0 0 W H).y0) * s)))) (.int .i64 (Y + (((cutR ca cb cc cd 0 0 W H).y0) * s))) rfl (wrapI (by omega) (by omega)) ?_
      refine batch0 [0, 0, 2, 0, 0, 0, 2, 0] 26 12 [(1, .pointer (some ⟨b1, 0, none⟩)), (2, .pointer (some ⟨b2, 0, none⟩)), (3, .pointer (some ⟨b3, 0, none⟩)), (21, .int .i64 (X + (((cutR ca cb cc cd 0 0 W H).x0) * s))), (30, .int .i64 (Y + (((cutR ca cb cc cd 0 0 W H).y0) * s))), (33, .int .i64 X), (38, .int .i64 (IntKind.i64.wrap (((cutR ca cb cc cd 0 0 W H).x1) * s)))] [.cells b3 [.int .i64 ((cutR ca cb cc cd 0 0 W H).x0), .int .i64 ((cutR ca cb cc cd 0 0 W H).y0), .int .i64 ((cutR ca cb cc cd 0 0 W H).x1), .int .i64 ((cutR ca cb cc cd 0 0 W H).y1)] 28 true, .cells b2 [.int .i64 0, .int .i64 0, .int .i64 0, .int .i64 0] 28 true, .cells b1 [.bool sm, .int .i64 W, .int .i64 H, ms, .int .i64 X, .int .i64 Y, .int .i64 s, .int .i64 al, .int .i64 ca, .int .i64 cb, .int .i64 cc, .int .i64 cd] 30 true] rfl rfl (by kernel_rfl) (by kernel_rfl) ?_
      refine cont_recast 38 (.int .i64 (IntKind.i64.wrap (((cutR ca cb cc cd 0 0 W H).x1) * s))) (.int .i64 (((cutR ca cb cc cd 0 0 W H).x1) * s)) rfl (wrapI (by omega) (by omega)) ?_
      refine batch0 [0] 27 11 [(1, .pointer (some ⟨b1, 0, none⟩)), (2, .pointer (some ⟨b2, 0, none⟩)), (3, .pointer (some ⟨b3, 0, none⟩)), (21, .int .i64 (X + (((cutR ca cb cc cd 0 0 W H).x0) * s))), (30, .int .i64 (Y + (((cutR ca cb cc cd 0 0 W H).y0) * s))), (39, .int .i64 (IntKind.i64.wrap (X + (((cutR ca cb cc cd 0 0 W H).x1) * s))))] [.cells b3 [.int .i64 ((cutR ca cb cc cd 0 0 W H).x0), .int .i64 ((cutR ca cb cc cd 0 0 W H).y0), .int .i64 ((cutR ca cb cc cd 0 0 W H).x1), .int .i64 ((cutR ca cb cc cd 0 0 W H).y1)] 28 true, .cells b2 [.int .i64 0, .int .i64 0, .int .i64 0, .int .i64 0] 28 true, .cells b1 [.bool sm, .int .i64 W, .int .i64 H, ms, .int .i64 X, .int .i64 Y, .int .i64 s, .int .i64 al, .int .i64 ca, .int .i64 cb, .int .i64 cc, .int .i64 cd] 30 true] rfl rfl (by kernel_rfl) (by kernel_rfl) ?_
      refine cont_recast 39 (.int .i64 (IntKind.i64.wrap (X + (((cutR ca cb cc cd 0 0 W H).x1) * s)))) (.int .i64 (X + (((cutR ca cb cc cd 0 0 W H).x1) * s))) rfl (wrapI (by omega) (by omega)) ?_
      refine batch0 [0, 0, 2, 0, 0, 0, 2, 0] 35 3 [(2, .pointer (some ⟨b2, 0, none⟩)), (21, .int .i64 (X + (((cutR ca cb cc cd 0 0 W H).x0) * s))), (30, .int .i64 (Y + (((cutR ca cb cc cd 0 0 W H).y0) * s))), (39, .int .i64 (X + (((cutR ca cb cc cd 0 0 W H).x1) * s))), (42, .int .i64 Y), (47, .int .i64 (IntKind.i64.wrap (((cutR ca cb cc cd 0 0 W H).y1) * s)))] [.cells b3 [.int .i64 ((cutR ca cb cc cd 0 0 W H).x0), .int .i64 ((cutR ca cb cc cd 0 0 W H).y0), .int .i64 ((cutR ca cb cc cd 0 0 W H).x1), .int .i64 ((cutR ca cb cc cd 0 0 W H).y1)] 28 true, .cells b2 [.int .i64 0, .int .i64 0, .int .i64 0, .int .i64 0] 28 true, .cells b1 [.bool sm, .int .i64 W, .int .i64 H, ms, .int .i64 X, .int .i64 Y, .int .i64 s, .int .i64 al, .int .i64 ca, .int .i64 cb, .int .i64 cc, .int .i64 cd] 30 true] rfl rfl (by kernel_rfl) (by kernel_rfl) ?_
      refine cont_recast 47 (.int .i64 (IntKind.i64.wrap (((cutR ca cb cc cd 0 0 W H).y1) * s))) (.int .i64 (((cutR ca cb cc cd 0 0 W H).y1) * s)) rfl (wrapI (by omega) (by omega)) ?_
      refine cont_forget 0 rfl ?_
      refine cont_forget 1 rfl ?_
      refine batch0 [0] 36 2 [(2, .pointer (some ⟨b2, 0, none⟩)), (21, .int .i64 (X + (((cutR ca cb cc cd 0 0 W H).x0) * s))), (30, .int .i64 (Y + (((cutR ca cb cc cd 0 0 W H).y0) * s))), (39, .int .i64 (X + (((cutR ca cb cc cd 0 0 W H).x1) * s))), (48, .int .i64 (IntKind.i64.wrap (Y + (((cutR ca cb cc cd 0 0 W H).y1) * s))))] [.cells b2 [.int .i64 0, .int .i64 0, .int .i64 0, .int .i64 0] 28 true] rfl rfl (by kernel_rfl) (by kernel_rfl) ?_
      refine cont_recast 48 (.int .i64 (IntKind.i64.wrap (Y + (((cutR ca cb cc cd 0 0 W H).y1) * s)))) (.int .i64 (Y + (((cutR ca cb cc cd 0 0 W H).y1) * s))) rfl (wrapI (by omega) (by omega)) ?_
      refine batch0 [0, 0] 38 0 [(2, .pointer (some ⟨b2, 0, none⟩))] [.cells b2 [.int .i64 (X + (((cutR ca cb cc cd 0 0 W H).x0) * s)), .int .i64 (Y + (((cutR ca cb cc cd 0 0 W H).y0) * s)), .int .i64 (X + (((cutR ca cb cc cd 0 0 W H).x1) * s)), .int .i64 (Y + (((cutR ca cb cc cd 0 0 W H).y1) * s))] 28 true] rfl rfl (by kernel_rfl) (by kernel_rfl) ?_
      refine cont_done ?_
      refine then_normal ?_
      refine cont_ret ?_
      refine ret_one (.inl rfl) rfl 0 (.agg #[.int .i64 (X + (((cutR ca cb cc cd 0 0 W H).x0) * s)), .int .i64 (Y + (((cutR ca cb cc cd 0 0 W H).y0) * s)), .int .i64 (X + (((cutR ca cb cc cd 0 0 W H).x1) * s)), .int .i64 (Y + (((cutR ca cb cc cd 0 0 W H).y1) * s))]) (by kernel_rfl) (by kernel_rfl) (fun w hT => ?_)
      exact ⟨by simp [rboxR, *], hT.post rfl⟩
    refine one_step1 0 (fun b5 => [(1, .pointer (some ⟨b1, 0, none⟩)), (2, .pointer (some ⟨b2, 0, none⟩)), (3, .pointer (some ⟨b5, 0, none⟩)), (5, .agg #[.int .i64 ca, .int .i64 cb, .int .i64 cc, .int .i64 cd]), (8, .agg #[.int .i64 0, .int .i64 0, .int .i64 W, .int .i64 H])]) (fun b5 => [.cells b5 [.int .i64 0, .int .i64 0, .int .i64 0, .int .i64 0] 28 true, .cells b2 [.int .i64 0, .int .i64 0, .int .i64 0, .int .i64 0] 28 true, .cells b1 [.bool sm, .int .i64 W, .int .i64 H, ms, .int .i64 X, .int .i64 Y, .int .i64 s, .int .i64 al, .int .i64 ca, .int .i64 cb, .int .i64 cc, .int .i64 cd] 30 true]) (fun b5 => by kernel_rfl) (fun b5 => by kernel_rfl) (fun b5 => ?_)
    refine drawn_next 1 [] (by kernel_rfl) ?_
    refine drawn_one 5 1 rfl (by kernel_rfl) ?_
    refine call_pure (d := 9) (.agg #[.int .i64 ((cutR ca cb cc cd 0 0 W H).x0), .int .i64 ((cutR ca cb cc cd 0 0 W H).y0), .int .i64 ((cutR ca cb cc cd 0 0 W H).x1), .int .i64 ((cutR ca cb cc cd 0 0 W H).y1)]) (by kernel_rfl) (fun w hT => refCut ca cb cc cd 0 0 W H w) ?_
    refine drawn_next 1 [] (by kernel_rfl) ?_
    refine drawn_one 7 0 rfl (by kernel_rfl) ?_
    refine one_step 0 [(1, .pointer (some ⟨b1, 0, none⟩)), (2, .pointer (some ⟨b2, 0, none⟩)), (3, .pointer (some ⟨b5, 0, none⟩))] [.cells b5 [.int .i64 ((cutR ca cb cc cd 0 0 W H).x0), .int .i64 ((cutR ca cb cc cd 0 0 W H).y0), .int .i64 ((cutR ca cb cc cd 0 0 W H).x1), .int .i64 ((cutR ca cb cc cd 0 0 W H).y1)] 28 true, .cells b2 [.int .i64 0, .int .i64 0, .int .i64 0, .int .i64 0] 28 true, .cells b1 [.bool sm, .int .i64 W, .int .i64 H, ms, .int .i64 X, .int .i64 Y, .int .i64 s, .int .i64 al, .int .i64 ca, .int .i64 cb, .int .i64 cc, .int .i64 cd] 30 true] (by kernel_rfl) (by kernel_rfl) ?_
    refine drawn_next 1 [] (by kernel_rfl) ?_
    refine drawn_done (by kernel_rfl) ?_
    refine then_normal ?_
    refine cont_seq ?_
    refine cont_seq ?_
    refine cont_region 2 rfl ?_
    refine batch0 [0] 1 1 [(1, .pointer (some ⟨b1, 0, none⟩)), (2, .pointer (some ⟨b2, 0, none⟩)), (3, .pointer (some ⟨b5, 0, none⟩)), (10, .agg #[.int .i64 ((cutR ca cb cc cd 0 0 W H).x0), .int .i64 ((cutR ca cb cc cd 0 0 W H).y0), .int .i64 ((cutR ca cb cc cd 0 0 W H).x1), .int .i64 ((cutR ca cb cc cd 0 0 W H).y1)])] [.cells b5 [.int .i64 ((cutR ca cb cc cd 0 0 W H).x0), .int .i64 ((cutR ca cb cc cd 0 0 W H).y0), .int .i64 ((cutR ca cb cc cd 0 0 W H).x1), .int .i64 ((cutR ca cb cc cd 0 0 W H).y1)] 28 true, .cells b2 [.int .i64 0, .int .i64 0, .int .i64 0, .int .i64 0] 28 true, .cells b1 [.bool sm, .int .i64 W, .int .i64 H, ms, .int .i64 X, .int .i64 Y, .int .i64 s, .int .i64 al, .int .i64 ca, .int .i64 cb, .int .i64 cc, .int .i64 cd] 30 true] rfl rfl (by kernel_rfl) (by kernel_rfl) ?_
    refine pl_step 2 0 rfl rfl ?_
    refine call_pure (d := 11) (.bool (emptyB ((cutR ca cb cc cd 0 0 W H).x0) ((cutR ca cb cc cd 0 0 W H).y0) ((cutR ca cb cc cd 0 0 W H).x1) ((cutR ca cb cc cd 0 0 W H).y1))) (by kernel_rfl) (fun w hT => refEmpty ((cutR ca cb cc cd 0 0 W H).x0) ((cutR ca cb cc cd 0 0 W H).y0) ((cutR ca cb cc cd 0 0 W H).x1) ((cutR ca cb cc cd 0 0 W H).y1) w) ?_
    refine cont_done ?_
    refine then_normal ?_
    refine cont_split 11 (emptyB ((cutR ca cb cc cd 0 0 W H).x0) ((cutR ca cb cc cd 0 0 W H).y0) ((cutR ca cb cc cd 0 0 W H).x1) ((cutR ca cb cc cd 0 0 W H).y1)) rfl (fun c6_ => ?_) (fun c6_ => ?_)
    ·
      refine cont_true rfl ?_
      refine cont_seq ?_
      refine cont_region 2 rfl ?_
      refine batch0 [0, 1] 2 0 [(2, .pointer (some ⟨b2, 0, none⟩))] [.cells b5 [.int .i64 ((cutR ca cb cc cd 0 0 W H).x0), .int .i64 ((cutR ca cb cc cd 0 0 W H).y0), .int .i64 ((cutR ca cb cc cd 0 0 W H).x1), .int .i64 ((cutR ca cb cc cd 0 0 W H).y1)] 28 true, .cells b2 [.int .i64 0, .int .i64 0, .int .i64 0, .int .i64 0] 28 true, .cells b1 [.bool sm, .int .i64 W, .int .i64 H, ms, .int .i64 X, .int .i64 Y, .int .i64 s, .int .i64 al, .int .i64 ca, .int .i64 cb, .int .i64 cc, .int .i64 cd] 30 true] rfl rfl (by kernel_rfl) (by kernel_rfl) ?_
      refine cont_forget 0 rfl ?_
      refine cont_forget 1 rfl ?_
      refine cont_done ?_
      refine then_normal ?_
      refine cont_ret ?_
      refine then_ret ?_
      refine ret_one (.inl rfl) rfl 0 (.agg #[.int .i64 0, .int .i64 0, .int .i64 0, .int .i64 0]) (by kernel_rfl) (by kernel_rfl) (fun w hT => ?_)
      exact ⟨by simp [rboxR, *], hT.post rfl⟩
    refine cont_false rfl ?_
    refine cont_skip ?_
    refine then_normal ?_
    refine cont_seq ?_
    refine cont_region 38 rfl ?_
    refine batch0 [0, 0, 2, 0, 0, 0, 2, 0] 8 30 [(1, .pointer (some ⟨b1, 0, none⟩)), (2, .pointer (some ⟨b2, 0, none⟩)), (3, .pointer (some ⟨b5, 0, none⟩)), (15, .int .i64 X), (20, .int .i64 (IntKind.i64.wrap (((cutR ca cb cc cd 0 0 W H).x0) * s)))] [.cells b5 [.int .i64 ((cutR ca cb cc cd 0 0 W H).x0), .int .i64 ((cutR ca cb cc cd 0 0 W H).y0), .int .i64 ((cutR ca cb cc cd 0 0 W H).x1), .int .i64 ((cutR ca cb cc cd 0 0 W H).y1)] 28 true, .cells b2 [.int .i64 0, .int .i64 0, .int .i64 0, .int .i64 0] 28 true, .cells b1 [.bool sm, .int .i64 W, .int .i64 H, ms, .int .i64 X, .int .i64 Y, .int .i64 s, .int .i64 al, .int .i64 ca, .int .i64 cb, .int .i64 cc, .int .i64 cd] 30 true] rfl rfl (by kernel_rfl) (by kernel_rfl) ?_
    refine cont_recast 20 (.int .i64 (IntKind.i64.wrap (((cutR ca cb cc cd 0 0 W H).x0) * s))) (.int .i64 (((cutR ca cb cc cd 0 0 W H).x0) * s)) rfl (wrapI (by omega) (by omega)) ?_
    refine batch0 [0] 9 29 [(1, .pointer (some ⟨b1, 0, none⟩)), (2, .pointer (some ⟨b2, 0, none⟩)), (3, .pointer (some ⟨b5, 0, none⟩)), (21, .int .i64 (IntKind.i64.wrap (X + (((cutR ca cb cc cd 0 0 W H).x0) * s))))] [.cells b5 [.int .i64 ((cutR ca cb cc cd 0 0 W H).x0), .int .i64 ((cutR ca cb cc cd 0 0 W H).y0), .int .i64 ((cutR ca cb cc cd 0 0 W H).x1), .int .i64 ((cutR ca cb cc cd 0 0 W H).y1)] 28 true, .cells b2 [.int .i64 0, .int .i64 0, .int .i64 0, .int .i64 0] 28 true, .cells b1 [.bool sm, .int .i64 W, .int .i64 H, ms, .int .i64 X, .int .i64 Y, .int .i64 s, .int .i64 al, .int .i64 ca, .int .i64 cb, .int .i64 cc, .int .i64 cd] 30 true] rfl rfl (by kernel_rfl) (by kernel_rfl) ?_
    refine cont_recast 21 (.int .i64 (IntKind.i64.wrap (X + (((cutR ca cb cc cd 0 0 W H).x0) * s)))) (.int .i64 (X + (((cutR ca cb cc cd 0 0 W H).x0) * s))) rfl (wrapI (by omega) (by omega)) ?_
    refine batch0 [0, 0, 2, 0, 0, 0, 2, 0] 17 21 [(1, .pointer (some ⟨b1, 0, none⟩)), (2, .pointer (some ⟨b2, 0, none⟩)), (3, .pointer (some ⟨b5, 0, none⟩)), (21, .int .i64 (X + (((cutR ca cb cc cd 0 0 W H).x0) * s))), (24, .int .i64 Y), (29, .int .i64 (IntKind.i64.wrap (((cutR ca cb cc cd 0 0 W H).y0) * s)))] [.cells b5 [.int .i64 ((cutR ca cb cc cd 0 0 W H).x0), .int .i64 ((cutR ca cb cc cd 0 0 W H).y0), .int .i64 ((cutR ca cb cc cd 0 0 W H).x1), .int .i64 ((cutR ca cb cc cd 0 0 W H).y1)] 28 true, .cells b2 [.int .i64 0, .int .i64 0, .int .i64 0, .int .i64 0] 28 true, .cells b1 [.bool sm, .int .i64 W, .int .i64 H, ms, .int .i64 X, .int .i64 Y, .int .i64 s, .int .i64 al, .int .i64 ca, .int .i64 cb, .int .i64 cc, .int .i64 cd] 30 true] rfl rfl (by kernel_rfl) (by kernel_rfl) ?_
    refine cont_recast 29 (.int .i64 (IntKind.i64.wrap (((cutR ca cb cc cd 0 0 W H).y0) * s))) (.int .i64 (((cutR ca cb cc cd 0 0 W H).y0) * s)) rfl (wrapI (by omega) (by omega)) ?_
    refine batch0 [0] 18 20 [(1, .pointer (some ⟨b1, 0, none⟩)), (2, .pointer (some ⟨b2, 0, none⟩)), (3, .pointer (some ⟨b5, 0, none⟩)), (21, .int .i64 (X + (((cutR ca cb cc cd 0 0 W H).x0) * s))), (30, .int .i64 (IntKind.i64.wrap (Y + (((cutR ca cb cc cd 0 0 W H).y0) * s))))] [.cells b5 [.int .i64 ((cutR ca cb cc cd 0 0 W H).x0), .int .i64 ((cutR ca cb cc cd 0 0 W H).y0), .int .i64 ((cutR ca cb cc cd 0 0 W H).x1), .int .i64 ((cutR ca cb cc cd 0 0 W H).y1)] 28 true, .cells b2 [.int .i64 0, .int .i64 0, .int .i64 0, .int .i64 0] 28 true, .cells b1 [.bool sm, .int .i64 W, .int .i64 H, ms, .int .i64 X, .int .i64 Y, .int .i64 s, .int .i64 al, .int .i64 ca, .int .i64 cb, .int .i64 cc, .int .i64 cd] 30 true] rfl rfl (by kernel_rfl) (by kernel_rfl) ?_
    refine cont_recast 30 (.int .i64 (IntKind.i64.wrap (Y + (((cutR ca cb cc cd 0 0 W H).y0) * s)))) (.int .i64 (Y + (((cutR ca cb cc cd 0 0 W H).y0) * s))) rfl (wrapI (by omega) (by omega)) ?_
    refine batch0 [0, 0, 2, 0, 0, 0, 2, 0] 26 12 [(1, .pointer (some ⟨b1, 0, none⟩)), (2, .pointer (some ⟨b2, 0, none⟩)), (3, .pointer (some ⟨b5, 0, none⟩)), (21, .int .i64 (X + (((cutR ca cb cc cd 0 0 W H).x0) * s))), (30, .int .i64 (Y + (((cutR ca cb cc cd 0 0 W H).y0) * s))), (33, .int .i64 X), (38, .int .i64 (IntKind.i64.wrap (((cutR ca cb cc cd 0 0 W H).x1) * s)))] [.cells b5 [.int .i64 ((cutR ca cb cc cd 0 0 W H).x0), .int .i64 ((cutR ca cb cc cd 0 0 W H).y0), .int .i64 ((cutR ca cb cc cd 0 0 W H).x1), .int .i64 ((cutR ca cb cc cd 0 0 W H).y1)] 28 true, .cells b2 [.int .i64 0, .int .i64 0, .int .i64 0, .int .i64 0] 28 true, .cells b1 [.bool sm, .int .i64 W, .int .i64 H, ms, .int .i64 X, .int .i64 Y, .int .i64 s, .int .i64 al, .int .i64 ca, .int .i64 cb, .int .i64 cc, .int .i64 cd] 30 true] rfl rfl (by kernel_rfl) (by kernel_rfl) ?_
    refine cont_recast 38 (.int .i64 (IntKind.i64.wrap (((cutR ca cb cc cd 0 0 W H).x1) * s))) (.int .i64 (((cutR ca cb cc cd 0 0 W H).x1) * s)) rfl (wrapI (by omega) (by omega)) ?_
    refine batch0 [0] 27 11 [(1, .pointer (some ⟨b1, 0, none⟩)), (2, .pointer (some ⟨b2, 0, none⟩)), (3, .pointer (some ⟨b5, 0, none⟩)), (21, .int .i64 (X + (((cutR ca cb cc cd 0 0 W H).x0) * s))), (30, .int .i64 (Y + (((cutR ca cb cc cd 0 0 W H).y0) * s))), (39, .int .i64 (IntKind.i64.wrap (X + (((cutR ca cb cc cd 0 0 W H).x1) * s))))] [.cells b5 [.int .i64 ((cutR ca cb cc cd 0 0 W H).x0), .int .i64 ((cutR ca cb cc cd 0 0 W H).y0), .int .i64 ((cutR ca cb cc cd 0 0 W H).x1), .int .i64 ((cutR ca cb cc cd 0 0 W H).y1)] 28 true, .cells b2 [.int .i64 0, .int .i64 0, .int .i64 0, .int .i64 0] 28 true, .cells b1 [.bool sm, .int .i64 W, .int .i64 H, ms, .int .i64 X, .int .i64 Y, .int .i64 s, .int .i64 al, .int .i64 ca, .int .i64 cb, .int .i64 cc, .int .i64 cd] 30 true] rfl rfl (by kernel_rfl) (by kernel_rfl) ?_
    refine cont_recast 39 (.int .i64 (IntKind.i64.wrap (X + (((cutR ca cb cc cd 0 0 W H).x1) * s)))) (.int .i64 (X + (((cutR ca cb cc cd 0 0 W H).x1) * s))) rfl (wrapI (by omega) (by omega)) ?_
    refine batch0 [0, 0, 2, 0, 0, 0, 2, 0] 35 3 [(2, .pointer (some ⟨b2, 0, none⟩)), (21, .int .i64 (X + (((cutR ca cb cc cd 0 0 W H).x0) * s))), (30, .int .i64 (Y + (((cutR ca cb cc cd 0 0 W H).y0) * s))), (39, .int .i64 (X + (((cutR ca cb cc cd 0 0 W H).x1) * s))), (42, .int .i64 Y), (47, .int .i64 (IntKind.i64.wrap (((cutR ca cb cc cd 0 0 W H).y1) * s)))] [.cells b5 [.int .i64 ((cutR ca cb cc cd 0 0 W H).x0), .int .i64 ((cutR ca cb cc cd 0 0 W H).y0), .int .i64 ((cutR ca cb cc cd 0 0 W H).x1), .int .i64 ((cutR ca cb cc cd 0 0 W H).y1)] 28 true, .cells b2 [.int .i64 0, .int .i64 0, .int .i64 0, .int .i64 0] 28 true, .cells b1 [.bool sm, .int .i64 W, .int .i64 H, ms, .int .i64 X, .int .i64 Y, .int .i64 s, .int .i64 al, .int .i64 ca, .int .i64 cb, .int .i64 cc, .int .i64 cd] 30 true] rfl rfl (by kernel_rfl) (by kernel_rfl) ?_
    refine cont_recast 47 (.int .i64 (IntKind.i64.wrap (((cutR ca cb cc cd 0 0 W H).y1) * s))) (.int .i64 (((cutR ca cb cc cd 0 0 W H).y1) * s)) rfl (wrapI (by omega) (by omega)) ?_
    refine cont_forget 0 rfl ?_
    refine cont_forget 1 rfl ?_
    refine batch0 [0] 36 2 [(2, .pointer (some ⟨b2, 0, none⟩)), (21, .int .i64 (X + (((cutR ca cb cc cd 0 0 W H).x0) * s))), (30, .int .i64 (Y + (((cutR ca cb cc cd 0 0 W H).y0) * s))), (39, .int .i64 (X + (((cutR ca cb cc cd 0 0 W H).x1) * s))), (48, .int .i64 (IntKind.i64.wrap (Y + (((cutR ca cb cc cd 0 0 W H).y1) * s))))] [.cells b2 [.int .i64 0, .int .i64 0, .int .i64 0, .int .i64 0] 28 true] rfl rfl (by kernel_rfl) (by kernel_rfl) ?_
    refine cont_recast 48 (.int .i64 (IntKind.i64.wrap (Y + (((cutR ca cb cc cd 0 0 W H).y1) * s)))) (.int .i64 (Y + (((cutR ca cb cc cd 0 0 W H).y1) * s))) rfl (wrapI (by omega) (by omega)) ?_
    refine batch0 [0, 0] 38 0 [(2, .pointer (some ⟨b2, 0, none⟩))] [.cells b2 [.int .i64 (X + (((cutR ca cb cc cd 0 0 W H).x0) * s)), .int .i64 (Y + (((cutR ca cb cc cd 0 0 W H).y0) * s)), .int .i64 (X + (((cutR ca cb cc cd 0 0 W H).x1) * s)), .int .i64 (Y + (((cutR ca cb cc cd 0 0 W H).y1) * s))] 28 true] rfl rfl (by kernel_rfl) (by kernel_rfl) ?_
    refine cont_done ?_
    refine then_normal ?_
    refine cont_ret ?_
    refine ret_one (.inl rfl) rfl 0 (.agg #[.int .i64 (X + (((cutR ca cb cc cd 0 0 W H).x0) * s)), .int .i64 (Y + (((cutR ca cb cc cd 0 0 W H).y0) * s)), .int .i64 (X + (((cutR ca cb cc cd 0 0 W H).x1) * s)), .int .i64 (Y + (((cutR ca cb cc cd 0 0 W H).y1) * s))]) (by kernel_rfl) (by kernel_rfl) (fun w hT => ?_)
    exact ⟨by simp [rboxR, *], hT.post rfl⟩
  refine one_step1 0 (fun b7 => [(1, .pointer (some ⟨b1, 0, none⟩)), (2, .pointer (some ⟨b2, 0, none⟩)), (3, .pointer (some ⟨b7, 0, none⟩)), (5, .agg #[.int .i64 ca, .int .i64 cb, .int .i64 cc, .int .i64 cd]), (7, .agg #[.int .i64 W, .int .i64 H, ms])]) (fun b7 => [.cells b7 [.int .i64 0, .int .i64 0, .int .i64 0, .int .i64 0] 28 true, .cells b2 [.int .i64 0, .int .i64 0, .int .i64 0, .int .i64 0] 28 true, .cells b1 [.bool sm, .int .i64 W, .int .i64 H, ms, .int .i64 X, .int .i64 Y, .int .i64 s, .int .i64 al, .int .i64 ca, .int .i64 cb, .int .i64 cc, .int .i64 cd] 30 true]) (fun b7 => by kernel_rfl) (fun b7 => by kernel_rfl) (fun b7 => ?_)
  refine drawn_next 1 [] (by kernel_rfl) ?_
  refine drawn_one 4 2 rfl (by kernel_rfl) ?_
  refine call_pure (d := 8) (.agg #[.int .i64 0, .int .i64 0, .int .i64 W, .int .i64 H]) (by kernel_rfl) (fun w hT => refBox W H ms w) ?_
  refine drawn_next 1 [] (by kernel_rfl) ?_
  refine drawn_one 5 1 rfl (by kernel_rfl) ?_
  refine call_pure (d := 9) (.agg #[.int .i64 ((cutR ca cb cc cd 0 0 W H).x0), .int .i64 ((cutR ca cb cc cd 0 0 W H).y0), .int .i64 ((cutR ca cb cc cd 0 0 W H).x1), .int .i64 ((cutR ca cb cc cd 0 0 W H).y1)]) (by kernel_rfl) (fun w hT => refCut ca cb cc cd 0 0 W H w) ?_
  refine drawn_next 1 [] (by kernel_rfl) ?_
  refine drawn_one 7 0 rfl (by kernel_rfl) ?_
  refine one_step 0 [(1, .pointer (some ⟨b1, 0, none⟩)), (2, .pointer (some ⟨b2, 0, none⟩)), (3, .pointer (some ⟨b7, 0, none⟩))] [.cells b7 [.int .i64 ((cutR ca cb cc cd 0 0 W H).x0), .int .i64 ((cutR ca cb cc cd 0 0 W H).y0), .int .i64 ((cutR ca cb cc cd 0 0 W H).x1), .int .i64 ((cutR ca cb cc cd 0 0 W H).y1)] 28 true, .cells b2 [.int .i64 0, .int .i64 0, .int .i64 0, .int .i64 0] 28 true, .cells b1 [.bool sm, .int .i64 W, .int .i64 H, ms, .int .i64 X, .int .i64 Y, .int .i64 s, .int .i64 al, .int .i64 ca, .int .i64 cb, .int .i64 cc, .int .i64 cd] 30 true] (by kernel_rfl) (by kernel_rfl) ?_
  refine drawn_next 1 [] (by kernel_rfl) ?_
  refine drawn_done (by kernel_rfl) ?_
  refine then_normal ?_
  refine cont_seq ?_
  refine cont_seq ?_
  refine cont_region 2 rfl ?_
  refine batch0 [0] 1 1 [(1, .pointer (some ⟨b1, 0, none⟩)), (2, .pointer (some ⟨b2, 0, none⟩)), (3, .pointer (some ⟨b7, 0, none⟩)), (10, .agg #[.int .i64 ((cutR ca cb cc cd 0 0 W H).x0), .int .i64 ((cutR ca cb cc cd 0 0 W H).y0), .int .i64 ((cutR ca cb cc cd 0 0 W H).x1), .int .i64 ((cutR ca cb cc cd 0 0 W H).y1)])] [.cells b7 [.int .i64 ((cutR ca cb cc cd 0 0 W H).x0), .int .i64 ((cutR ca cb cc cd 0 0 W H).y0), .int .i64 ((cutR ca cb cc cd 0 0 W H).x1), .int .i64 ((cutR ca cb cc cd 0 0 W H).y1)] 28 true, .cells b2 [.int .i64 0, .int .i64 0, .int .i64 0, .int .i64 0] 28 true, .cells b1 [.bool sm, .int .i64 W, .int .i64 H, ms, .int .i64 X, .int .i64 Y, .int .i64 s, .int .i64 al, .int .i64 ca, .int .i64 cb, .int .i64 cc, .int .i64 cd] 30 true] rfl rfl (by kernel_rfl) (by kernel_rfl) ?_
  refine pl_step 2 0 rfl rfl ?_
  refine call_pure (d := 11) (.bool (emptyB ((cutR ca cb cc cd 0 0 W H).x0) ((cutR ca cb cc cd 0 0 W H).y0) ((cutR ca cb cc cd 0 0 W H).x1) ((cutR ca cb cc cd 0 0 W H).y1))) (by kernel_rfl) (fun w hT => refEmpty ((cutR ca cb cc cd 0 0 W H).x0) ((cutR ca cb cc cd 0 0 W H).y0) ((cutR ca cb cc cd 0 0 W H).x1) ((cutR ca cb cc cd 0 0 W H).y1) w) ?_
  refine cont_done ?_
  refine then_normal ?_
  refine cont_split 11 (emptyB ((cutR ca cb cc cd 0 0 W H).x0) ((cutR ca cb cc cd 0 0 W H).y0) ((cutR ca cb cc cd 0 0 W H).x1) ((cutR ca cb cc cd 0 0 W H).y1)) rfl (fun c8_ => ?_) (fun c8_ => ?_)
  ·
    refine cont_true rfl ?_
    refine cont_seq ?_
    refine cont_region 2 rfl ?_
    refine batch0 [0, 1] 2 0 [(2, .pointer (some ⟨b2, 0, none⟩))] [.cells b7 [.int .i64 ((cutR ca cb cc cd 0 0 W H).x0), .int .i64 ((cutR ca cb cc cd 0 0 W H).y0), .int .i64 ((cutR ca cb cc cd 0 0 W H).x1), .int .i64 ((cutR ca cb cc cd 0 0 W H).y1)] 28 true, .cells b2 [.int .i64 0, .int .i64 0, .int .i64 0, .int .i64 0] 28 true, .cells b1 [.bool sm, .int .i64 W, .int .i64 H, ms, .int .i64 X, .int .i64 Y, .int .i64 s, .int .i64 al, .int .i64 ca, .int .i64 cb, .int .i64 cc, .int .i64 cd] 30 true] rfl rfl (by kernel_rfl) (by kernel_rfl) ?_
    refine cont_forget 0 rfl ?_
    refine cont_forget 1 rfl ?_
    refine cont_done ?_
    refine then_normal ?_
    refine cont_ret ?_
    refine then_ret ?_
    refine ret_one (.inl rfl) rfl 0 (.agg #[.int .i64 0, .int .i64 0, .int .i64 0, .int .i64 0]) (by kernel_rfl) (by kernel_rfl) (fun w hT => ?_)
    exact ⟨by simp [rboxR, *], hT.post rfl⟩
  refine cont_false rfl ?_
  refine cont_skip ?_
  refine then_normal ?_
  refine cont_seq ?_
  refine cont_region 38 rfl ?_
  refine batch0 [0, 0, 2, 0, 0, 0, 2, 0] 8 30 [(1, .pointer (some ⟨b1, 0, none⟩)), (2, .pointer (some ⟨b2, 0, none⟩)), (3, .pointer (some ⟨b7, 0, none⟩)), (15, .int .i64 X), (20, .int .i64 (IntKind.i64.wrap (((cutR ca cb cc cd 0 0 W H).x0) * s)))] [.cells b7 [.int .i64 ((cutR ca cb cc cd 0 0 W H).x0), .int .i64 ((cutR ca cb cc cd 0 0 W H).y0), .int .i64 ((cutR ca cb cc cd 0 0 W H).x1), .int .i64 ((cutR ca cb cc cd 0 0 W H).y1)] 28 true, .cells b2 [.int .i64 0, .int .i64 0, .int .i64 0, .int .i64 0] 28 true, .cells b1 [.bool sm, .int .i64 W, .int .i64 H, ms, .int .i64 X, .int .i64 Y, .int .i64 s, .int .i64 al, .int .i64 ca, .int .i64 cb, .int .i64 cc, .int .i64 cd] 30 true] rfl rfl (by kernel_rfl) (by kernel_rfl) ?_
  refine cont_recast 20 (.int .i64 (IntKind.i64.wrap (((cutR ca cb cc cd 0 0 W H).x0) * s))) (.int .i64 (((cutR ca cb cc cd 0 0 W H).x0) * s)) rfl (wrapI (by omega) (by omega)) ?_
  refine batch0 [0] 9 29 [(1, .pointer (some ⟨b1, 0, none⟩)), (2, .pointer (some ⟨b2, 0, none⟩)), (3, .pointer (some ⟨b7, 0, none⟩)), (21, .int .i64 (IntKind.i64.wrap (X + (((cutR ca cb cc cd 0 0 W H).x0) * s))))] [.cells b7 [.int .i64 ((cutR ca cb cc cd 0 0 W H).x0), .int .i64 ((cutR ca cb cc cd 0 0 W H).y0), .int .i64 ((cutR ca cb cc cd 0 0 W H).x1), .int .i64 ((cutR ca cb cc cd 0 0 W H).y1)] 28 true, .cells b2 [.int .i64 0, .int .i64 0, .int .i64 0, .int .i64 0] 28 true, .cells b1 [.bool sm, .int .i64 W, .int .i64 H, ms, .int .i64 X, .int .i64 Y, .int .i64 s, .int .i64 al, .int .i64 ca, .int .i64 cb, .int .i64 cc, .int .i64 cd] 30 true] rfl rfl (by kernel_rfl) (by kernel_rfl) ?_
  refine cont_recast 21 (.int .i64 (IntKind.i64.wrap (X + (((cutR ca cb cc cd 0 0 W H).x0) * s)))) (.int .i64 (X + (((cutR ca cb cc cd 0 0 W H).x0) * s))) rfl (wrapI (by omega) (by omega)) ?_
  refine batch0 [0, 0, 2, 0, 0, 0, 2, 0] 17 21 [(1, .pointer (some ⟨b1, 0, none⟩)), (2, .pointer (some ⟨b2, 0, none⟩)), (3, .pointer (some ⟨b7, 0, none⟩)), (21, .int .i64 (X + (((cutR ca cb cc cd 0 0 W H).x0) * s))), (24, .int .i64 Y), (29, .int .i64 (IntKind.i64.wrap (((cutR ca cb cc cd 0 0 W H).y0) * s)))] [.cells b7 [.int .i64 ((cutR ca cb cc cd 0 0 W H).x0), .int .i64 ((cutR ca cb cc cd 0 0 W H).y0), .int .i64 ((cutR ca cb cc cd 0 0 W H).x1), .int .i64 ((cutR ca cb cc cd 0 0 W H).y1)] 28 true, .cells b2 [.int .i64 0, .int .i64 0, .int .i64 0, .int .i64 0] 28 true, .cells b1 [.bool sm, .int .i64 W, .int .i64 H, ms, .int .i64 X, .int .i64 Y, .int .i64 s, .int .i64 al, .int .i64 ca, .int .i64 cb, .int .i64 cc, .int .i64 cd] 30 true] rfl rfl (by kernel_rfl) (by kernel_rfl) ?_
  refine cont_recast 29 (.int .i64 (IntKind.i64.wrap (((cutR ca cb cc cd 0 0 W H).y0) * s))) (.int .i64 (((cutR ca cb cc cd 0 0 W H).y0) * s)) rfl (wrapI (by omega) (by omega)) ?_
  refine batch0 [0] 18 20 [(1, .pointer (some ⟨b1, 0, none⟩)), (2, .pointer (some ⟨b2, 0, none⟩)), (3, .pointer (some ⟨b7, 0, none⟩)), (21, .int .i64 (X + (((cutR ca cb cc cd 0 0 W H).x0) * s))), (30, .int .i64 (IntKind.i64.wrap (Y + (((cutR ca cb cc cd 0 0 W H).y0) * s))))] [.cells b7 [.int .i64 ((cutR ca cb cc cd 0 0 W H).x0), .int .i64 ((cutR ca cb cc cd 0 0 W H).y0), .int .i64 ((cutR ca cb cc cd 0 0 W H).x1), .int .i64 ((cutR ca cb cc cd 0 0 W H).y1)] 28 true, .cells b2 [.int .i64 0, .int .i64 0, .int .i64 0, .int .i64 0] 28 true, .cells b1 [.bool sm, .int .i64 W, .int .i64 H, ms, .int .i64 X, .int .i64 Y, .int .i64 s, .int .i64 al, .int .i64 ca, .int .i64 cb, .int .i64 cc, .int .i64 cd] 30 true] rfl rfl (by kernel_rfl) (by kernel_rfl) ?_
  refine cont_recast 30 (.int .i64 (IntKind.i64.wrap (Y + (((cutR ca cb cc cd 0 0 W H).y0) * s)))) (.int .i64 (Y + (((cutR ca cb cc cd 0 0 W H).y0) * s))) rfl (wrapI (by omega) (by omega)) ?_
  refine batch0 [0, 0, 2, 0, 0, 0, 2, 0] 26 12 [(1, .pointer (some ⟨b1, 0, none⟩)), (2, .pointer (some ⟨b2, 0, none⟩)), (3, .pointer (some ⟨b7, 0, none⟩)), (21, .int .i64 (X + (((cutR ca cb cc cd 0 0 W H).x0) * s))), (30, .int .i64 (Y + (((cutR ca cb cc cd 0 0 W H).y0) * s))), (33, .int .i64 X), (38, .int .i64 (IntKind.i64.wrap (((cutR ca cb cc cd 0 0 W H).x1) * s)))] [.cells b7 [.int .i64 ((cutR ca cb cc cd 0 0 W H).x0), .int .i64 ((cutR ca cb cc cd 0 0 W H).y0), .int .i64 ((cutR ca cb cc cd 0 0 W H).x1), .int .i64 ((cutR ca cb cc cd 0 0 W H).y1)] 28 true, .cells b2 [.int .i64 0, .int .i64 0, .int .i64 0, .int .i64 0] 28 true, .cells b1 [.bool sm, .int .i64 W, .int .i64 H, ms, .int .i64 X, .int .i64 Y, .int .i64 s, .int .i64 al, .int .i64 ca, .int .i64 cb, .int .i64 cc, .int .i64 cd] 30 true] rfl rfl (by kernel_rfl) (by kernel_rfl) ?_
  refine cont_recast 38 (.int .i64 (IntKind.i64.wrap (((cutR ca cb cc cd 0 0 W H).x1) * s))) (.int .i64 (((cutR ca cb cc cd 0 0 W H).x1) * s)) rfl (wrapI (by omega) (by omega)) ?_
  refine batch0 [0] 27 11 [(1, .pointer (some ⟨b1, 0, none⟩)), (2, .pointer (some ⟨b2, 0, none⟩)), (3, .pointer (some ⟨b7, 0, none⟩)), (21, .int .i64 (X + (((cutR ca cb cc cd 0 0 W H).x0) * s))), (30, .int .i64 (Y + (((cutR ca cb cc cd 0 0 W H).y0) * s))), (39, .int .i64 (IntKind.i64.wrap (X + (((cutR ca cb cc cd 0 0 W H).x1) * s))))] [.cells b7 [.int .i64 ((cutR ca cb cc cd 0 0 W H).x0), .int .i64 ((cutR ca cb cc cd 0 0 W H).y0), .int .i64 ((cutR ca cb cc cd 0 0 W H).x1), .int .i64 ((cutR ca cb cc cd 0 0 W H).y1)] 28 true, .cells b2 [.int .i64 0, .int .i64 0, .int .i64 0, .int .i64 0] 28 true, .cells b1 [.bool sm, .int .i64 W, .int .i64 H, ms, .int .i64 X, .int .i64 Y, .int .i64 s, .int .i64 al, .int .i64 ca, .int .i64 cb, .int .i64 cc, .int .i64 cd] 30 true] rfl rfl (by kernel_rfl) (by kernel_rfl) ?_
  refine cont_recast 39 (.int .i64 (IntKind.i64.wrap (X + (((cutR ca cb cc cd 0 0 W H).x1) * s)))) (.int .i64 (X + (((cutR ca cb cc cd 0 0 W H).x1) * s))) rfl (wrapI (by omega) (by omega)) ?_
  refine batch0 [0, 0, 2, 0, 0, 0, 2, 0] 35 3 [(2, .pointer (some ⟨b2, 0, none⟩)), (21, .int .i64 (X + (((cutR ca cb cc cd 0 0 W H).x0) * s))), (30, .int .i64 (Y + (((cutR ca cb cc cd 0 0 W H).y0) * s))), (39, .int .i64 (X + (((cutR ca cb cc cd 0 0 W H).x1) * s))), (42, .int .i64 Y), (47, .int .i64 (IntKind.i64.wrap (((cutR ca cb cc cd 0 0 W H).y1) * s)))] [.cells b7 [.int .i64 ((cutR ca cb cc cd 0 0 W H).x0), .int .i64 ((cutR ca cb cc cd 0 0 W H).y0), .int .i64 ((cutR ca cb cc cd 0 0 W H).x1), .int .i64 ((cutR ca cb cc cd 0 0 W H).y1)] 28 true, .cells b2 [.int .i64 0, .int .i64 0, .int .i64 0, .int .i64 0] 28 true, .cells b1 [.bool sm, .int .i64 W, .int .i64 H, ms, .int .i64 X, .int .i64 Y, .int .i64 s, .int .i64 al, .int .i64 ca, .int .i64 cb, .int .i64 cc, .int .i64 cd] 30 true] rfl rfl (by kernel_rfl) (by kernel_rfl) ?_
  refine cont_recast 47 (.int .i64 (IntKind.i64.wrap (((cutR ca cb cc cd 0 0 W H).y1) * s))) (.int .i64 (((cutR ca cb cc cd 0 0 W H).y1) * s)) rfl (wrapI (by omega) (by omega)) ?_
  refine cont_forget 0 rfl ?_
  refine cont_forget 1 rfl ?_
  refine batch0 [0] 36 2 [(2, .pointer (some ⟨b2, 0, none⟩)), (21, .int .i64 (X + (((cutR ca cb cc cd 0 0 W H).x0) * s))), (30, .int .i64 (Y + (((cutR ca cb cc cd 0 0 W H).y0) * s))), (39, .int .i64 (X + (((cutR ca cb cc cd 0 0 W H).x1) * s))), (48, .int .i64 (IntKind.i64.wrap (Y + (((cutR ca cb cc cd 0 0 W H).y1) * s))))] [.cells b2 [.int .i64 0, .int .i64 0, .int .i64 0, .int .i64 0] 28 true] rfl rfl (by kernel_rfl) (by kernel_rfl) ?_
  refine cont_recast 48 (.int .i64 (IntKind.i64.wrap (Y + (((cutR ca cb cc cd 0 0 W H).y1) * s)))) (.int .i64 (Y + (((cutR ca cb cc cd 0 0 W H).y1) * s))) rfl (wrapI (by omega) (by omega)) ?_
  refine batch0 [0, 0] 38 0 [(2, .pointer (some ⟨b2, 0, none⟩))] [.cells b2 [.int .i64 (X + (((cutR ca cb cc cd 0 0 W H).x0) * s)), .int .i64 (Y + (((cutR ca cb cc cd 0 0 W H).y0) * s)), .int .i64 (X + (((cutR ca cb cc cd 0 0 W H).x1) * s)), .int .i64 (Y + (((cutR ca cb cc cd 0 0 W H).y1) * s))] 28 true] rfl rfl (by kernel_rfl) (by kernel_rfl) ?_
  refine cont_done ?_
  refine then_normal ?_
  refine cont_ret ?_
  refine ret_one (.inl rfl) rfl 0 (.agg #[.int .i64 (X + (((cutR ca cb cc cd 0 0 W H).x0) * s)), .int .i64 (Y + (((cutR ca cb cc cd 0 0 W H).y0) * s)), .int .i64 (X + (((cutR ca cb cc cd 0 0 W H).x1) * s)), .int .i64 (Y + (((cutR ca cb cc cd 0 0 W H).y1) * s))]) (by kernel_rfl) (by kernel_rfl) (fun w hT => ?_)
  exact ⟨by simp [rboxR, *], hT.post rfl⟩

end Go.Proofs.Ytgpcgfjfmjehgaa
