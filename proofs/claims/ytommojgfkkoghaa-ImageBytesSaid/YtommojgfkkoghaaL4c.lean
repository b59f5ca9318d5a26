/- Contracts of functions of the given program, printed by a program of this project. -/
import Derived.Test.YtommojgfkkoghaaL4b
import Derived.Test.YtommojgfkkoghaaRd
import Derived.Test.YtommojgfkkoghaaProg
set_option linter.unusedVariables false
set_option linter.unusedSimpArgs false
namespace Go.Proofs.Ytommojgfkkoghaa
open Go Go.RowKit
set_option maxRecDepth 100000
set_option maxHeartbeats 8000000

theorem refEmpty (a b c d : Int) (w : World) :
    Calls Try.prog 45 #[.agg #[.int .i64 a, .int .i64 b, .int .i64 c, .int .i64 d]] w fun e w' => e = .returned (.bool (emptyB a b c d)) ∧ Below w.heap.size w w' := by
 refine enter 15 [(0, .agg #[iq a, iq b, iq c, iq d])] [] Try.func45 rfl Try.ntmps45 rfl (by kernel_rfl) (Tab.start w) ?_
 refine cont_seq ?_
 refine cont_region 2 rfl ?_
 refine batch1 [0, 0] 2 0 (fun b1 => [(1, .pointer (pB b1))]) (fun b1 => [.cells b1 [iq a, iq b, iq c, iq d] 32 true]) rfl rfl [1] (fun _ => rfl) (fun b1 => by kernel_rfl) (fun b1 => by kernel_rfl) (fun b1 => ?_)
 refine cont_done ?_
 refine then_normal ?_
 refine cont_seq ?_
 refine cont_region 13 rfl ?_
 refine bS [0, 0, 0, 0, 0, 0] 6 7 [(1, .pointer (pB b1)), (8, .bool (decide (a ≥ c)))] ?_
 refine cont_split 8 (decide (a ≥ c)) rfl (fun c2_ => ?_) (fun c2_ => ?_)
 ·
  replace c2_ := of_decide_eq_true c2_
  refine bS [0, 0, 0, 0, 0, 0, 0] 13 0 [(2, .bool true)] ?_
  refine cont_forget 0 rfl ?_
  refine cont_done ?_
  refine then_normal ?_
  refine cont_ret ?_
  refine ret_one (.inl rfl) rfl 0 (.bool true) (by kernel_rfl) (by kernel_rfl) (fun w hT => ?_)
  exact ⟨ret_bool (by simp [emptyB, *] <;> omega), hT.post rfl⟩
 replace c2_ := of_decide_eq_false c2_
 refine bS [0, 0, 0, 0, 0, 0, 0] 13 0 [(2, .bool (decide (b ≥ d)))] ?_
 refine cont_forget 0 rfl ?_
 refine cont_done ?_
 refine then_normal ?_
 refine cont_ret ?_
 refine ret_one (.inl rfl) rfl 0 (.bool (decide (b ≥ d))) (by kernel_rfl) (by kernel_rfl) (fun w hT => ?_)
 exact ⟨ret_bool (by simp [emptyB, *] <;> omega), hT.post rfl⟩

theorem refArea (a b c d : Int) (w : World) (ha : -2000000 ≤ a ∧ a ≤ 2000000) (hb : -2000000 ≤ b ∧ b ≤ 2000000) (hc : -2000000 ≤ c ∧ c ≤ 2000000) (hd : -2000000 ≤ d ∧ d ≤ 2000000) :
    Calls Try.prog 38 #[.agg #[.int .i64 a, .int .i64 b, .int .i64 c, .int .i64 d]] w fun e w' => e = .returned (.int .i64 (areaI a b c d)) ∧ Below w.heap.size w w' := by
 refine enter 16 [(0, .agg #[iq a, iq b, iq c, iq d])] [] Try.func38 rfl Try.ntmps38 rfl (by kernel_rfl) (Tab.start w) ?_
 refine cont_seq ?_
 refine cont_region 2 rfl ?_
 refine batch1 [0, 0] 2 0 (fun b1 => [(1, .pointer (pB b1))]) (fun b1 => [.cells b1 [iq a, iq b, iq c, iq d] 32 true]) rfl rfl [1] (fun _ => rfl) (fun b1 => by kernel_rfl) (fun b1 => by kernel_rfl) (fun b1 => ?_)
 refine cont_done ?_
 refine then_normal ?_
 refine cont_seq ?_
 refine cont_seq ?_
 refine cont_region 2 rfl ?_
 refine bS [0] 1 1 [(1, .pointer (pB b1)), (3, .agg #[iq a, iq b, iq c, iq d])] ?_
 refine pl_step 2 0 rfl rfl ?_
 refine call_pure (d := 4) (.bool (emptyB a b c d)) (by kernel_rfl) (fun w hT => refEmpty a b c d w) ?_
 refine cont_done ?_
 refine then_normal ?_
 refine cont_split 4 (emptyB a b c d) rfl (fun c2_ => ?_) (fun c2_ => ?_)
 ·
  refine cont_true rfl ?_
  refine cont_seq ?_
  refine cont_region 1 rfl ?_
  refine bS [0] 1 0 [(2, iq 0)] ?_
  refine cont_forget 0 rfl ?_
  refine cont_done ?_
  refine then_normal ?_
  refine cont_ret ?_
  refine then_ret ?_
  refine ret_one (.inl rfl) rfl 0 (iq 0) (by kernel_rfl) (by kernel_rfl) (fun w hT => ?_)
  exact ⟨ret_int (by simp [areaI, *]), hT.post rfl⟩
 have hem := emptyB_false.1 c2_
 have hp : (c - a) * (d - b) ≤ 4000000 * 4000000 := mul_le_of (by omega) (by omega) (by omega) (by omega)
 have hq : 0 ≤ (c - a) * (d - b) := Int.mul_nonneg (by omega) (by omega)
 refine cont_false rfl ?_
 refine cont_skip ?_
 refine then_normal ?_
 refine cont_seq ?_
 refine cont_region 12 rfl ?_
 refine bS [0, 0, 0, 0, 0] 5 7 [(1, .pointer (pB b1)), (9, iq (IntKind.i64.wrap (c - a)))] ?_
 refine cont_recast 9 (iq (IntKind.i64.wrap (c - a))) (iq (c - a)) rfl (wrapI (by omega) (by omega)) ?_
 refine bS [0, 0, 0, 0, 0] 10 2 [(9, iq (c - a)), (14, iq (IntKind.i64.wrap (d - b)))] ?_
 refine cont_recast 14 (iq (IntKind.i64.wrap (d - b))) (iq (d - b)) rfl (wrapI (by omega) (by omega)) ?_
 refine cont_forget 0 rfl ?_
 refine bS [0] 11 1 [(15, iq (IntKind.i64.wrap ((c - a) * (d - b))))] ?_
 refine cont_recast 15 (iq (IntKind.i64.wrap ((c - a) * (d - b)))) (iq ((c - a) * (d - b))) rfl (wrapI (by omega) (by omega)) ?_
 refine bS [0] 12 0 [(2, iq ((c - a) * (d - b)))] ?_
 refine cont_done ?_
 refine then_normal ?_
 refine cont_ret ?_
 refine ret_one (.inl rfl) rfl 0 (iq ((c - a) * (d - b))) (by kernel_rfl) (by kernel_rfl) (fun w hT => ?_)
 exact ⟨ret_int (by simp [areaI, *]), hT.post rfl⟩

theorem refCut (a b c d a' b' c' d' : Int) (w : World) :
    Calls Try.prog 18 #[.agg #[.int .i64 a, .int .i64 b, .int .i64 c, .int .i64 d], .agg #[.int .i64 a', .int .i64 b', .int .i64 c', .int .i64 d']] w fun e w' => e = .returned (.agg #[.int .i64 ((cutR a b c d a' b' c' d').x0), .int .i64 ((cutR a b c d a' b' c' d').y0), .int .i64 ((cutR a b c d a' b' c' d').x1), .int .i64 ((cutR a b c d a' b' c' d').y1)]) ∧ Below w.heap.size w w' := by
 refine enter 43 [(0, .agg #[iq a, iq b, iq c, iq d]), (1, .agg #[iq a', iq b', iq c', iq d'])] [] Try.func18 rfl Try.ntmps18 rfl (by kernel_rfl) (Tab.start w) ?_
 refine cont_seq ?_
 refine cont_region 3 rfl ?_
 refine batch3 [0, 0, 0] 3 0 (fun b1 b2 b3 => [(2, .pointer (pB b1)), (3, .pointer (pB b2)), (4, .pointer (pB b3))]) (fun b1 b2 b3 => [.cells b3 [iq 0, iq 0, iq 0, iq 0] 32 true, .cells b2 [iq a', iq b', iq c', iq d'] 32 true, .cells b1 [iq a, iq b, iq c, iq d] 32 true]) rfl rfl [2, 3, 4] (fun _ _ _ => rfl) (fun b1 b2 b3 => by kernel_rfl) (fun b1 b2 b3 => by kernel_rfl) (fun b1 b2 b3 => ?_)
 refine cont_done ?_
 refine then_normal ?_
 refine cont_seq ?_
 refine cont_region 3 rfl ?_
 refine batch1 [2, 0, 0] 3 0 (fun b4 => [(3, .pointer (pB b2)), (4, .pointer (pB b3)), (5, .pointer (pB b4))]) (fun b4 => [.cells b4 [iq a, iq b, iq c, iq d] 32 true, .cells b3 [iq 0, iq 0, iq 0, iq 0] 32 true, .cells b2 [iq a', iq b', iq c', iq d'] 32 true, .cells b1 [iq a, iq b, iq c, iq d] 32 true]) rfl rfl [3, 4, 5] (fun _ => rfl) (fun b4 => by kernel_rfl) (fun b4 => by kernel_rfl) (fun b4 => ?_)
 refine cont_forget 3 rfl ?_
 refine cont_done ?_
 refine then_normal ?_
 refine cont_seq ?_
 refine cont_seq ?_
 refine cont_region 5 rfl ?_
 refine bS [0, 2, 0, 0, 0] 5 0 [(3, .pointer (pB b2)), (4, .pointer (pB b3)), (5, .pointer (pB b4)), (11, .bool (decide (a' > a)))] ?_
 refine cont_done ?_
 refine then_normal ?_
 refine cont_split 11 (decide (a' > a)) rfl (fun c5_ => ?_) (fun c5_ => ?_)
 ·
  replace c5_ := of_decide_eq_true c5_
  refine cont_true rfl ?_
  refine cont_region 4 rfl ?_
  refine batch0 [0, 2, 0, 0] 4 0 [(3, .pointer (pB b2)), (4, .pointer (pB b3)), (5, .pointer (pB b4))] [.cells b4 [iq a', iq b, iq c, iq d] 32 true, .cells b3 [iq 0, iq 0, iq 0, iq 0] 32 true, .cells b2 [iq a', iq b', iq c', iq d'] 32 true] rfl rfl (by kernel_rfl) (by kernel_rfl) ?_
  refine cont_done ?_
  refine then_normal ?_
  refine cont_seq ?_
  refine cont_seq ?_
  refine cont_region 5 rfl ?_
  refine bS [0, 2, 0, 0, 0] 5 0 [(3, .pointer (pB b2)), (4, .pointer (pB b3)), (5, .pointer (pB b4)), (19, .bool (decide (b' > b)))] ?_
  refine cont_done ?_
  refine then_normal ?_
  refine cont_split 19 (decide (b' > b)) rfl (fun c6_ => ?_) (fun c6_ => ?_)
  ·
   replace c6_ := of_decide_eq_true c6_
   refine cont_true rfl ?_
   refine cont_region 4 rfl ?_
   refine batch0 [0, 2, 0, 0] 4 0 [(3, .pointer (pB b2)), (4, .pointer (pB b3)), (5, .pointer (pB b4))] [.cells b4 [iq a', iq b', iq c, iq d] 32 true, .cells b3 [iq 0, iq 0, iq 0, iq 0] 32 true, .cells b2 [iq a', iq b', iq c', iq d'] 32 true] rfl rfl (by kernel_rfl) (by kernel_rfl) ?_
   refine cont_done ?_
   refine then_normal ?_
   refine cont_seq ?_
   refine cont_seq ?_
   refine cont_region 5 rfl ?_
   refine bS [0, 2, 0, 0, 0] 5 0 [(3, .pointer (pB b2)), (4, .pointer (pB b3)), (5, .pointer (pB b4)), (27, .bool (decide (c' < c)))] ?_
   refine cont_done ?_
   refine then_normal ?_
   refine cont_split 27 (decide (c' < c)) rfl (fun c7_ => ?_) (fun c7_ => ?_)
   ·
    replace c7_ := of_decide_eq_true c7_
    refine cont_true rfl ?_
    refine cont_region 4 rfl ?_
    refine batch0 [0, 2, 0, 0] 4 0 [(3, .pointer (pB b2)), (4, .pointer (pB b3)), (5, .pointer (pB b4))] [.cells b4 [iq a', iq b', iq c', iq d] 32 true, .cells b3 [iq 0, iq 0, iq 0, iq 0] 32 true, .cells b2 [iq a', iq b', iq c', iq d'] 32 true] rfl rfl (by kernel_rfl) (by kernel_rfl) ?_
    refine cont_done ?_
    refine then_normal ?_
    refine cont_seq ?_
    refine cont_seq ?_
    refine cont_region 5 rfl ?_
    refine bS [0, 2, 0, 0, 0] 5 0 [(3, .pointer (pB b2)), (4, .pointer (pB b3)), (5, .pointer (pB b4)), (35, .bool (decide (d' < d)))] ?_
    refine cont_done ?_
    refine then_normal ?_
    refine cont_split 35 (decide (d' < d)) rfl (fun c8_ => ?_) (fun c8_ => ?_)
    ·
     replace c8_ := of_decide_eq_true c8_
     refine cont_true rfl ?_
     refine cont_region 4 rfl ?_
     refine batch0 [0, 2, 0, 0] 4 0 [(4, .pointer (pB b3)), (5, .pointer (pB b4))] [.cells b4 [iq a', iq b', iq c', iq d'] 32 true, .cells b3 [iq 0, iq 0, iq 0, iq 0] 32 true, .cells b2 [iq a', iq b', iq c', iq d'] 32 true] rfl rfl (by kernel_rfl) (by kernel_rfl) ?_
     refine cont_forget 2 rfl ?_
     refine cont_done ?_
     refine then_normal ?_
     refine cont_seq ?_
     refine cont_seq ?_
     refine cont_region 2 rfl ?_
     refine bS [0] 1 1 [(4, .pointer (pB b3)), (5, .pointer (pB b4)), (39, .agg #[iq a', iq b', iq c', iq d'])] ?_
     refine pl_step 2 0 rfl rfl ?_
     refine call_pure (d := 40) (.bool (emptyB a' b' c' d')) (by kernel_rfl) (fun w hT => refEmpty a' b' c' d' w) ?_
     refine cont_done ?_
     refine then_normal ?_
     refine cont_split 40 (emptyB a' b' c' d') rfl (fun c9_ => ?_) (fun c9_ => ?_)
     ·
      refine cont_true rfl ?_
      refine cont_seq ?_
      refine cont_region 2 rfl ?_
      refine bS [0, 1] 2 0 [(4, .pointer (pB b3))] ?_
      refine cont_forget 0 rfl ?_
      refine cont_done ?_
      refine then_normal ?_
      refine cont_ret ?_
      refine then_ret ?_
      refine ret_one (.inl rfl) rfl 0 (.agg #[iq 0, iq 0, iq 0, iq 0]) (by kernel_rfl) (by kernel_rfl) (fun w hT => ?_)
      have he_ := emptyB_true.1 ‹_›
      exact ⟨by rw [cutR, emptyB_true.2 (by omega)]; rfl, hT.post rfl⟩
     refine cont_false rfl ?_
     refine cont_skip ?_
     refine then_normal ?_
     refine cont_seq ?_
     refine cont_region 2 rfl ?_
     refine batch0 [0, 1] 2 0 [(4, .pointer (pB b3))] [.cells b4 [iq a', iq b', iq c', iq d'] 32 true, .cells b3 [iq a', iq b', iq c', iq d'] 32 true] rfl rfl (by kernel_rfl) (by kernel_rfl) ?_
     refine cont_forget 0 rfl ?_
     refine cont_done ?_
     refine then_normal ?_
     refine cont_ret ?_
     refine ret_one (.inl rfl) rfl 0 (.agg #[iq a', iq b', iq c', iq d']) (by kernel_rfl) (by kernel_rfl) (fun w hT => ?_)
     have he_ := emptyB_false.1 ‹_›
     exact ⟨by rw [cutR, show max a a' = a' by omega, show max b b' = b' by omega, show min c c' = c' by omega, show min d d' = d' by omega, emptyB_false.2 he_]; rfl, hT.post rfl⟩
    replace c8_ := of_decide_eq_false c8_
    refine cont_false rfl ?_
    refine cont_skip ?_
    refine then_normal ?_
    refine cont_seq ?_
    refine cont_seq ?_
    refine cont_region 2 rfl ?_
    refine bS [0] 1 1 [(4, .pointer (pB b3)), (5, .pointer (pB b4)), (39, .agg #[iq a', iq b', iq c', iq d])] ?_
    refine cont_forget 2 rfl ?_
    refine pl_step 2 0 rfl rfl ?_
    refine call_pure (d := 40) (.bool (emptyB a' b' c' d)) (by kernel_rfl) (fun w hT => refEmpty a' b' c' d w) ?_
    refine cont_done ?_
    refine then_normal ?_
    refine cont_split 40 (emptyB a' b' c' d) rfl (fun c10_ => ?_) (fun c10_ => ?_)
    ·
     refine cont_true rfl ?_
     refine cont_seq ?_
     refine cont_region 2 rfl ?_
     refine bS [0, 1] 2 0 [(4, .pointer (pB b3))] ?_
     refine cont_forget 0 rfl ?_
     refine cont_done ?_
     refine then_normal ?_
     refine cont_ret ?_
     refine then_ret ?_
     refine ret_one (.inl rfl) rfl 0 (.agg #[iq 0, iq 0, iq 0, iq 0]) (by kernel_rfl) (by kernel_rfl) (fun w hT => ?_)
     have he_ := emptyB_true.1 ‹_›
     exact ⟨by rw [cutR, emptyB_true.2 (by omega)]; rfl, hT.post rfl⟩
    refine cont_false rfl ?_
    refine cont_skip ?_
    refine then_normal ?_
    refine cont_seq ?_
    refine cont_region 2 rfl ?_
    refine batch0 [0, 1] 2 0 [(4, .pointer (pB b3))] [.cells b4 [iq a', iq b', iq c', iq d] 32 true, .cells b3 [iq a', iq b', iq c', iq d] 32 true] rfl rfl (by kernel_rfl) (by kernel_rfl) ?_
    refine cont_forget 0 rfl ?_
    refine cont_done ?_
    refine then_normal ?_
    refine cont_ret ?_
    refine ret_one (.inl rfl) rfl 0 (.agg #[iq a', iq b', iq c', iq d]) (by kernel_rfl) (by kernel_rfl) (fun w hT => ?_)
    have he_ := emptyB_false.1 ‹_›
    exact ⟨by rw [cutR, show max a a' = a' by omega, show max b b' = b' by omega, show min c c' = c' by omega, show min d d' = d by omega, emptyB_false.2 he_]; rfl, hT.post rfl⟩
   replace c7_ := of_decide_eq_false c7_
   refine cont_false rfl ?_
   refine cont_skip ?_
   refine then_normal ?_
   refine cont_seq ?_
   refine cont_seq ?_
   refine cont_region 5 rfl ?_
   refine bS [0, 2, 0, 0, 0] 5 0 [(3, .pointer (pB b2)), (4, .pointer (pB b3)), (5, .pointer (pB b4)), (35, .bool (decide (d' < d)))] ?_
   refine cont_done ?_
   refine then_normal ?_
   refine cont_split 35 (decide (d' < d)) rfl (fun c11_ => ?_) (fun c11_ => ?_)
   ·
    replace c11_ := of_decide_eq_true c11_
    refine cont_true rfl ?_
    refine cont_region 4 rfl ?_
    refine batch0 [0, 2, 0, 0] 4 0 [(4, .pointer (pB b3)), (5, .pointer (pB b4))] [.cells b4 [iq a', iq b', iq c, iq d'] 32 true, .cells b3 [iq 0, iq 0, iq 0, iq 0] 32 true, .cells b2 [iq a', iq b', iq c', iq d'] 32 true] rfl rfl (by kernel_rfl) (by kernel_rfl) ?_
    refine cont_forget 2 rfl ?_
    refine cont_done ?_
    refine then_normal ?_
    refine cont_seq ?_
    refine cont_seq ?_
    refine cont_region 2 rfl ?_
    refine bS [0] 1 1 [(4, .pointer (pB b3)), (5, .pointer (pB b4)), (39, .agg #[iq a', iq b', iq c, iq d'])] ?_
    refine pl_step 2 0 rfl rfl ?_
    refine call_pure (d := 40) (.bool (emptyB a' b' c d')) (by kernel_rfl) (fun w hT => refEmpty a' b' c d' w) ?_
    refine cont_done ?_
    refine then_normal ?_
    refine cont_split 40 (emptyB a' b' c d') rfl (fun c12_ => ?_) (fun c12_ => ?_)
    ·
     refine cont_true rfl ?_
     refine cont_seq ?_
     refine cont_region 2 rfl ?_
     refine bS [0, 1] 2 0 [(4, .pointer (pB b3))] ?_
     refine cont_forget 0 rfl ?_
     refine cont_done ?_
     refine then_normal ?_
     refine cont_ret ?_
     refine then_ret ?_
     refine ret_one (.inl rfl) rfl 0 (.agg #[iq 0, iq 0, iq 0, iq 0]) (by kernel_rfl) (by kernel_rfl) (fun w hT => ?_)
     have he_ := emptyB_true.1 ‹_›
     exact ⟨by rw [cutR, emptyB_true.2 (by omega)]; rfl, hT.post rfl⟩
    refine cont_false rfl ?_
    refine cont_skip ?_
    refine then_normal ?_
    refine cont_seq ?_
    refine cont_region 2 rfl ?_
    refine batch0 [0, 1] 2 0 [(4, .pointer (pB b3))] [.cells b4 [iq a', iq b', iq c, iq d'] 32 true, .cells b3 [iq a', iq b', iq c, iq d'] 32 true] rfl rfl (by kernel_rfl) (by kernel_rfl) ?_
    refine cont_forget 0 rfl ?_
    refine cont_done ?_
    refine then_normal ?_
    refine cont_ret ?_
    refine ret_one (.inl rfl) rfl 0 (.agg #[iq a', iq b', iq c, iq d']) (by kernel_rfl) (by kernel_rfl) (fun w hT => ?_)
    have he_ := emptyB_false.1 ‹_›
    exact ⟨by rw [cutR, show max a a' = a' by omega, show max b b' = b' by omega, show min c c' = c by omega, show min d d' = d' by omega, emptyB_false.2 he_]; rfl, hT.post rfl⟩
   replace c11_ := of_decide_eq_false c11_
   refine cont_false rfl ?_
   refine cont_skip ?_
   refine then_normal ?_
   refine cont_seq ?_
   refine cont_seq ?_
   refine cont_region 2 rfl ?_
   refine bS [0] 1 1 [(4, .pointer (pB b3)), (5, .pointer (pB b4)), (39, .agg #[iq a', iq b', iq c, iq d])] ?_
   refine cont_forget 2 rfl ?_
   refine pl_step 2 0 rfl rfl ?_
   refine call_pure (d := 40) (.bool (emptyB a' b' c d)) (by kernel_rfl) (fun w hT => refEmpty a' b' c d w) ?_
   refine cont_done ?_
   refine then_normal ?_
   refine cont_split 40 (emptyB a' b' c d) rfl (fun c13_ => ?_) (fun c13_ => ?_)
   ·
    refine cont_true rfl ?_
    refine cont_seq ?_
    refine cont_region 2 rfl ?_
    refine bS [0, 1] 2 0 [(4, .pointer (pB b3))] ?_
    refine cont_forget 0 rfl ?_
    refine cont_done ?_
    refine then_normal ?_
    refine cont_ret ?_
    refine then_ret ?_
    refine ret_one (.inl rfl) rfl 0 (.agg #[iq 0, iq 0, iq 0, iq 0]) (by kernel_rfl) (by kernel_rfl) (fun w hT => ?_)
    have he_ := emptyB_true.1 ‹_›
    exact ⟨by rw [cutR, emptyB_true.2 (by omega)]; rfl, hT.post rfl⟩
   refine cont_false rfl ?_
   refine cont_skip ?_
   refine then_normal ?_
   refine cont_seq ?_
   refine cont_region 2 rfl ?_
   refine batch0 [0, 1] 2 0 [(4, .pointer (pB b3))] [.cells b4 [iq a', iq b', iq c, iq d] 32 true, .cells b3 [iq a', iq b', iq c, iq d] 32 true] rfl rfl (by kernel_rfl) (by kernel_rfl) ?_
   refine cont_forget 0 rfl ?_
   refine cont_done ?_
   refine then_normal ?_
   refine cont_ret ?_
   refine ret_one (.inl rfl) rfl 0 (.agg #[iq a', iq b', iq c, iq d]) (by kernel_rfl) (by kernel_rfl) (fun w hT => ?_)
   have he_ := emptyB_false.1 ‹_›
   exact ⟨by rw [cutR, show max a a' = a' by omega, show max b b' = b' by omega, show min c c' = c by omega, show min d d' = d by omega, emptyB_false.2 he_]; rfl, hT.post rfl⟩
  replace c6_ := of_decide_eq_false c6_
  refine cont_false rfl ?_
  refine cont_skip ?_
  refine then_normal ?_
  refine cont_seq ?_
  refine cont_seq ?_
  refine cont_region 5 rfl ?_
  refine bS [0, 2, 0, 0, 0] 5 0 [(3, .pointer (pB b2)), (4, .pointer (pB b3)), (5, .pointer (pB b4)), (27, .bool (decide (c' < c)))] ?_
  refine cont_done ?_
  refine then_normal ?_
  refine cont_split 27 (decide (c' < c)) rfl (fun c14_ => ?_) (fun c14_ => ?_)
  ·
   replace c14_ := of_decide_eq_true c14_
   refine cont_true rfl ?_
   refine cont_region 4 rfl ?_
   refine batch0 [0, 2, 0, 0] 4 0 [(3, .pointer (pB b2)), (4, .pointer (pB b3)), (5, .pointer (pB b4))] [.cells b4 [iq a', iq b, iq c', iq d] 32 true, .cells b3 [iq 0, iq 0, iq 0, iq 0] 32 true, .cells b2 [iq a', iq b', iq c', iq d'] 32 true] rfl rfl (by kernel_rfl) (by kernel_rfl) ?_
   refine cont_done ?_
   refine then_normal ?_
   refine cont_seq ?_
   refine cont_seq ?_
   refine cont_region 5 rfl ?_
   refine bS [0, 2, 0, 0, 0] 5 0 [(3, .pointer (pB b2)), (4, .pointer (pB b3)), (5, .pointer (pB b4)), (35, .bool (decide (d' < d)))] ?_
   refine cont_done ?_
   refine then_normal ?_
   refine cont_split 35 (decide (d' < d)) rfl (fun c15_ => ?_) (fun c15_ => ?_)
   ·
    replace c15_ := of_decide_eq_true c15_
    refine cont_true rfl ?_
    refine cont_region 4 rfl ?_
    refine batch0 [0, 2, 0, 0] 4 0 [(4, .pointer (pB b3)), (5, .pointer (pB b4))] [.cells b4 [iq a', iq b, iq c', iq d'] 32 true, .cells b3 [iq 0, iq 0, iq 0, iq 0] 32 true, .cells b2 [iq a', iq b', iq c', iq d'] 32 true] rfl rfl (by kernel_rfl) (by kernel_rfl) ?_
    refine cont_forget 2 rfl ?_
    refine cont_done ?_
    refine then_normal ?_
    refine cont_seq ?_
    refine cont_seq ?_
    refine cont_region 2 rfl ?_
    refine bS [0] 1 1 [(4, .pointer (pB b3)), (5, .pointer (pB b4)), (39, .agg #[iq a', iq b, iq c', iq d'])] ?_
    refine pl_step 2 0 rfl rfl ?_
    refine call_pure (d := 40) (.bool (emptyB a' b c' d')) (by kernel_rfl) (fun w hT => refEmpty a' b c' d' w) ?_
    refine cont_done ?_
    refine then_normal ?_
    refine cont_split 40 (emptyB a' b c' d') rfl (fun c16_ => ?_) (fun c16_ => ?_)
    ·
     refine cont_true rfl ?_
     refine cont_seq ?_
     refine cont_region 2 rfl ?_
     refine bS [0, 1] 2 0 [(4, .pointer (pB b3))] ?_
     refine cont_forget 0 rfl ?_
     refine cont_done ?_
     refine then_normal ?_
     refine cont_ret ?_
     refine then_ret ?_
     refine ret_one (.inl rfl) rfl 0 (.agg #[iq 0, iq 0, iq 0, iq 0]) (by kernel_rfl) (by kernel_rfl) (fun w hT => ?_)
     have he_ := emptyB_true.1 ‹_›
     exact ⟨by rw [cutR, emptyB_true.2 (by omega)]; rfl, hT.post rfl⟩
    refine cont_false rfl ?_
    refine cont_skip ?_
    refine then_normal ?_
    refine cont_seq ?_
    refine cont_region 2 rfl ?_
    refine batch0 [0, 1] 2 0 [(4, .pointer (pB b3))] [.cells b4 [iq a', iq b, iq c', iq d'] 32 true, .cells b3 [iq a', iq b, iq c', iq d'] 32 true] rfl rfl (by kernel_rfl) (by kernel_rfl) ?_
    refine cont_forget 0 rfl ?_
    refine cont_done ?_
    refine then_normal ?_
    refine cont_ret ?_
    refine ret_one (.inl rfl) rfl 0 (.agg #[iq a', iq b, iq c', iq d']) (by kernel_rfl) (by kernel_rfl) (fun w hT => ?_)
    have he_ := emptyB_false.1 ‹_›
    exact ⟨by rw [cutR, show max a a' = a' by omega, show max b b' = b by omega, show min c c' = c' by omega, show min d d' = d' by omega, emptyB_false.2 he_]; rfl, hT.post rfl⟩
   replace c15_ := of_decide_eq_false c15_
   refine cont_false rfl ?_
   refine cont_skip ?_
   refine then_normal ?_
   refine cont_seq ?_
   refine cont_seq ?_
   refine cont_region 2 rfl ?_
   refine bS [0] 1 1 [(4, .pointer (pB b3)), (5, .pointer (pB b4)), (39, .agg #[iq a', iq b, iq c', iq d])] ?_
   refine cont_forget 2 rfl ?_
   refine pl_step 2 0 rfl rfl ?_
   refine call_pure (d := 40) (.bool (emptyB a' b c' d)) (by kernel_rfl) (fun w hT => refEmpty a' b c' d w) ?_
   refine cont_done ?_
   refine then_normal ?_
   refine cont_split 40 (emptyB a' b c' d) rfl (fun c17_ => ?_) (fun c17_ => ?_)
   ·
    refine cont_true rfl ?_
    refine cont_seq ?_
    refine cont_region 2 rfl ?_
    refine bS [0, 1] 2 0 [(4, .pointer (pB b3))] ?_
    refine cont_forget 0 rfl ?_
    refine cont_done ?_
    refine then_normal ?_
    refine cont_ret ?_
    refine then_ret ?_
    refine ret_one (.inl rfl) rfl 0 (.agg #[iq 0, iq 0, iq 0, iq 0]) (by kernel_rfl) (by kernel_rfl) (fun w hT => ?_)
    have he_ := emptyB_true.1 ‹_›
    exact ⟨by rw [cutR, emptyB_true.2 (by omega)]; rfl, hT.post rfl⟩
   refine cont_false rfl ?_
   refine cont_skip ?_
   refine then_normal ?_
   refine cont_seq ?_
   refine cont_region 2 rfl ?_
   refine batch0 [0, 1] 2 0 [(4, .pointer (pB b3))] [.cells b4 [iq a', iq b, iq c', iq d] 32 true, .cells b3 [iq a', iq b, iq c', iq d] 32 true] rfl rfl (by kernel_rfl) (by kernel_rfl) ?_
   refine cont_forget 0 rfl ?_
   refine cont_done ?_
   refine then_normal ?_
   refine cont_ret ?_
   refine ret_one (.inl rfl) rfl 0 (.agg #[iq a', iq b, iq c', iq d]) (by kernel_rfl) (by kernel_rfl) (fun w hT => ?_)
   have he_ := emptyB_false.1 ‹_›
   exact ⟨by rw [cutR, show max a a' = a' by omega, show max b b' = b by omega, show min c c' = c' by omega, show min d d' = d by omega, emptyB_false.2 he_]; rfl, hT.post rfl⟩
  replace c14_ := of_decide_eq_false c14_
  refine cont_false rfl ?_
  refine cont_skip ?_
  refine then_normal ?_
  refine cont_seq ?_
  refine cont_seq ?_
  refine cont_region 5 rfl ?_
  refine bS [0, 2, 0, 0, 0] 5 0 [(3, .pointer (pB b2)), (4, .pointer (pB b3)), (5, .pointer (pB b4)), (35, .bool (decide (d' < d)))] ?_
  refine cont_done ?_
  refine then_normal ?_
  refine cont_split 35 (decide (d' < d)) rfl (fun c18_ => ?_) (fun c18_ => ?_)
  ·
   replace c18_ := of_decide_eq_true c18_
   refine cont_true rfl ?_
   refine cont_region 4 rfl ?_
   refine batch0 [0, 2, 0, 0] 4 0 [(4, .pointer (pB b3)), (5, .pointer (pB b4))] [.cells b4 [iq a', iq b, iq c, iq d'] 32 true, .cells b3 [iq 0, iq 0, iq 0, iq 0] 32 true, .cells b2 [iq a', iq b', iq c', iq d'] 32 true] rfl rfl (by kernel_rfl) (by kernel_rfl) ?_
   refine cont_forget 2 rfl ?_
   refine cont_done ?_
   refine then_normal ?_
   refine cont_seq ?_
   refine cont_seq ?_
   refine cont_region 2 rfl ?_
   refine bS [0] 1 1 [(4, .pointer (pB b3)), (5, .pointer (pB b4)), (39, .agg #[iq a', iq b, iq c, iq d'])] ?_
   refine pl_step 2 0 rfl rfl ?_
   refine call_pure (d := 40) (.bool (emptyB a' b c d')) (by kernel_rfl) (fun w hT => refEmpty a' b c d' w) ?_
   refine cont_done ?_
   refine then_normal ?_
   refine cont_split 40 (emptyB a' b c d') rfl (fun c19_ => ?_) (fun c19_ => ?_)
   ·
    refine cont_true rfl ?_
    refine cont_seq ?_
    refine cont_region 2 rfl ?_
    refine bS [0, 1] 2 0 [(4, .pointer (pB b3))] ?_
    refine cont_forget 0 rfl ?_
    refine cont_done ?_
    refine then_normal ?_
    refine cont_ret ?_
    refine then_ret ?_
    refine ret_one (.inl rfl) rfl 0 (.agg #[iq 0, iq 0, iq 0, iq 0]) (by kernel_rfl) (by kernel_rfl) (fun w hT => ?_)
    have he_ := emptyB_true.1 ‹_›
    exact ⟨by rw [cutR, emptyB_true.2 (by omega)]; rfl, hT.post rfl⟩
   refine cont_false rfl ?_
   refine cont_skip ?_
   refine then_normal ?_
   refine cont_seq ?_
   refine cont_region 2 rfl ?_
   refine batch0 [0, 1] 2 0 [(4, .pointer (pB b3))] [.cells b4 [iq a', iq b, iq c, iq d'] 32 true, .cells b3 [iq a', iq b, iq c, iq d'] 32 true] rfl rfl (by kernel_rfl) (by kernel_rfl) ?_
   refine cont_forget 0 rfl ?_
   refine cont_done ?_
   refine then_normal ?_
   refine cont_ret ?_
   refine ret_one (.inl rfl) rfl 0 (.agg #[iq a', iq b, iq c, iq d']) (by kernel_rfl) (by kernel_rfl) (fun w hT => ?_)
   have he_ := emptyB_false.1 ‹_›
   exact ⟨by rw [cutR, show max a a' = a' by omega, show max b b' = b by omega, show min c c' = c by omega, show min d d' = d' by omega, emptyB_false.2 he_]; rfl, hT.post rfl⟩
  replace c18_ := of_decide_eq_false c18_
  refine cont_false rfl ?_
  refine cont_skip ?_
  refine then_normal ?_
  refine cont_seq ?_
  refine cont_seq ?_
  refine cont_region 2 rfl ?_
  refine bS [0] 1 1 [(4, .pointer (pB b3)), (5, .pointer (pB b4)), (39, .agg #[iq a', iq b, iq c, iq d])] ?_
  refine cont_forget 2 rfl ?_
  refine pl_step 2 0 rfl rfl ?_
  refine call_pure (d := 40) (.bool (emptyB a' b c d)) (by kernel_rfl) (fun w hT => refEmpty a' b c d w) ?_
  refine cont_done ?_
  refine then_normal ?_
  refine cont_split 40 (emptyB a' b c d) rfl (fun c20_ => ?_) (fun c20_ => ?_)
  ·
   refine cont_true rfl ?_
   refine cont_seq ?_
   refine cont_region 2 rfl ?_
   refine bS [0, 1] 2 0 [(4, .pointer (pB b3))] ?_
   refine cont_forget 0 rfl ?_
   refine cont_done ?_
   refine then_normal ?_
   refine cont_ret ?_
   refine then_ret ?_
   refine ret_one (.inl rfl) rfl 0 (.agg #[iq 0, iq 0, iq 0, iq 0]) (by kernel_rfl) (by kernel_rfl) (fun w hT => ?_)
   have he_ := emptyB_true.1 ‹_›
   exact ⟨by rw [cutR, emptyB_true.2 (by omega)]; rfl, hT.post rfl⟩
  refine cont_false rfl ?_
  refine cont_skip ?_
  refine then_normal ?_
  refine cont_seq ?_
  refine cont_region 2 rfl ?_
  refine batch0 [0, 1] 2 0 [(4, .pointer (pB b3))] [.cells b4 [iq a', iq b, iq c, iq d] 32 true, .cells b3 [iq a', iq b, iq c, iq d] 32 true] rfl rfl (by kernel_rfl) (by kernel_rfl) ?_
  refine cont_forget 0 rfl ?_
  refine cont_done ?_
  refine then_normal ?_
  refine cont_ret ?_
  refine ret_one (.inl rfl) rfl 0 (.agg #[iq a', iq b, iq c, iq d]) (by kernel_rfl) (by kernel_rfl) (fun w hT => ?_)
  have he_ := emptyB_false.1 ‹_›
  exact ⟨by rw [cutR, show max a a' = a' by omega, show max b b' = b by omega, show min c c' = c by omega, show min d d' = d by omega, emptyB_false.2 he_]; rfl, hT.post rfl⟩
 replace c5_ := of_decide_eq_false c5_
 refine cont_false rfl ?_
 refine cont_skip ?_
 refine then_normal ?_
 refine cont_seq ?_
 refine cont_seq ?_
 refine cont_region 5 rfl ?_
 refine bS [0, 2, 0, 0, 0] 5 0 [(3, .pointer (pB b2)), (4, .pointer (pB b3)), (5, .pointer (pB b4)), (19, .bool (decide (b' > b)))] ?_
 refine cont_done ?_
 refine then_normal ?_
 refine cont_split 19 (decide (b' > b)) rfl (fun c21_ => ?_) (fun c21_ => ?_)
 ·
  replace c21_ := of_decide_eq_true c21_
  refine cont_true rfl ?_
  refine cont_region 4 rfl ?_
  refine batch0 [0, 2, 0, 0] 4 0 [(3, .pointer (pB b2)), (4, .pointer (pB b3)), (5, .pointer (pB b4))] [.cells b4 [iq a, iq b', iq c, iq d] 32 true, .cells b3 [iq 0, iq 0, iq 0, iq 0] 32 true, .cells b2 [iq a', iq b', iq c', iq d'] 32 true] rfl rfl (by kernel_rfl) (by kernel_rfl) ?_
  refine cont_done ?_
  refine then_normal ?_
  refine cont_seq ?_
  refine cont_seq ?_
  refine cont_region 5 rfl ?_
  refine bS [0, 2, 0, 0, 0] 5 0 [(3, .pointer (pB b2)), (4, .pointer (pB b3)), (5, .pointer (pB b4)), (27, .bool (decide (c' < c)))] ?_
  refine cont_done ?_
  refine then_normal ?_
  refine cont_split 27 (decide (c' < c)) rfl (fun c22_ => ?_) (fun c22_ => ?_)
  ·
   replace c22_ := of_decide_eq_true c22_
   refine cont_true rfl ?_
   refine cont_region 4 rfl ?_
   refine batch0 [0, 2, 0, 0] 4 0 [(3, .pointer (pB b2)), (4, .pointer (pB b3)), (5, .pointer (pB b4))] [.cells b4 [iq a, iq b', iq c', iq d] 32 true, .cells b3 [iq 0, iq 0, iq 0, iq 0] 32 true, .cells b2 [iq a', iq b', iq c', iq d'] 32 true] rfl rfl (by kernel_rfl) (by kernel_rfl) ?_
   refine cont_done ?_
   refine then_normal ?_
   refine cont_seq ?_
   refine cont_seq ?_
   refine cont_region 5 rfl ?_
   refine bS [0, 2, 0, 0, 0] 5 0 [(3, .pointer (pB b2)), (4, .pointer (pB b3)), (5, .pointer (pB b4)), (35, .bool (decide (d' < d)))] ?_
   refine cont_done ?_
   refine then_normal ?_
   refine cont_split 35 (decide (d' < d)) rfl (fun c23_ => ?_) (fun c23_ => ?_)
   ·
    replace c23_ := of_decide_eq_true c23_
    refine cont_true rfl ?_
    refine cont_region 4 rfl ?_
    refine batch0 [0, 2, 0, 0] 4 0 [(4, .pointer (pB b3)), (5, .pointer (pB b4))] [.cells b4 [iq a, iq b', iq c', iq d'] 32 true, .cells b3 [iq 0, iq 0, iq 0, iq 0] 32 true, .cells b2 [iq a', iq b', iq c', iq d'] 32 true] rfl rfl (by kernel_rfl) (by kernel_rfl) ?_
    refine cont_forget 2 rfl ?_
    refine cont_done ?_
    refine then_normal ?_
    refine cont_seq ?_
    refine cont_seq ?_
    refine cont_region 2 rfl ?_
    refine bS [0] 1 1 [(4, .pointer (pB b3)), (5, .pointer (pB b4)), (39, .agg #[iq a, iq b', iq c', iq d'])] ?_
    refine pl_step 2 0 rfl rfl ?_
    refine call_pure (d := 40) (.bool (emptyB a b' c' d')) (by kernel_rfl) (fun w hT => refEmpty a b' c' d' w) ?_
    refine cont_done ?_
    refine then_normal ?_
    refine cont_split 40 (emptyB a b' c' d') rfl (fun c24_ => ?_) (fun c24_ => ?_)
    ·
     refine cont_true rfl ?_
     refine cont_seq ?_
     refine cont_region 2 rfl ?_
     refine bS [0, 1] 2 0 [(4, .pointer (pB b3))] ?_
     refine cont_forget 0 rfl ?_
     refine cont_done ?_
     refine then_normal ?_
     refine cont_ret ?_
     refine then_ret ?_
     refine ret_one (.inl rfl) rfl 0 (.agg #[iq 0, iq 0, iq 0, iq 0]) (by kernel_rfl) (by kernel_rfl) (fun w hT => ?_)
     have he_ := emptyB_true.1 ‹_›
     exact ⟨by rw [cutR, emptyB_true.2 (by omega)]; rfl, hT.post rfl⟩
    refine cont_false rfl ?_
    refine cont_skip ?_
    refine then_normal ?_
    refine cont_seq ?_
    refine cont_region 2 rfl ?_
    refine batch0 [0, 1] 2 0 [(4, .pointer (pB b3))] [.cells b4 [iq a, iq b', iq c', iq d'] 32 true, .cells b3 [iq a, iq b', iq c', iq d'] 32 true] rfl rfl (by kernel_rfl) (by kernel_rfl) ?_
    refine cont_forget 0 rfl ?_
    refine cont_done ?_
    refine then_normal ?_
    refine cont_ret ?_
    refine ret_one (.inl rfl) rfl 0 (.agg #[iq a, iq b', iq c', iq d']) (by kernel_rfl) (by kernel_rfl) (fun w hT => ?_)
    have he_ := emptyB_false.1 ‹_›
    exact ⟨by rw [cutR, show max a a' = a by omega, show max b b' = b' by omega, show min c c' = c' by omega, show min d d' = d' by omega, emptyB_false.2 he_]; rfl, hT.post rfl⟩
   replace c23_ := of_decide_eq_false c23_
   refine cont_false rfl ?_
   refine cont_skip ?_
   refine then_normal ?_
   refine cont_seq ?_
   refine cont_seq ?_
   refine cont_region 2 rfl ?_
   refine bS [0] 1 1 [(4, .pointer (pB b3)), (5, .pointer (pB b4)), (39, .agg #[iq a, iq b', iq c', iq d])] ?_
   refine cont_forget 2 rfl ?_
   refine pl_step 2 0 rfl rfl ?_
   refine call_pure (d := 40) (.bool (emptyB a b' c' d)) (by kernel_rfl) (fun w hT => refEmpty a b' c' d w) ?_
   refine cont_done ?_
   refine then_normal ?_
   refine cont_split 40 (emptyB a b' c' d) rfl (fun c25_ => ?_) (fun c25_ => ?_)
   ·
    refine cont_true rfl ?_
    refine cont_seq ?_
    refine cont_region 2 rfl ?_
    refine bS [0, 1] 2 0 [(4, .pointer (pB b3))] ?_
    refine cont_forget 0 rfl ?_
    refine cont_done ?_
    refine then_normal ?_
    refine cont_ret ?_
    refine then_ret ?_
    refine ret_one (.inl rfl) rfl 0 (.agg #[iq 0, iq 0, iq 0, iq 0]) (by kernel_rfl) (by kernel_rfl) (fun w hT => ?_)
    have he_ := emptyB_true.1 ‹_›
    exact ⟨by rw [cutR, emptyB_true.2 (by omega)]; rfl, hT.post rfl⟩
   refine cont_false rfl ?_
   refine cont_skip ?_
   refine then_normal ?_
   refine cont_seq ?_
   refine cont_region 2 rfl ?_
   refine batch0 [0, 1] 2 0 [(4, .pointer (pB b3))] [.cells b4 [iq a, iq b', iq c', iq d] 32 true, .cells b3 [iq a, iq b', iq c', iq d] 32 true] rfl rfl (by kernel_rfl) (by kernel_rfl) ?_
   refine cont_forget 0 rfl ?_
   refine cont_done ?_
   refine then_normal ?_
   refine cont_ret ?_
   refine ret_one (.inl rfl) rfl 0 (.agg #[iq a, iq b', iq c', iq d]) (by kernel_rfl) (by kernel_rfl) (fun w hT => ?_)
   have he_ := emptyB_false.1 ‹_›
   exact ⟨by rw [cutR, show max a a' = a by omega, show max b b' = b' by omega, show min c c' = c' by omega, show min d d' = d by omega, emptyB_false.2 he_]; rfl, hT.post rfl⟩
  replace c22_ := of_decide_eq_false c22_
  refine cont_false rfl ?_
  refine cont_skip ?_
  refine then_normal ?_
  refine cont_seq ?_
  refine cont_seq ?_
  refine cont_region 5 rfl ?_
  refine bS [0, 2, 0, 0, 0] 5 0 [(3, .pointer (pB b2)), (4, .pointer (pB b3)), (5, .pointer (pB b4)), (35, .bool (decide (d' < d)))] ?_
  refine cont_done ?_
  refine then_normal ?_
  refine cont_split 35 (decide (d' < d)) rfl (fun c26_ => ?_) (fun c26_ => ?_)
  ·
   replace c26_ := of_decide_eq_true c26_
   refine cont_true rfl ?_
   refine cont_region 4 rfl ?_
   refine batch0 [0, 2, 0, 0] 4 0 [(4, .pointer (pB b3)), (5, .pointer (pB b4))] [.cells b4 [iq a, iq b', iq c, iq d'] 32 true, .cells b3 [iq 0, iq 0, iq 0, iq 0] 32 true, .cells b2 [iq a', iq b', iq c', iq d'] 32 true] rfl rfl (by kernel_rfl) (by kernel_rfl) ?_
   refine cont_forget 2 rfl ?_
   refine cont_done ?_
   refine then_normal ?_
   refine cont_seq ?_
   refine cont_seq ?_
   refine cont_region 2 rfl ?_
   refine bS [0] 1 1 [(4, .pointer (pB b3)), (5, .pointer (pB b4)), (39, .agg #[iq a, iq b', iq c, iq d'])] ?_
   refine pl_step 2 0 rfl rfl ?_
   refine call_pure (d := 40) (.bool (emptyB a b' c d')) (by kernel_rfl) (fun w hT => refEmpty a b' c d' w) ?_
   refine cont_done ?_
   refine then_normal ?_
   refine cont_split 40 (emptyB a b' c d') rfl (fun c27_ => ?_) (fun c27_ => ?_)
   ·
    refine cont_true rfl ?_
    refine cont_seq ?_
    refine cont_region 2 rfl ?_
    refine bS [0, 1] 2 0 [(4, .pointer (pB b3))] ?_
    refine cont_forget 0 rfl ?_
    refine cont_done ?_
    refine then_normal ?_
    refine cont_ret ?_
    refine then_ret ?_
    refine ret_one (.inl rfl) rfl 0 (.agg #[iq 0, iq 0, iq 0, iq 0]) (by kernel_rfl) (by kernel_rfl) (fun w hT => ?_)
    have he_ := emptyB_true.1 ‹_›
    exact ⟨by rw [cutR, emptyB_true.2 (by omega)]; rfl, hT.post rfl⟩
   refine cont_false rfl ?_
   refine cont_skip ?_
   refine then_normal ?_
   refine cont_seq ?_
   refine cont_region 2 rfl ?_
   refine batch0 [0, 1] 2 0 [(4, .pointer (pB b3))] [.cells b4 [iq a, iq b', iq c, iq d'] 32 true, .cells b3 [iq a, iq b', iq c, iq d'] 32 true] rfl rfl (by kernel_rfl) (by kernel_rfl) ?_
   refine cont_forget 0 rfl ?_
   refine cont_done ?_
   refine then_normal ?_
   refine cont_ret ?_
   refine ret_one (.inl rfl) rfl 0 (.agg #[iq a, iq b', iq c, iq d']) (by kernel_rfl) (by kernel_rfl) (fun w hT => ?_)
   have he_ := emptyB_false.1 ‹_›
   exact ⟨by rw [cutR, show max a a' = a by omega, show max b b' = b' by omega, show min c c' = c by omega, show min d d' = d' by omega, emptyB_false.2 he_]; rfl, hT.post rfl⟩
  replace c26_ := of_decide_eq_false c26_
  refine cont_false rfl ?_
  refine cont_skip ?_
  refine then_normal ?_
  refine cont_seq ?_
  refine cont_seq ?_
  refine cont_region 2 rfl ?_
  refine bS [0] 1 1 [(4, .pointer (pB b3)), (5, .pointer (pB b4)), (39, .agg #[iq a, iq b', iq c, iq d])] ?_
  refine cont_forget 2 rfl ?_
  refine pl_step 2 0 rfl rfl ?_
  refine call_pure (d := 40) (.bool (emptyB a b' c d)) (by kernel_rfl) (fun w hT => refEmpty a b' c d w) ?_
  refine cont_done ?_
  refine then_normal ?_
  refine cont_split 40 (emptyB a b' c d) rfl (fun c28_ => ?_) (fun c28_ => ?_)
  ·
   refine cont_true rfl ?_
   refine cont_seq ?_
   refine cont_region 2 rfl ?_
   refine bS [0, 1] 2 0 [(4, .pointer (pB b3))] ?_
   refine cont_forget 0 rfl ?_
   refine cont_done ?_
   refine then_normal ?_
   refine cont_ret ?_
   refine then_ret ?_
   refine ret_one (.inl rfl) rfl 0 (.agg #[iq 0, iq 0, iq 0, iq 0]) (by kernel_rfl) (by kernel_rfl) (fun w hT => ?_)
   have he_ := emptyB_true.1 ‹_›
   exact ⟨by rw [cutR, emptyB_true.2 (by omega)]; rfl, hT.post rfl⟩
  refine cont_false rfl ?_
  refine cont_skip ?_
  refine then_normal ?_
  refine cont_seq ?_
  refine cont_region 2 rfl ?_
  refine batch0 [0, 1] 2 0 [(4, .pointer (pB b3))] [.cells b4 [iq a, iq b', iq c, iq d] 32 true, .cells b3 [iq a, iq b', iq c, iq d] 32 true] rfl rfl (by kernel_rfl) (by kernel_rfl) ?_
  refine cont_forget 0 rfl ?_
  refine cont_done ?_
  refine then_normal ?_
  refine cont_ret ?_
  refine ret_one (.inl rfl) rfl 0 (.agg #[iq a, iq b', iq c, iq d]) (by kernel_rfl) (by kernel_rfl) (fun w hT => ?_)
  have he_ := emptyB_false.1 ‹_›
  exact ⟨by rw [cutR, show max a a' = a by omega, show max b b' = b' by omega, show min c c' = c by omega, show min d d' = d by omega, emptyB_false.2 he_]; rfl, hT.post rfl⟩
 replace c21_ := of_decide_eq_false c21_
 refine cont_false rfl ?_
 refine cont_skip ?_
 refine then_normal ?_
 refine cont_seq ?_
 refine cont_seq ?_
 refine cont_region 5 rfl ?_
 refine bS [0, 2, 0, 0, 0] 5 0 [(3, .pointer (pB b2)), (4, .pointer (pB b3)), (5, .pointer (pB b4)), (27, .bool (decide (c' < c)))] ?_
 refine cont_done ?_
 refine then_normal ?_
 refine cont_split 27 (decide (c' < c)) rfl (fun c29_ => ?_) (fun c29_ => ?_)
 ·
  replace c29_ := of_decide_eq_true c29_
  refine cont_true rfl ?_
  refine cont_region 4 rfl ?_
  refine batch0 [0, 2, 0, 0] 4 0 [(3, .pointer (pB b2)), (4, .pointer (pB b3)), (5, .pointer (pB b4))] [.cells b4 [iq a, iq b, iq c', iq d] 32 true, .cells b3 [iq 0, iq 0, iq 0, iq 0] 32 true, .cells b2 [iq a', iq b', iq c', iq d'] 32 true] rfl rfl (by kernel_rfl) (by kernel_rfl) ?_
  refine cont_done ?_
  refine then_normal ?_
  refine cont_seq ?_
  refine cont_seq ?_
  refine cont_region 5 rfl ?_
  refine bS [0, 2, 0, 0, 0] 5 0 [(3, .pointer (pB b2)), (4, .pointer (pB b3)), (5, .pointer (pB b4)), (35, .bool (decide (d' < d)))] ?_
  refine cont_done ?_
  refine then_normal ?_
  refine cont_split 35 (decide (d' < d)) rfl (fun c30_ => ?_) (fun c30_ => ?_)
  ·
   replace c30_ := of_decide_eq_true c30_
   refine cont_true rfl ?_
   refine cont_region 4 rfl ?_
   refine batch0 [0, 2, 0, 0] 4 0 [(4, .pointer (pB b3)), (5, .pointer (pB b4))] [.cells b4 [iq a, iq b, iq c', iq d'] 32 true, .cells b3 [iq 0, iq 0, iq 0, iq 0] 32 true, .cells b2 [iq a', iq b', iq c', iq d'] 32 true] rfl rfl (by kernel_rfl) (by kernel_rfl) ?_
   refine cont_forget 2 rfl ?_
   refine cont_done ?_
   refine then_normal ?_
   refine cont_seq ?_
   refine cont_seq ?_
   refine cont_region 2 rfl ?_
   refine bS [0] 1 1 [(4, .pointer (pB b3)), (5, .pointer (pB b4)), (39, .agg #[iq a, iq b, iq c', iq d'])] ?_
   refine pl_step 2 0 rfl rfl ?_
   refine call_pure (d := 40) (.bool (emptyB a b c' d')) (by kernel_rfl) (fun w hT => refEmpty a b c' d' w) ?_
   refine cont_done ?_
   refine then_normal ?_
   refine cont_split 40 (emptyB a b c' d') rfl (fun c31_ => ?_) (fun c31_ => ?_)
   ·
    refine cont_true rfl ?_
    refine cont_seq ?_
    refine cont_region 2 rfl ?_
    refine bS [0, 1] 2 0 [(4, .pointer (pB b3))] ?_
    refine cont_forget 0 rfl ?_
    refine cont_done ?_
    refine then_normal ?_
    refine cont_ret ?_
    refine then_ret ?_
    refine ret_one (.inl rfl) rfl 0 (.agg #[iq 0, iq 0, iq 0, iq 0]) (by kernel_rfl) (by kernel_rfl) (fun w hT => ?_)
    have he_ := emptyB_true.1 ‹_›
    exact ⟨by rw [cutR, emptyB_true.2 (by omega)]; rfl, hT.post rfl⟩
   refine cont_false rfl ?_
   refine cont_skip ?_
   refine then_normal ?_
   refine cont_seq ?_
   refine cont_region 2 rfl ?_
   refine batch0 [0, 1] 2 0 [(4, .pointer (pB b3))] [.cells b4 [iq a, iq b, iq c', iq d'] 32 true, .cells b3 [iq a, iq b, iq c', iq d'] 32 true] rfl rfl (by kernel_rfl) (by kernel_rfl) ?_
   refine cont_forget 0 rfl ?_
   refine cont_done ?_
   refine then_normal ?_
   refine cont_ret ?_
   refine ret_one (.inl rfl) rfl 0 (.agg #[iq a, iq b, iq c', iq d']) (by kernel_rfl) (by kernel_rfl) (fun w hT => ?_)
   have he_ := emptyB_false.1 ‹_›
   exact ⟨by rw [cutR, show max a a' = a by omega, show max b b' = b by omega, show min c c' = c' by omega, show min d d' = d' by omega, emptyB_false.2 he_]; rfl, hT.post rfl⟩
  replace c30_ := of_decide_eq_false c30_
  refine cont_false rfl ?_
  refine cont_skip ?_
  refine then_normal ?_
  refine cont_seq ?_
  refine cont_seq ?_
  refine cont_region 2 rfl ?_
  refine bS [0] 1 1 [(4, .pointer (pB b3)), (5, .pointer (pB b4)), (39, .agg #[iq a, iq b, iq c', iq d])] ?_
  refine cont_forget 2 rfl ?_
  refine pl_step 2 0 rfl rfl ?_
  refine call_pure (d := 40) (.bool (emptyB a b c' d)) (by kernel_rfl) (fun w hT => refEmpty a b c' d w) ?_
  refine cont_done ?_
  refine then_normal ?_
  refine cont_split 40 (emptyB a b c' d) rfl (fun c32_ => ?_) (fun c32_ => ?_)
  ·
   refine cont_true rfl ?_
   refine cont_seq ?_
   refine cont_region 2 rfl ?_
   refine bS [0, 1] 2 0 [(4, .pointer (pB b3))] ?_
   refine cont_forget 0 rfl ?_
   refine cont_done ?_
   refine then_normal ?_
   refine cont_ret ?_
   refine then_ret ?_
   refine ret_one (.inl rfl) rfl 0 (.agg #[iq 0, iq 0, iq 0, iq 0]) (by kernel_rfl) (by kernel_rfl) (fun w hT => ?_)
   have he_ := emptyB_true.1 ‹_›
   exact ⟨by rw [cutR, emptyB_true.2 (by omega)]; rfl, hT.post rfl⟩
  refine cont_false rfl ?_
  refine cont_skip ?_
  refine then_normal ?_
  refine cont_seq ?_
  refine cont_region 2 rfl ?_
  refine batch0 [0, 1] 2 0 [(4, .pointer (pB b3))] [.cells b4 [iq a, iq b, iq c', iq d] 32 true, .cells b3 [iq a, iq b, iq c', iq d] 32 true] rfl rfl (by kernel_rfl) (by kernel_rfl) ?_
  refine cont_forget 0 rfl ?_
  refine cont_done ?_
  refine then_normal ?_
  refine cont_ret ?_
  refine ret_one (.inl rfl) rfl 0 (.agg #[iq a, iq b, iq c', iq d]) (by kernel_rfl) (by kernel_rfl) (fun w hT => ?_)
  have he_ := emptyB_false.1 ‹_›
  exact ⟨by rw [cutR, show max a a' = a by omega, show max b b' = b by omega, show min c c' = c' by omega, show min d d' = d by omega, emptyB_false.2 he_]; rfl, hT.post rfl⟩
 replace c29_ := of_decide_eq_false c29_
 refine cont_false rfl ?_
 refine cont_skip ?_
 refine then_normal ?_
 refine cont_seq ?_
 refine cont_seq ?_
 refine cont_region 5 rfl ?_
 refine bS [0, 2, 0, 0, 0] 5 0 [(3, .pointer (pB b2)), (4, .pointer (pB b3)), (5, .pointer (pB b4)), (35, .bool (decide (d' < d)))] ?_
 refine cont_done ?_
 refine then_normal ?_
 refine cont_split 35 (decide (d' < d)) rfl (fun c33_ => ?_) (fun c33_ => ?_)
 ·
  replace c33_ := of_decide_eq_true c33_
  refine cont_true rfl ?_
  refine cont_region 4 rfl ?_
  refine batch0 [0, 2, 0, 0] 4 0 [(4, .pointer (pB b3)), (5, .pointer (pB b4))] [.cells b4 [iq a, iq b, iq c, iq d'] 32 true, .cells b3 [iq 0, iq 0, iq 0, iq 0] 32 true, .cells b2 [iq a', iq b', iq c', iq d'] 32 true] rfl rfl (by kernel_rfl) (by kernel_rfl) ?_
  refine cont_forget 2 rfl ?_
  refine cont_done ?_
  refine then_normal ?_
  refine cont_seq ?_
  refine cont_seq ?_
  refine cont_region 2 rfl ?_
  refine bS [0] 1 1 [(4, .pointer (pB b3)), (5, .pointer (pB b4)), (39, .agg #[iq a, iq b, iq c, iq d'])] ?_
  refine pl_step 2 0 rfl rfl ?_
  refine call_pure (d := 40) (.bool (emptyB a b c d')) (by kernel_rfl) (fun w hT => refEmpty a b c d' w) ?_
  refine cont_done ?_
  refine then_normal ?_
  refine cont_split 40 (emptyB a b c d') rfl (fun c34_ => ?_) (fun c34_ => ?_)
  ·
   refine cont_true rfl ?_
   refine cont_seq ?_
   refine cont_region 2 rfl ?_
   refine bS [0, 1] 2 0 [(4, .pointer (pB b3))] ?_
   refine cont_forget 0 rfl ?_
   refine cont_done ?_
   refine then_normal ?_
   refine cont_ret ?_
   refine then_ret ?_
   refine ret_one (.inl rfl) rfl 0 (.agg #[iq 0, iq 0, iq 0, iq 0]) (by kernel_rfl) (by kernel_rfl) (fun w hT => ?_)
   have he_ := emptyB_true.1 ‹_›
   exact ⟨by rw [cutR, emptyB_true.2 (by omega)]; rfl, hT.post rfl⟩
  refine cont_false rfl ?_
  refine cont_skip ?_
  refine then_normal ?_
  refine cont_seq ?_
  refine cont_region 2 rfl ?_
  refine batch0 [0, 1] 2 0 [(4, .pointer (pB b3))] [.cells b4 [iq a, iq b, iq c, iq d'] 32 true, .cells b3 [iq a, iq b, iq c, iq d'] 32 true] rfl rfl (by kernel_rfl) (by kernel_rfl) ?_
  refine cont_forget 0 rfl ?_
  refine cont_done ?_
  refine then_normal ?_
  refine cont_ret ?_
  refine ret_one (.inl rfl) rfl 0 (.agg #[iq a, iq b, iq c, iq d']) (by kernel_rfl) (by kernel_rfl) (fun w hT => ?_)
  have he_ := emptyB_false.1 ‹_›
  exact ⟨by rw [cutR, show max a a' = a by omega, show max b b' = b by omega, show min c c' = c by omega, show min d d' = d' by omega, emptyB_false.2 he_]; rfl, hT.post rfl⟩
 replace c33_ := of_decide_eq_false c33_
 refine cont_false rfl ?_
 refine cont_skip ?_
 refine then_normal ?_
 refine cont_seq ?_
 refine cont_seq ?_
 refine cont_region 2 rfl ?_
 refine bS [0] 1 1 [(4, .pointer (pB b3)), (5, .pointer (pB b4)), (39, .agg #[iq a, iq b, iq c, iq d])] ?_
 refine cont_forget 2 rfl ?_
 refine pl_step 2 0 rfl rfl ?_
 refine call_pure (d := 40) (.bool (emptyB a b c d)) (by kernel_rfl) (fun w hT => refEmpty a b c d w) ?_
 refine cont_done ?_
 refine then_normal ?_
 refine cont_split 40 (emptyB a b c d) rfl (fun c35_ => ?_) (fun c35_ => ?_)
 ·
  refine cont_true rfl ?_
  refine cont_seq ?_
  refine cont_region 2 rfl ?_
  refine bS [0, 1] 2 0 [(4, .pointer (pB b3))] ?_
  refine cont_forget 0 rfl ?_
  refine cont_done ?_
  refine then_normal ?_
  refine cont_ret ?_
  refine then_ret ?_
  refine ret_one (.inl rfl) rfl 0 (.agg #[iq 0, iq 0, iq 0, iq 0]) (by kernel_rfl) (by kernel_rfl) (fun w hT => ?_)
  have he_ := emptyB_true.1 ‹_›
  exact ⟨by rw [cutR, emptyB_true.2 (by omega)]; rfl, hT.post rfl⟩
 refine cont_false rfl ?_
 refine cont_skip ?_
 refine then_normal ?_
 refine cont_seq ?_
 refine cont_region 2 rfl ?_
 refine batch0 [0, 1] 2 0 [(4, .pointer (pB b3))] [.cells b4 [iq a, iq b, iq c, iq d] 32 true, .cells b3 [iq a, iq b, iq c, iq d] 32 true] rfl rfl (by kernel_rfl) (by kernel_rfl) ?_
 refine cont_forget 0 rfl ?_
 refine cont_done ?_
 refine then_normal ?_
 refine cont_ret ?_
 refine ret_one (.inl rfl) rfl 0 (.agg #[iq a, iq b, iq c, iq d]) (by kernel_rfl) (by kernel_rfl) (fun w hT => ?_)
 have he_ := emptyB_false.1 ‹_›
 exact ⟨by rw [cutR, show max a a' = a by omega, show max b b' = b by omega, show min c c' = c by omega, show min d d' = d by omega, emptyB_false.2 he_]; rfl, hT.post rfl⟩

theorem imgIns (m : Nat) (W H : Int) (r n cap : Nat) (px : List Int) (a b c d : Int) (w : World) (hI : ImgR 84 w m W H r n cap px) (hok : ImgOk W H n px) :
    Calls Try.prog 46 #[.pointer (some ⟨m, 0, none⟩), .agg #[.int .i64 a, .int .i64 b, .int .i64 c, .int .i64 d]] w fun e w' => e = .returned (.bool (insB W H a b c d)) ∧ Below w.heap.size w w' := by
 have hcap := hI.cap
 refine enter 14 [(0, .pointer (pB m)), (1, .agg #[iq a, iq b, iq c, iq d])] [.ro m [iq W, iq H, .slice (pB r) n cap] 84, .gen (rdE (pB r) r 0 n 1 (ivals .u32 px))] Try.func46 rfl Try.ntmps46 rfl (by kernel_rfl) hI.tab ?_
 refine cont_seq ?_
 refine cont_region 2 rfl ?_
 refine batch1 [0, 0] 2 0 (fun b1 => [(0, .pointer (pB m)), (3, .pointer (pB b1))]) (fun b1 => [.cells b1 [iq a, iq b, iq c, iq d] 32 true, .ro m [iq W, iq H, .slice (pB r) n cap] 84, .gen (rdE (pB r) r 0 n 1 (ivals .u32 px))]) rfl rfl [0, 3] (fun _ => rfl) (fun b1 => by kernel_rfl) (fun b1 => by kernel_rfl) (fun b1 => ?_)
 refine cont_done ?_
 refine then_normal ?_
 refine cont_seq ?_
 refine drawn_enter 10 [] rfl (by kernel_rfl) ?_
 refine takes 0 [] [(0, 0)] 9 [0] [(0, .pointer (pB m)), (3, .pointer (pB b1)), (5, .agg #[iq a, iq b, iq c, iq d])] (by kernel_rfl) (pok_then pok_body) (by kernel_rfl) rfl rfl (by kernel_rfl) (by kernel_rfl) ?_
 refine drawn_one 1 8 rfl (by kernel_rfl) ?_
 refine call_pure (d := 6) (.bool (emptyB a b c d)) (by kernel_rfl) (fun w hT => rectEmpty a b c d w) ?_
 refine drawn_next 0 [] (by kernel_rfl) ?_
 refine takes 0 [] [(2, 0), (3, 0)] 6 [3, 2, 1, 0] [(0, .pointer (pB m)), (3, .pointer (pB b1)), (8, .bool (!(emptyB a b c d)))] (by kernel_rfl) (pok_then pok_body) (by kernel_rfl) rfl rfl (by kernel_rfl) (by kernel_rfl) ?_
 refine cont_split 8 (!(emptyB a b c d)) rfl (fun c2_ => ?_) (fun c2_ => ?_)
 ·
  replace c2_ : (emptyB a b c d) = false := by simpa using c2_
  refine takes 0 [] [(4, 0), (6, 0)] 4 [6, 4, 3, 2, 1, 0] [(8, .bool true), (9, .pointer (pB m)), (11, .agg #[iq a, iq b, iq c, iq d])] (by kernel_rfl) (pok_then pok_body) (by kernel_rfl) rfl rfl (by kernel_rfl) (by kernel_rfl) ?_
  refine drawn_one 5 3 rfl (by kernel_rfl) ?_
  refine call_pure (d := 10) (.agg #[iq 0, iq 0, iq W, iq H]) (by kernel_rfl) (fun w hT => imgBox m W H r n cap px  w ⟨hT.ok 1 _ rfl, hT.ok 2 _ rfl, by omega⟩ hok) ?_
  refine drawn_next 0 [] (by kernel_rfl) ?_
  refine drawn_one 7 2 rfl (by kernel_rfl) ?_
  refine call_pure (d := 12) (.bool (coversB 0 0 W H a b c d)) (by kernel_rfl) (fun w hT => rectCovers 0 0 W H a b c d w) ?_
  refine drawn_next 0 [] (by kernel_rfl) ?_
  refine takes 0 [] [(8, 0), (9, 0)] 0 [9, 8, 7, 5, 6, 4, 3, 2, 1, 0] [(4, .bool (coversB 0 0 W H a b c d))] (by kernel_rfl) (pok_then pok_body) (by kernel_rfl) rfl rfl (by kernel_rfl) (by kernel_rfl) ?_
  refine drawn_done (by kernel_rfl) ?_
  refine then_normal ?_
  refine cont_ret ?_
  refine ret_one (.inl rfl) rfl 0 (.bool (coversB 0 0 W H a b c d)) (by kernel_rfl) (by kernel_rfl) (fun w hT => ?_)
  exact ⟨ret_bool (by simp [insB, *]), hT.post rfl⟩
 replace c2_ : (emptyB a b c d) = true := by simpa using c2_
 refine takes 0 [] [(4, 0), (6, 0)] 4 [6, 4, 3, 2, 1, 0] [(8, .bool false), (9, undef), (11, undef)] (by kernel_rfl) (pok_then pok_body) (by kernel_rfl) rfl rfl (by kernel_rfl) (by kernel_rfl) ?_
 refine drawn_one 5 3 rfl (by kernel_rfl) ?_
 refine one_step 0 [(8, .bool false), (10, undef), (11, undef)] [.cells b1 [iq a, iq b, iq c, iq d] 32 true, .ro m [iq W, iq H, .slice (pB r) n cap] 84, .gen (rdE (pB r) r 0 n 1 (ivals .u32 px))] (by kernel_rfl) (by kernel_rfl) ?_
 refine drawn_next 0 [] (by kernel_rfl) ?_
 refine drawn_one 7 2 rfl (by kernel_rfl) ?_
 refine one_step 0 [(8, .bool false), (12, undef)] [.cells b1 [iq a, iq b, iq c, iq d] 32 true, .ro m [iq W, iq H, .slice (pB r) n cap] 84, .gen (rdE (pB r) r 0 n 1 (ivals .u32 px))] (by kernel_rfl) (by kernel_rfl) ?_
 refine drawn_next 0 [] (by kernel_rfl) ?_
 refine takes 0 [] [(8, 0), (9, 0)] 0 [9, 8, 7, 5, 6, 4, 3, 2, 1, 0] [(4, .bool false)] (by kernel_rfl) (pok_then pok_body) (by kernel_rfl) rfl rfl (by kernel_rfl) (by kernel_rfl) ?_
 refine drawn_done (by kernel_rfl) ?_
 refine then_normal ?_
 refine cont_ret ?_
 refine ret_one (.inl rfl) rfl 0 (.bool false) (by kernel_rfl) (by kernel_rfl) (fun w hT => ?_)
 exact ⟨ret_bool (by simp [insB, *]), hT.post rfl⟩

theorem imgReadB (m : Nat) (W H : Int) (r n cap : Nat) (px : List Int) (a b c d : Int) (w : World) (hI : ImgR 84 w m W H r n cap px) (hok : ImgOk W H n px) (hg : insB W H a b c d = false) :
    Calls Try.prog 21 #[.pointer (some ⟨m, 0, none⟩), .agg #[.int .i64 a, .int .i64 b, .int .i64 c, .int .i64 d]] w fun e w' => e = .returned (.tuple #[.slice none 0 0, .int .i64 4]) ∧ Below w.heap.size w w' := by
 have hcap := hI.cap
 refine enter 49 [(0, .pointer (pB m)), (1, .agg #[iq a, iq b, iq c, iq d])] [.ro m [iq W, iq H, .slice (pB r) n cap] 84, .gen (rdE (pB r) r 0 n 1 (ivals .u32 px))] Try.func21 rfl Try.ntmps21 rfl (by kernel_rfl) hI.tab ?_
 refine cont_seq ?_
 refine cont_region 3 rfl ?_
 refine batch1 [0, 0, 0] 3 0 (fun b1 => [(0, .pointer (pB m)), (3, .pointer (pB b1))]) (fun b1 => [.cells b1 [iq a, iq b, iq c, iq d] 32 true, .ro m [iq W, iq H, .slice (pB r) n cap] 84, .gen (rdE (pB r) r 0 n 1 (ivals .u32 px))]) rfl rfl [0, 3] (fun _ => rfl) (fun b1 => by kernel_rfl) (fun b1 => by kernel_rfl) (fun b1 => ?_)
 refine cont_done ?_
 refine then_normal ?_
 refine cont_seq ?_
 refine cont_seq ?_
 refine cont_region 4 rfl ?_
 refine bS [0, 0] 2 2 [(0, .pointer (pB m)), (3, .pointer (pB b1)), (12, .pointer (pB m)), (13, .agg #[iq a, iq b, iq c, iq d])] ?_
 refine pl_step 3 1 rfl rfl ?_
 refine call_pure (d := 14) (.bool (insB W H a b c d)) (by kernel_rfl) (fun w hT => imgIns m W H r n cap px a b c d w ⟨hT.ok 1 _ rfl, hT.ok 2 _ rfl, by omega⟩ hok) ?_
 refine bS [0] 4 0 [(0, .pointer (pB m)), (3, .pointer (pB b1)), (15, .bool (!(insB W H a b c d)))] ?_
 refine cont_done ?_
 refine then_normal ?_
 refine cont_recast 15 (.bool (!(insB W H a b c d))) (.bool true) rfl (congrArg Value.bool (by rw [hg]; rfl)) ?_
 refine cont_true rfl ?_
 refine cont_seq ?_
 refine cont_region 2 rfl ?_
 refine bS [0, 0] 2 0 [(4, .slice none 0 0), (5, iq 4)] ?_
 refine cont_forget 0 rfl ?_
 refine cont_done ?_
 refine then_normal ?_
 refine cont_ret ?_
 refine then_ret ?_
 refine ret_two (.inl rfl) rfl 0 0 (.slice none 0 0) (iq 4) (by kernel_rfl) (by kernel_rfl) (by kernel_rfl) (by kernel_rfl) (fun w hT => ?_)
 exact ⟨rfl, hT.post rfl⟩

theorem imgRead (m : Nat) (W H : Int) (r n cap : Nat) (px : List Int) (a b c d : Int) (w : World) (hI : ImgR 84 w m W H r n cap px) (hok : ImgOk W H n px) (hg : insB W H a b c d = true) :
    Calls Try.prog 21 #[.pointer (some ⟨m, 0, none⟩), .agg #[.int .i64 a, .int .i64 b, .int .i64 c, .int .i64 d]] w fun e w' => ∃ (N g cp : Nat), e = .returned (.tuple #[.slice (some ⟨g, 0, none⟩) N cp, .int .i64 0]) ∧ Tab w w' [.gen (rowE (some ⟨g, 0, none⟩) g N cp 5 1 (ivals .u8 (readL W px a b c d)) true)] := by
 obtain ⟨hg1, hg2, hg3, hg4, hg5, hg6⟩ := insB_true hg
 have hcap := hI.cap
 have hw1 := hok.w1
 have hw2 := hok.w2
 have hh1 := hok.h1
 have hh2 := hok.h2
 have hlen := hok.len
 have hle := hok.le
 refine enter 49 [(0, .pointer (pB m)), (1, .agg #[iq a, iq b, iq c, iq d])] [.ro m [iq W, iq H, .slice (pB r) n cap] 84, .gen (rdE (pB r) r 0 n 1 (ivals .u32 px))] Try.func21 rfl Try.ntmps21 rfl (by kernel_rfl) hI.tab ?_
 refine cont_seq ?_
 refine cont_region 3 rfl ?_
 refine batch1 [0, 0, 0] 3 0 (fun b1 => [(0, .pointer (pB m)), (3, .pointer (pB b1))]) (fun b1 => [.cells b1 [iq a, iq b, iq c, iq d] 32 true, .ro m [iq W, iq H, .slice (pB r) n cap] 84, .gen (rdE (pB r) r 0 n 1 (ivals .u32 px))]) rfl rfl [0, 3] (fun _ => rfl) (fun b1 => by kernel_rfl) (fun b1 => by kernel_rfl) (fun b1 => ?_)
 refine cont_done ?_
 refine then_normal ?_
 refine cont_seq ?_
 refine cont_seq ?_
 refine cont_region 4 rfl ?_
 refine bS [0, 0] 2 2 [(0, .pointer (pB m)), (3, .pointer (pB b1)), (12, .pointer (pB m)), (13, .agg #[iq a, iq b, iq c, iq d])] ?_
 refine pl_step 3 1 rfl rfl ?_
 refine call_pure (d := 14) (.bool (insB W H a b c d)) (by kernel_rfl) (fun w hT => imgIns m W H r n cap px a b c d w ⟨hT.ok 1 _ rfl, hT.ok 2 _ rfl, by omega⟩ hok) ?_
 refine bS [0] 4 0 [(0, .pointer (pB m)), (3, .pointer (pB b1)), (15, .bool (!(insB W H a b c d)))] ?_
 refine cont_done ?_
 refine then_normal ?_
 refine cont_recast 15 (.bool (!(insB W H a b c d))) (.bool false) rfl (congrArg Value.bool (by rw [hg]; rfl)) ?_
 refine cont_false rfl ?_
 refine cont_skip ?_
 refine then_normal ?_
 refine cont_seq ?_
 refine cont_region 1 rfl ?_
 refine bS [0] 1 0 [(0, .pointer (pB m)), (3, .pointer (pB b1)), (6, .slice none 0 0)] ?_
 refine cont_done ?_
 refine then_normal ?_
 refine cont_seq ?_
 refine cont_seq ?_
 refine cont_region 3 rfl ?_
 refine bS [0, 0, 0] 3 0 [(0, .pointer (pB m)), (3, .pointer (pB b1)), (6, .slice none 0 0), (7, iq b)] ?_
 refine cont_done ?_
 refine then_normal ?_
 refine cont_block ?_
 refine cont_nilrow 5 1 ?_
 refine cont_norm [(0, .pointer (pB m)), (3, .pointer (pB b1)), (6, .slice none 0 0), (7, iq b)] [.gen (rowE (none) 0 0 0 5 1 (ivals .u8 []) true), .cells b1 [iq a, iq b, iq c, iq d] 32 true, .ro m [iq W, iq H, .slice (pB r) n cap] 84, .gen (rdE (pB r) r 0 n 1 (ivals .u32 px))] (by kernel_rfl) rfl ?_
 refine cont_rowEq (k := .u8) 0 ([]) (rdP W px a b c 0) rfl rfl ?_
 refine cont_recast 7 (iq b) (iq (b + ((0 : Nat) : Int))) rfl (congrArg (Value.int .i64) (by omega)) ?_
 refine cont_loop (α := Nat × Nat × Option Addr × Nat × Nat) (fun x_ : Nat × Nat × Option Addr × Nat × Nat => b + (x_.1 : Int) ≤ d ∧ x_.2.1 = x_.1 * (4 * Int.toNat (c - a))) (fun x_ : Nat × Nat × Option Addr × Nat × Nat => [(0, .pointer (pB m)), (3, .pointer (pB b1)), (6, .slice x_.2.2.1 x_.2.1 x_.2.2.2.2), (7, iq (b + (x_.1 : Int)))]) (fun x_ : Nat × Nat × Option Addr × Nat × Nat => [.gen (rowE (x_.2.2.1) x_.2.2.2.1 x_.2.1 x_.2.2.2.2 5 1 (ivals .u8 (rdP W px a b c x_.1)) true), .cells b1 [iq a, iq b, iq c, iq d] 32 true, .ro m [iq W, iq H, .slice (pB r) n cap] 84, .gen (rdE (pB r) r 0 n 1 (ivals .u32 px))]) (fun x_ : Nat × Nat × Option Addr × Nat × Nat => (d - b - x_.1).toNat) (0, 0, none, 0, 0) (show b + ((0) : Int) ≤ d ∧ (0) = (0) * (4 * Int.toNat (c - a)) from ⟨by omega, by simp⟩) (by kernel_rfl) (by kernel_rfl) ?_
 rintro ⟨j, N, A, g, cp⟩ hinv4_
 replace hinv4_ : b + (j : Int) ≤ d ∧ N = j * (4 * Int.toNat (c - a)) := hinv4_
 refine cont_norm [(0, .pointer (pB m)), (3, .pointer (pB b1)), (6, .slice A N cp), (7, iq (b + (j : Int)))] [.gen (rowE (A) g N cp 5 1 (ivals .u8 (rdP W px a b c j)) true), .cells b1 [iq a, iq b, iq c, iq d] 32 true, .ro m [iq W, iq H, .slice (pB r) n cap] 84, .gen (rdE (pB r) r 0 n 1 (ivals .u32 px))] (by kernel_rfl) rfl ?_
 obtain ⟨hj, hN⟩ := hinv4_
 have hpl : b + (j : Int) < d → 0 ≤ (b + (j : Int)) * W ∧ (b + (j : Int)) * W ≤ 65536 ∧ (b + (j : Int)) * W + (W - 1) < n := fun h => hok.place (x := W - 1) (y := b + j) (by omega) (by omega) (by omega) (by omega)
 have hNb : j * (4 * Int.toNat (c - a)) ≤ 256 * 1024 := Nat.mul_le_mul (by omega) (by omega)
 refine cont_seq ?_
 refine cont_seq ?_
 refine cont_region 4 rfl ?_
 refine bS [0, 0, 1, 0] 4 0 [(0, .pointer (pB m)), (3, .pointer (pB b1)), (6, .slice A N cp), (7, iq (b + (j : Int))), (21, .bool (decide ((b + (j : Int)) < d)))] ?_
 refine cont_done ?_
 refine then_normal ?_
 refine cont_split 21 (decide ((b + (j : Int)) < d)) rfl (fun c5_ => ?_) (fun c5_ => ?_)
 ·
  replace c5_ := of_decide_eq_true c5_
  refine cont_true rfl ?_
  refine cont_skip ?_
  refine then_normal ?_
  refine cont_seq ?_
  refine cont_block ?_
  refine cont_seq ?_
  refine cont_region 9 rfl ?_
  refine bS [0, 0, 0, 1, 0, 1] 6 3 [(0, .pointer (pB m)), (3, .pointer (pB b1)), (6, .slice A N cp), (7, iq (b + (j : Int))), (24, .pointer (pB m)), (25, iq (b + (j : Int))), (27, iq a), (29, iq c)] ?_
  refine pl_step 7 2 rfl rfl ?_
  refine call_pure (d := 30) (.slice (sliceA r 0 (Int.toNat ((b + (j : Int)) * W + a)) cap 1) (Int.toNat ((b + (j : Int)) * W + c) - Int.toNat ((b + (j : Int)) * W + a)) (cap - Int.toNat ((b + (j : Int)) * W + a))) (by kernel_rfl) (fun w hT => imgRow m W H r n cap px (b + (j : Int)) a c w ⟨hT.ok 2 _ rfl, hT.ok 3 _ rfl, by omega⟩ hok (by omega)) ?_
  refine bS [0, 0] 9 0 [(0, .pointer (pB m)), (3, .pointer (pB b1)), (6, .slice A N cp), (7, iq (b + (j : Int))), (30, .slice (sliceA r 0 (Int.toNat ((b + (j : Int)) * W + a)) cap 1) (Int.toNat ((b + (j : Int)) * W + c) - Int.toNat ((b + (j : Int)) * W + a)) (cap - Int.toNat ((b + (j : Int)) * W + a))), (31, iq (((Int.toNat ((b + (j : Int)) * W + c) - Int.toNat ((b + (j : Int)) * W + a)) : Nat) : Int)), (32, iq 0)] ?_
  refine cont_done ?_
  refine then_normal ?_
  refine cont_block ?_
  refine cont_rowEq (k := .u8) 0 (rdP W px a b c j) (rdP W px a b c j ++ rdK W px (b + (j : Int)) a 0) rfl (by rw [rdK_zero, List.append_nil]) ?_
  refine cont_loop (α := Nat × Nat × Option Addr × Nat × Nat) (fun x_ : Nat × Nat × Option Addr × Nat × Nat => (x_.1 : Int) ≤ c - a ∧ x_.2.1 = j * (4 * Int.toNat (c - a)) + 4 * x_.1) (fun x_ : Nat × Nat × Option Addr × Nat × Nat => [(0, .pointer (pB m)), (3, .pointer (pB b1)), (6, .slice x_.2.2.1 x_.2.1 x_.2.2.2.2), (7, iq (b + (j : Int))), (30, .slice (sliceA r 0 (Int.toNat ((b + (j : Int)) * W + a)) cap 1) (Int.toNat ((b + (j : Int)) * W + c) - Int.toNat ((b + (j : Int)) * W + a)) (cap - Int.toNat ((b + (j : Int)) * W + a))), (31, iq (((Int.toNat ((b + (j : Int)) * W + c) - Int.toNat ((b + (j : Int)) * W + a)) : Nat) : Int)), (32, iq (x_.1 : Int))]) (fun x_ : Nat × Nat × Option Addr × Nat × Nat => [.gen (rowE (x_.2.2.1) x_.2.2.2.1 x_.2.1 x_.2.2.2.2 5 1 (ivals .u8 (rdP W px a b c j ++ rdK W px (b + (j : Int)) a x_.1)) true), .cells b1 [iq a, iq b, iq c, iq d] 32 true, .ro m [iq W, iq H, .slice (pB r) n cap] 84, .gen (rdE (pB r) r 0 n 1 (ivals .u32 px))]) (fun x_ : Nat × Nat × Option Addr × Nat × Nat => (c - a - x_.1).toNat) (0, N, A, g, cp) (show ((0) : Int) ≤ c - a ∧ (N) = j * (4 * Int.toNat (c - a)) + 4 * (0) from ⟨by omega, by omega⟩) (by kernel_rfl) (by kernel_rfl) ?_
  rintro ⟨k, N', A', g', cp'⟩ hinv6_
  replace hinv6_ : (k : Int) ≤ c - a ∧ N' = j * (4 * Int.toNat (c - a)) + 4 * k := hinv6_
  refine cont_norm [(0, .pointer (pB m)), (3, .pointer (pB b1)), (6, .slice A' N' cp'), (7, iq (b + (j : Int))), (30, .slice (sliceA r 0 (Int.toNat ((b + (j : Int)) * W + a)) cap 1) (Int.toNat ((b + (j : Int)) * W + c) - Int.toNat ((b + (j : Int)) * W + a)) (cap - Int.toNat ((b + (j : Int)) * W + a))), (31, iq (((Int.toNat ((b + (j : Int)) * W + c) - Int.toNat ((b + (j : Int)) * W + a)) : Nat) : Int)), (32, iq (k : Int))] [.gen (rowE (A') g' N' cp' 5 1 (ivals .u8 (rdP W px a b c j ++ rdK W px (b + (j : Int)) a k)) true), .cells b1 [iq a, iq b, iq c, iq d] 32 true, .ro m [iq W, iq H, .slice (pB r) n cap] 84, .gen (rdE (pB r) r 0 n 1 (ivals .u32 px))] (by kernel_rfl) rfl ?_
  obtain ⟨hk, hN'⟩ := hinv6_
  have hcol : (k : Int) < c - a → 0 ≤ px.getD (0 + Int.toNat ((b + (j : Int)) * W + a) * 1 + k) 0 ∧ px.getD (0 + Int.toNat ((b + (j : Int)) * W + a) * 1 + k) 0 < 4294967296 := fun h => hok.rng _ (by rw [List.getD_eq_getElem?_getD, List.getElem?_eq_getElem (by have := hok.place (x := a + k) (y := b + j) (by omega) (by omega) (by omega) (by omega); omega)]; simp)
  refine cont_seq ?_
  refine cont_region 1 rfl ?_
  refine bS [0] 1 0 [(0, .pointer (pB m)), (3, .pointer (pB b1)), (6, .slice A' N' cp'), (7, iq (b + (j : Int))), (30, .slice (sliceA r 0 (Int.toNat ((b + (j : Int)) * W + a)) cap 1) (Int.toNat ((b + (j : Int)) * W + c) - Int.toNat ((b + (j : Int)) * W + a)) (cap - Int.toNat ((b + (j : Int)) * W + a))), (31, iq (((Int.toNat ((b + (j : Int)) * W + c) - Int.toNat ((b + (j : Int)) * W + a)) : Nat) : Int)), (32, iq (k : Int)), (33, .bool (decide ((k : Int) < (((Int.toNat ((b + (j : Int)) * W + c) - Int.toNat ((b + (j : Int)) * W + a)) : Nat) : Int))))] ?_
  refine cont_done ?_
  refine then_normal ?_
  refine cont_seq ?_
  refine cont_split 33 (decide ((k : Int) < (((Int.toNat ((b + (j : Int)) * W + c) - Int.toNat ((b + (j : Int)) * W + a)) : Nat) : Int))) rfl (fun c7_ => ?_) (fun c7_ => ?_)
  ·
   replace c7_ := of_decide_eq_true c7_
   refine cont_true rfl ?_
   refine cont_skip ?_
   refine then_normal ?_
   refine cont_seq ?_
   refine cont_block ?_
   refine cont_seq ?_
   refine cont_region 3 rfl ?_
   refine pl_step 1 2 rfl rfl ?_
   refine cont_recast 30 (.slice (sliceA r 0 (Int.toNat ((b + (j : Int)) * W + a)) cap 1) (Int.toNat ((b + (j : Int)) * W + c) - Int.toNat ((b + (j : Int)) * W + a)) (cap - Int.toNat ((b + (j : Int)) * W + a))) (.slice (some ⟨r, 0 + (Int.toNat ((b + (j : Int)) * W + a)) * 1, none⟩) (Int.toNat ((b + (j : Int)) * W + c) - Int.toNat ((b + (j : Int)) * W + a)) (cap - Int.toNat ((b + (j : Int)) * W + a))) rfl (by rw [sliceA_pos (by omega)]) ?_
   refine sem_step 34 (Instr.indexAt 35 (.slice (some ⟨r, 0 + (Int.toNat ((b + (j : Int)) * W + a)) * 1, none⟩) (Int.toNat ((b + (j : Int)) * W + c) - Int.toNat ((b + (j : Int)) * W + a)) (cap - Int.toNat ((b + (j : Int)) * W + a))) (iq (k : Int))) (.pointer (some ⟨r, 0 + (Int.toNat ((b + (j : Int)) * W + a)) * 1 + k, none⟩)) (by kernel_rfl) (fun w hT => run_indexAt (e := 28) (sz := 1) _ (by kernel_rfl) (by kernel_rfl) (by omega) (by omega) (by omega) w) ?_
   refine pl_step 2 1 rfl rfl ?_
   refine sem_step 35 (Instr.loadAt 28 (.pointer (some ⟨r, 0 + (Int.toNat ((b + (j : Int)) * W + a)) * 1 + k, none⟩))) (.int .u32 (px.getD (0 + (Int.toNat ((b + (j : Int)) * W + a)) * 1 + k) 0)) (by kernel_rfl) (fun w hT => run_load1 (by kernel_rfl) (Rd.cell0 (hT.ok 3 _ rfl) (0 + (Int.toNat ((b + (j : Int)) * W + a)) * 1 + k) _ (ivals_get (by omega)))) ?_
   refine bS [0] 3 0 [(0, .pointer (pB m)), (3, .pointer (pB b1)), (6, .slice A' N' cp'), (7, iq (b + (j : Int))), (9, .int .u32 (px.getD (0 + (Int.toNat ((b + (j : Int)) * W + a)) * 1 + k) 0)), (30, .slice (some ⟨r, 0 + (Int.toNat ((b + (j : Int)) * W + a)) * 1, none⟩) (Int.toNat ((b + (j : Int)) * W + c) - Int.toNat ((b + (j : Int)) * W + a)) (cap - Int.toNat ((b + (j : Int)) * W + a))), (31, iq (((Int.toNat ((b + (j : Int)) * W + c) - Int.toNat ((b + (j : Int)) * W + a)) : Nat) : Int)), (32, iq (k : Int))] ?_
   refine cont_done ?_
   refine then_normal ?_
   refine cont_seq ?_
   refine cont_region 3 rfl ?_
   have hprt := parts_rng (c := px.getD (0 + (Int.toNat ((b + (j : Int)) * W + a)) * 1 + k) 0) (by omega) (by omega)
   refine bS [0] 1 2 [(0, .pointer (pB m)), (3, .pointer (pB b1)), (6, .slice A' N' cp'), (7, iq (b + (j : Int))), (30, .slice (some ⟨r, 0 + (Int.toNat ((b + (j : Int)) * W + a)) * 1, none⟩) (Int.toNat ((b + (j : Int)) * W + c) - Int.toNat ((b + (j : Int)) * W + a)) (cap - Int.toNat ((b + (j : Int)) * W + a))), (31, iq (((Int.toNat ((b + (j : Int)) * W + c) - Int.toNat ((b + (j : Int)) * W + a)) : Nat) : Int)), (32, iq (k : Int)), (36, .int .u32 (px.getD (0 + (Int.toNat ((b + (j : Int)) * W + a)) * 1 + k) 0))] ?_
   refine pl_step 2 1 rfl rfl ?_
   refine call_pure (d := 37) (.agg #[iq (pa (px.getD (0 + (Int.toNat ((b + (j : Int)) * W + a)) * 1 + k) 0)), iq (pr (px.getD (0 + (Int.toNat ((b + (j : Int)) * W + a)) * 1 + k) 0)), iq (pg (px.getD (0 + (Int.toNat ((b + (j : Int)) * W + a)) * 1 + k) 0)), iq (pb (px.getD (0 + (Int.toNat ((b + (j : Int)) * W + a)) * 1 + k) 0))]) (by kernel_rfl) (fun w hT => colorParts (px.getD (0 + (Int.toNat ((b + (j : Int)) * W + a)) * 1 + k) 0) w (by omega) (by omega)) ?_
   refine bS [0] 3 0 [(0, .pointer (pB m)), (3, .pointer (pB b1)), (6, .slice A' N' cp'), (7, iq (b + (j : Int))), (30, .slice (some ⟨r, 0 + (Int.toNat ((b + (j : Int)) * W + a)) * 1, none⟩) (Int.toNat ((b + (j : Int)) * W + c) - Int.toNat ((b + (j : Int)) * W + a)) (cap - Int.toNat ((b + (j : Int)) * W + a))), (31, iq (((Int.toNat ((b + (j : Int)) * W + c) - Int.toNat ((b + (j : Int)) * W + a)) : Nat) : Int)), (32, iq (k : Int)), (37, .agg #[iq (pa (px.getD (0 + (Int.toNat ((b + (j : Int)) * W + a)) * 1 + k) 0)), iq (pr (px.getD (0 + (Int.toNat ((b + (j : Int)) * W + a)) * 1 + k) 0)), iq (pg (px.getD (0 + (Int.toNat ((b + (j : Int)) * W + a)) * 1 + k) 0)), iq (pb (px.getD (0 + (Int.toNat ((b + (j : Int)) * W + a)) * 1 + k) 0))]), (38, iq 0)] ?_
   refine cont_done ?_
   refine then_normal ?_
   refine cont_block ?_
   refine cont_rounds 5 ?_
   refine cont_round 5 4 rfl ?_
   refine cont_seq ?_
   refine cont_region 1 rfl ?_
   refine bS [0] 1 0 [(0, .pointer (pB m)), (3, .pointer (pB b1)), (6, .slice A' N' cp'), (7, iq (b + (j : Int))), (30, .slice (some ⟨r, 0 + (Int.toNat ((b + (j : Int)) * W + a)) * 1, none⟩) (Int.toNat ((b + (j : Int)) * W + c) - Int.toNat ((b + (j : Int)) * W + a)) (cap - Int.toNat ((b + (j : Int)) * W + a))), (31, iq (((Int.toNat ((b + (j : Int)) * W + c) - Int.toNat ((b + (j : Int)) * W + a)) : Nat) : Int)), (32, iq (k : Int)), (37, .agg #[iq (pa (px.getD (0 + (Int.toNat ((b + (j : Int)) * W + a)) * 1 + k) 0)), iq (pr (px.getD (0 + (Int.toNat ((b + (j : Int)) * W + a)) * 1 + k) 0)), iq (pg (px.getD (0 + (Int.toNat ((b + (j : Int)) * W + a)) * 1 + k) 0)), iq (pb (px.getD (0 + (Int.toNat ((b + (j : Int)) * W + a)) * 1 + k) 0))]), (38, iq 0), (39, .bool true)] ?_
   refine cont_done ?_
   refine then_normal ?_
   refine cont_seq ?_
   refine cont_true rfl ?_
   refine cont_skip ?_
   refine then_normal ?_
   refine cont_seq ?_
   refine cont_block ?_
   refine cont_seq ?_
   refine cont_region 2 rfl ?_
   refine bS [0, 0] 2 0 [(0, .pointer (pB m)), (3, .pointer (pB b1)), (6, .slice A' N' cp'), (7, iq (b + (j : Int))), (11, iq (pa (px.getD (0 + (Int.toNat ((b + (j : Int)) * W + a)) * 1 + k) 0))), (30, .slice (some ⟨r, 0 + (Int.toNat ((b + (j : Int)) * W + a)) * 1, none⟩) (Int.toNat ((b + (j : Int)) * W + c) - Int.toNat ((b + (j : Int)) * W + a)) (cap - Int.toNat ((b + (j : Int)) * W + a))), (31, iq (((Int.toNat ((b + (j : Int)) * W + c) - Int.toNat ((b + (j : Int)) * W + a)) : Nat) : Int)), (32, iq (k : Int)), (37, .agg #[iq (pa (px.getD (0 + (Int.toNat ((b + (j : Int)) * W + a)) * 1 + k) 0)), iq (pr (px.getD (0 + (Int.toNat ((b + (j : Int)) * W + a)) * 1 + k) 0)), iq (pg (px.getD (0 + (Int.toNat ((b + (j : Int)) * W + a)) * 1 + k) 0)), iq (pb (px.getD (0 + (Int.toNat ((b + (j : Int)) * W + a)) * 1 + k) 0))]), (38, iq 0)] ?_
   refine cont_done ?_
   refine then_normal ?_
   refine cont_region 6 rfl ?_
   refine bS [0, 0, 0] 3 3 [(0, .pointer (pB m)), (3, .pointer (pB b1)), (7, iq (b + (j : Int))), (30, .slice (some ⟨r, 0 + (Int.toNat ((b + (j : Int)) * W + a)) * 1, none⟩) (Int.toNat ((b + (j : Int)) * W + c) - Int.toNat ((b + (j : Int)) * W + a)) (cap - Int.toNat ((b + (j : Int)) * W + a))), (31, iq (((Int.toNat ((b + (j : Int)) * W + c) - Int.toNat ((b + (j : Int)) * W + a)) : Nat) : Int)), (32, iq (k : Int)), (37, .agg #[iq (pa (px.getD (0 + (Int.toNat ((b + (j : Int)) * W + a)) * 1 + k) 0)), iq (pr (px.getD (0 + (Int.toNat ((b + (j : Int)) * W + a)) * 1 + k) 0)), iq (pg (px.getD (0 + (Int.toNat ((b + (j : Int)) * W + a)) * 1 + k) 0)), iq (pb (px.getD (0 + (Int.toNat ((b + (j : Int)) * W + a)) * 1 + k) 0))]), (38, iq 0), (41, .slice A' N' cp'), (43, .int .u8 (IntKind.u8.wrap (pa (px.getD (0 + (Int.toNat ((b + (j : Int)) * W + a)) * 1 + k) 0))))] ?_
   refine cont_recast 43 (.int .u8 (IntKind.u8.wrap (pa (px.getD (0 + (Int.toNat ((b + (j : Int)) * W + a)) * 1 + k) 0)))) (.int .u8 (pa (px.getD (0 + (Int.toNat ((b + (j : Int)) * W + a)) * 1 + k) 0))) rfl (wrapU8 (by omega) (by omega)) ?_
   refine batch1 [0] 4 2 (fun b9 => [(0, .pointer (pB m)), (3, .pointer (pB b1)), (7, iq (b + (j : Int))), (30, .slice (some ⟨r, 0 + (Int.toNat ((b + (j : Int)) * W + a)) * 1, none⟩) (Int.toNat ((b + (j : Int)) * W + c) - Int.toNat ((b + (j : Int)) * W + a)) (cap - Int.toNat ((b + (j : Int)) * W + a))), (31, iq (((Int.toNat ((b + (j : Int)) * W + c) - Int.toNat ((b + (j : Int)) * W + a)) : Nat) : Int)), (32, iq (k : Int)), (37, .agg #[iq (pa (px.getD (0 + (Int.toNat ((b + (j : Int)) * W + a)) * 1 + k) 0)), iq (pr (px.getD (0 + (Int.toNat ((b + (j : Int)) * W + a)) * 1 + k) 0)), iq (pg (px.getD (0 + (Int.toNat ((b + (j : Int)) * W + a)) * 1 + k) 0)), iq (pb (px.getD (0 + (Int.toNat ((b + (j : Int)) * W + a)) * 1 + k) 0))]), (38, iq 0), (41, .slice A' N' cp'), (44, .slice (pB b9) 1 1)]) (fun b9 => [.cells b9 [.int .u8 (pa (px.getD (0 + (Int.toNat ((b + (j : Int)) * W + a)) * 1 + k) 0))] 5 true, .gen (rowE (A') g' N' cp' 5 1 (ivals .u8 (rdP W px a b c j ++ rdK W px (b + (j : Int)) a k)) true), .cells b1 [iq a, iq b, iq c, iq d] 32 true, .ro m [iq W, iq H, .slice (pB r) n cap] 84, .gen (rdE (pB r) r 0 n 1 (ivals .u32 px))]) rfl rfl [0, 3, 7, 30, 31, 32, 37, 38, 41, 44] (fun _ => rfl) (fun b9 => by kernel_rfl) (fun b9 => by kernel_rfl) (fun b9 => ?_)
   refine pl_step 5 1 rfl rfl ?_
   refine sem_stepW (α := Option Addr × Nat × Nat) 45 (Builtin.append_ #[43, 43] 43 #[.slice A' N' cp', .slice (pB b9) 1 1]) (fun x_ => .slice x_.1 (N' + 1) x_.2.2) (fun x_ => [.cells b9 [.int .u8 (pa (px.getD (0 + (Int.toNat ((b + (j : Int)) * W + a)) * 1 + k) 0))] 5 true, .gen (rowE (x_.1) x_.2.1 (N' + 1) x_.2.2 5 1 (ivals .u8 ((rdP W px a b c j ++ rdK W px (b + (j : Int)) a k) ++ [pa (px.getD (0 + (Int.toNat ((b + (j : Int)) * W + a)) * 1 + k) 0)])) true), .cells b1 [iq a, iq b, iq c, iq d] 32 true, .ro m [iq W, iq H, .slice (pB r) n cap] 84, .gen (rdE (pB r) r 0 n 1 (ivals .u32 px))]) (fun _ => True) (by kernel_rfl) (fun w hT => append_own (n' := (N' + 1)) (z := .int .u8 0) hT (i := 1) (bytes := 1) rfl (by kernel_rfl) (by kernel_rfl) rfl (by decide) (by decide) (Rd.ofCells (vals := ivals .u8 [pa (px.getD (0 + (Int.toNat ((b + (j : Int)) * W + a)) * 1 + k) 0)]) (hT.ok 0 _ rfl) rfl rfl) (ivals_one .u8 [pa (px.getD (0 + (Int.toNat ((b + (j : Int)) * W + a)) * 1 + k) 0)]) (by omega) (ivals_append .u8 (rdP W px a b c j ++ rdK W px (b + (j : Int)) a k) [pa (px.getD (0 + (Int.toNat ((b + (j : Int)) * W + a)) * 1 + k) 0)]) rfl) ?_
   rintro ⟨A10, g10, cp10⟩ -
   refine cont_norm [(0, .pointer (pB m)), (3, .pointer (pB b1)), (7, iq (b + (j : Int))), (30, .slice (some ⟨r, 0 + (Int.toNat ((b + (j : Int)) * W + a)) * 1, none⟩) (Int.toNat ((b + (j : Int)) * W + c) - Int.toNat ((b + (j : Int)) * W + a)) (cap - Int.toNat ((b + (j : Int)) * W + a))), (31, iq (((Int.toNat ((b + (j : Int)) * W + c) - Int.toNat ((b + (j : Int)) * W + a)) : Nat) : Int)), (32, iq (k : Int)), (37, .agg #[iq (pa (px.getD (0 + (Int.toNat ((b + (j : Int)) * W + a)) * 1 + k) 0)), iq (pr (px.getD (0 + (Int.toNat ((b + (j : Int)) * W + a)) * 1 + k) 0)), iq (pg (px.getD (0 + (Int.toNat ((b + (j : Int)) * W + a)) * 1 + k) 0)), iq (pb (px.getD (0 + (Int.toNat ((b + (j : Int)) * W + a)) * 1 + k) 0))]), (38, iq 0), (41, .slice A' N' cp'), (44, .slice (pB b9) 1 1), (45, .slice A10 (N' + 1) cp10)] [.cells b9 [.int .u8 (pa (px.getD (0 + (Int.toNat ((b + (j : Int)) * W + a)) * 1 + k) 0))] 5 true, .gen (rowE (A10) g10 (N' + 1) cp10 5 1 (ivals .u8 ((rdP W px a b c j ++ rdK W px (b + (j : Int)) a k) ++ [pa (px.getD (0 + (Int.toNat ((b + (j : Int)) * W + a)) * 1 + k) 0)])) true), .cells b1 [iq a, iq b, iq c, iq d] 32 true, .ro m [iq W, iq H, .slice (pB r) n cap] 84, .gen (rdE (pB r) r 0 n 1 (ivals .u32 px))] (by kernel_rfl) rfl ?_
   refine cont_fact (F := (0 < (N' + 1) → (A10 : Option Addr) = pB g10) ∧ ((rdP W px a b c j ++ rdK W px (b + (j : Int)) a k) ++ [pa (px.getD (0 + (Int.toNat ((b + (j : Int)) * W + a)) * 1 + k) 0)]).length = (N' + 1) ∧ (N' + 1) ≤ cp10 ∧ cp10 ≤ maxLen) (fun w hT => Row.facts (hT.ok 1 _ rfl)) (fun hr11_ => ?_)
   obtain ⟨hr11_a, hr11_l, hr11_c, hr11_m⟩ := hr11_
   unfold maxLen at hr11_m
   refine bS [0] 6 0 [(0, .pointer (pB m)), (3, .pointer (pB b1)), (6, .slice A10 (N' + 1) cp10), (7, iq (b + (j : Int))), (30, .slice (some ⟨r, 0 + (Int.toNat ((b + (j : Int)) * W + a)) * 1, none⟩) (Int.toNat ((b + (j : Int)) * W + c) - Int.toNat ((b + (j : Int)) * W + a)) (cap - Int.toNat ((b + (j : Int)) * W + a))), (31, iq (((Int.toNat ((b + (j : Int)) * W + c) - Int.toNat ((b + (j : Int)) * W + a)) : Nat) : Int)), (32, iq (k : Int)), (37, .agg #[iq (pa (px.getD (0 + (Int.toNat ((b + (j : Int)) * W + a)) * 1 + k) 0)), iq (pr (px.getD (0 + (Int.toNat ((b + (j : Int)) * W + a)) * 1 + k) 0)), iq (pg (px.getD (0 + (Int.toNat ((b + (j : Int)) * W + a)) * 1 + k) 0)), iq (pb (px.getD (0 + (Int.toNat ((b + (j : Int)) * W + a)) * 1 + k) 0))]), (38, iq 0)] ?_
   refine cont_forget 0 rfl ?_
   refine cont_done ?_
   refine blk_normal ?_
   refine then_normal ?_
   refine cont_region 2 rfl ?_
   refine bS [0, 0] 2 0 [(0, .pointer (pB m)), (3, .pointer (pB b1)), (6, .slice A10 (N' + 1) cp10), (7, iq (b + (j : Int))), (30, .slice (some ⟨r, 0 + (Int.toNat ((b + (j : Int)) * W + a)) * 1, none⟩) (Int.toNat ((b + (j : Int)) * W + c) - Int.toNat ((b + (j : Int)) * W + a)) (cap - Int.toNat ((b + (j : Int)) * W + a))), (31, iq (((Int.toNat ((b + (j : Int)) * W + c) - Int.toNat ((b + (j : Int)) * W + a)) : Nat) : Int)), (32, iq (k : Int)), (37, .agg #[iq (pa (px.getD (0 + (Int.toNat ((b + (j : Int)) * W + a)) * 1 + k) 0)), iq (pr (px.getD (0 + (Int.toNat ((b + (j : Int)) * W + a)) * 1 + k) 0)), iq (pg (px.getD (0 + (Int.toNat ((b + (j : Int)) * W + a)) * 1 + k) 0)), iq (pb (px.getD (0 + (Int.toNat ((b + (j : Int)) * W + a)) * 1 + k) 0))]), (38, iq 1)] ?_
   refine cont_done ?_
   refine then_normal ?_
   refine cont_round 4 3 rfl ?_
   refine cont_seq ?_
   refine cont_region 1 rfl ?_
   refine bS [0] 1 0 [(0, .pointer (pB m)), (3, .pointer (pB b1)), (6, .slice A10 (N' + 1) cp10), (7, iq (b + (j : Int))), (30, .slice (some ⟨r, 0 + (Int.toNat ((b + (j : Int)) * W + a)) * 1, none⟩) (Int.toNat ((b + (j : Int)) * W + c) - Int.toNat ((b + (j : Int)) * W + a)) (cap - Int.toNat ((b + (j : Int)) * W + a))), (31, iq (((Int.toNat ((b + (j : Int)) * W + c) - Int.toNat ((b + (j : Int)) * W + a)) : Nat) : Int)), (32, iq (k : Int)), (37, .agg #[iq (pa (px.getD (0 + (Int.toNat ((b + (j : Int)) * W + a)) * 1 + k) 0)), iq (pr (px.getD (0 + (Int.toNat ((b + (j : Int)) * W + a)) * 1 + k) 0)), iq (pg (px.getD (0 + (Int.toNat ((b + (j : Int)) * W + a)) * 1 + k) 0)), iq (pb (px.getD (0 + (Int.toNat ((b + (j : Int)) * W + a)) * 1 + k) 0))]), (38, iq 1), (39, .bool true)] ?_
   refine cont_done ?_
   refine then_normal ?_
   refine cont_seq ?_
   refine cont_true rfl ?_
   refine cont_skip ?_
   refine then_normal ?_
   refine cont_seq ?_
   refine cont_block ?_
   refine cont_seq ?_
   refine cont_region 2 rfl ?_
   refine bS [0, 0] 2 0 [(0, .pointer (pB m)), (3, .pointer (pB b1)), (6, .slice A10 (N' + 1) cp10), (7, iq (b + (j : Int))), (11, iq (pr (px.getD (0 + (Int.toNat ((b + (j : Int)) * W + a)) * 1 + k) 0))), (30, .slice (some ⟨r, 0 + (Int.toNat ((b + (j : Int)) * W + a)) * 1, none⟩) (Int.toNat ((b + (j : Int)) * W + c) - Int.toNat ((b + (j : Int)) * W + a)) (cap - Int.toNat ((b + (j : Int)) * W + a))), (31, iq (((Int.toNat ((b + (j : Int)) * W + c) - Int.toNat ((b + (j : Int)) * W + a)) : Nat) : Int)), (32, iq (k : Int)), (37, .agg #[iq (pa (px.getD (0 + (Int.toNat ((b + (j : Int)) * W + a)) * 1 + k) 0)), iq (pr (px.getD (0 + (Int.toNat ((b + (j : Int)) * W + a)) * 1 + k) 0)), iq (pg (px.getD (0 + (Int.toNat ((b + (j : Int)) * W + a)) * 1 + k) 0)), iq (pb (px.getD (0 + (Int.toNat ((b + (j : Int)) * W + a)) * 1 + k) 0))]), (38, iq 1)] ?_
   refine cont_done ?_
   refine then_normal ?_
   refine cont_region 6 rfl ?_
   refine bS [0, 0, 0] 3 3 [(0, .pointer (pB m)), (3, .pointer (pB b1)), (7, iq (b + (j : Int))), (30, .slice (some ⟨r, 0 + (Int.toNat ((b + (j : Int)) * W + a)) * 1, none⟩) (Int.toNat ((b + (j : Int)) * W + c) - Int.toNat ((b + (j : Int)) * W + a)) (cap - Int.toNat ((b + (j : Int)) * W + a))), (31, iq (((Int.toNat ((b + (j : Int)) * W + c) - Int.toNat ((b + (j : Int)) * W + a)) : Nat) : Int)), (32, iq (k : Int)), (37, .agg #[iq (pa (px.getD (0 + (Int.toNat ((b + (j : Int)) * W + a)) * 1 + k) 0)), iq (pr (px.getD (0 + (Int.toNat ((b + (j : Int)) * W + a)) * 1 + k) 0)), iq (pg (px.getD (0 + (Int.toNat ((b + (j : Int)) * W + a)) * 1 + k) 0)), iq (pb (px.getD (0 + (Int.toNat ((b + (j : Int)) * W + a)) * 1 + k) 0))]), (38, iq 1), (41, .slice A10 (N' + 1) cp10), (43, .int .u8 (IntKind.u8.wrap (pr (px.getD (0 + (Int.toNat ((b + (j : Int)) * W + a)) * 1 + k) 0))))] ?_
   refine cont_recast 43 (.int .u8 (IntKind.u8.wrap (pr (px.getD (0 + (Int.toNat ((b + (j : Int)) * W + a)) * 1 + k) 0)))) (.int .u8 (pr (px.getD (0 + (Int.toNat ((b + (j : Int)) * W + a)) * 1 + k) 0))) rfl (wrapU8 (by omega) (by omega)) ?_
   refine batch1 [0] 4 2 (fun b13 => [(0, .pointer (pB m)), (3, .pointer (pB b1)), (7, iq (b + (j : Int))), (30, .slice (some ⟨r, 0 + (Int.toNat ((b + (j : Int)) * W + a)) * 1, none⟩) (Int.toNat ((b + (j : Int)) * W + c) - Int.toNat ((b + (j : Int)) * W + a)) (cap - Int.toNat ((b + (j : Int)) * W + a))), (31, iq (((Int.toNat ((b + (j : Int)) * W + c) - Int.toNat ((b + (j : Int)) * W + a)) : Nat) : Int)), (32, iq (k : Int)), (37, .agg #[iq (pa (px.getD (0 + (Int.toNat ((b + (j : Int)) * W + a)) * 1 + k) 0)), iq (pr (px.getD (0 + (Int.toNat ((b + (j : Int)) * W + a)) * 1 + k) 0)), iq (pg (px.getD (0 + (Int.toNat ((b + (j : Int)) * W + a)) * 1 + k) 0)), iq (pb (px.getD (0 + (Int.toNat ((b + (j : Int)) * W + a)) * 1 + k) 0))]), (38, iq 1), (41, .slice A10 (N' + 1) cp10), (44, .slice (pB b13) 1 1)]) (fun b13 => [.cells b13 [.int .u8 (pr (px.getD (0 + (Int.toNat ((b + (j : Int)) * W + a)) * 1 + k) 0))] 5 true, .gen (rowE (A10) g10 (N' + 1) cp10 5 1 (ivals .u8 ((rdP W px a b c j ++ rdK W px (b + (j : Int)) a k) ++ [pa (px.getD (0 + (Int.toNat ((b + (j : Int)) * W + a)) * 1 + k) 0)])) true), .cells b1 [iq a, iq b, iq c, iq d] 32 true, .ro m [iq W, iq H, .slice (pB r) n cap] 84, .gen (rdE (pB r) r 0 n 1 (ivals .u32 px))]) rfl rfl [0, 3, 7, 30, 31, 32, 37, 38, 41, 44] (fun _ => rfl) (fun b13 => by kernel_rfl) (fun b13 => by kernel_rfl) (fun b13 => ?_)
   refine pl_step 5 1 rfl rfl ?_
   refine sem_stepW (α := Option Addr × Nat × Nat) 45 (Builtin.append_ #[43, 43] 43 #[.slice A10 (N' + 1) cp10, .slice (pB b13) 1 1]) (fun x_ => .slice x_.1 ((N' + 1) + 1) x_.2.2) (fun x_ => [.cells b13 [.int .u8 (pr (px.getD (0 + (Int.toNat ((b + (j : Int)) * W + a)) * 1 + k) 0))] 5 true, .gen (rowE (x_.1) x_.2.1 ((N' + 1) + 1) x_.2.2 5 1 (ivals .u8 (((rdP W px a b c j ++ rdK W px (b + (j : Int)) a k) ++ [pa (px.getD (0 + (Int.toNat ((b + (j : Int)) * W + a)) * 1 + k) 0)]) ++ [pr (px.getD (0 + (Int.toNat ((b + (j : Int)) * W + a)) * 1 + k) 0)])) true), .cells b1 [iq a, iq b, iq c, iq d] 32 true, .ro m [iq W, iq H, .slice (pB r) n cap] 84, .gen (rdE (pB r) r 0 n 1 (ivals .u32 px))]) (fun _ => True) (by kernel_rfl) (fun w hT => append_own (n' := ((N' + 1) + 1)) (z := .int .u8 0) hT (i := 1) (bytes := 1) rfl (by kernel_rfl) (by kernel_rfl) rfl (by decide) (by decide) (Rd.ofCells (vals := ivals .u8 [pr (px.getD (0 + (Int.toNat ((b + (j : Int)) * W + a)) * 1 + k) 0)]) (hT.ok 0 _ rfl) rfl rfl) (ivals_one .u8 [pr (px.getD (0 + (Int.toNat ((b + (j : Int)) * W + a)) * 1 + k) 0)]) (by omega) (ivals_append .u8 ((rdP W px a b c j ++ rdK W px (b + (j : Int)) a k) ++ [pa (px.getD (0 + (Int.toNat ((b + (j : Int)) * W + a)) * 1 + k) 0)]) [pr (px.getD (0 + (Int.toNat ((b + (j : Int)) * W + a)) * 1 + k) 0)]) rfl) ?_
   rintro ⟨A14, g14, cp14⟩ -
   refine cont_norm [(0, .pointer (pB m)), (3, .pointer (pB b1)), (7, iq (b + (j : Int))), (30, .slice (some ⟨r, 0 + (Int.toNat ((b + (j : Int)) * W + a)) * 1, none⟩) (Int.toNat ((b + (j : Int)) * W + c) - Int.toNat ((b + (j : Int)) * W + a)) (cap - Int.toNat ((b + (j : Int)) * W + a))), (31, iq (((Int.toNat ((b + (j : Int)) * W + c) - Int.toNat ((b + (j : Int)) * W + a)) : Nat) : Int)), (32, iq (k : Int)), (37, .agg #[iq (pa (px.getD (0 + (Int.toNat ((b + (j : Int)) * W + a)) * 1 + k) 0)), iq (pr (px.getD (0 + (Int.toNat ((b + (j : Int)) * W + a)) * 1 + k) 0)), iq (pg (px.getD (0 + (Int.toNat ((b + (j : Int)) * W + a)) * 1 + k) 0)), iq (pb (px.getD (0 + (Int.toNat ((b + (j : Int)) * W + a)) * 1 + k) 0))]), (38, iq 1), (41, .slice A10 (N' + 1) cp10), (44, .slice (pB b13) 1 1), (45, .slice A14 ((N' + 1) + 1) cp14)] [.cells b13 [.int .u8 (pr (px.getD (0 + (Int.toNat ((b + (j : Int)) * W + a)) * 1 + k) 0))] 5 true, .gen (rowE (A14) g14 ((N' + 1) + 1) cp14 5 1 (ivals .u8 (((rdP W px a b c j ++ rdK W px (b + (j : Int)) a k) ++ [pa (px.getD (0 + (Int.toNat ((b + (j : Int)) * W + a)) * 1 + k) 0)]) ++ [pr (px.getD (0 + (Int.toNat ((b + (j : Int)) * W + a)) * 1 + k) 0)])) true), .cells b1 [iq a, iq b, iq c, iq d] 32 true, .ro m [iq W, iq H, .slice (pB r) n cap] 84, .gen (rdE (pB r) r 0 n 1 (ivals .u32 px))] (by kernel_rfl) rfl ?_
   refine cont_fact (F := (0 < ((N' + 1) + 1) → (A14 : Option Addr) = pB g14) ∧ (((rdP W px a b c j ++ rdK W px (b + (j : Int)) a k) ++ [pa (px.getD (0 + (Int.toNat ((b + (j : Int)) * W + a)) * 1 + k) 0)]) ++ [pr (px.getD (0 + (Int.toNat ((b + (j : Int)) * W + a)) * 1 + k) 0)]).length = ((N' + 1) + 1) ∧ ((N' + 1) + 1) ≤ cp14 ∧ cp14 ≤ maxLen) (fun w hT => Row.facts (hT.ok 1 _ rfl)) (fun hr15_ => ?_)
   obtain ⟨hr15_a, hr15_l, hr15_c, hr15_m⟩ := hr15_
   unfold maxLen at hr15_m
   refine bS [0] 6 0 [(0, .pointer (pB m)), (3, .pointer (pB b1)), (6, .slice A14 ((N' + 1) + 1) cp14), (7, iq (b + (j : Int))), (30, .slice (some ⟨r, 0 + (Int.toNat ((b + (j : Int)) * W + a)) * 1, none⟩) (Int.toNat ((b + (j : Int)) * W + c) - Int.toNat ((b + (j : Int)) * W + a)) (cap - Int.toNat ((b + (j : Int)) * W + a))), (31, iq (((Int.toNat ((b + (j : Int)) * W + c) - Int.toNat ((b + (j : Int)) * W + a)) : Nat) : Int)), (32, iq (k : Int)), (37, .agg #[iq (pa (px.getD (0 + (Int.toNat ((b + (j : Int)) * W + a)) * 1 + k) 0)), iq (pr (px.getD (0 + (Int.toNat ((b + (j : Int)) * W + a)) * 1 + k) 0)), iq (pg (px.getD (0 + (Int.toNat ((b + (j : Int)) * W + a)) * 1 + k) 0)), iq (pb (px.getD (0 + (Int.toNat ((b + (j : Int)) * W + a)) * 1 + k) 0))]), (38, iq 1)] ?_
   refine cont_forget 0 rfl ?_
   refine cont_done ?_
   refine blk_normal ?_
   refine then_normal ?_
   refine cont_region 2 rfl ?_
   refine bS [0, 0] 2 0 [(0, .pointer (pB m)), (3, .pointer (pB b1)), (6, .slice A14 ((N' + 1) + 1) cp14), (7, iq (b + (j : Int))), (30, .slice (some ⟨r, 0 + (Int.toNat ((b + (j : Int)) * W + a)) * 1, none⟩) (Int.toNat ((b + (j : Int)) * W + c) - Int.toNat ((b + (j : Int)) * W + a)) (cap - Int.toNat ((b + (j : Int)) * W + a))), (31, iq (((Int.toNat ((b + (j : Int)) * W + c) - Int.toNat ((b + (j : Int)) * W + a)) : Nat) : Int)), (32, iq (k : Int)), (37, .agg #[iq (pa (px.getD (0 + (Int.toNat ((b + (j : Int)) * W + a)) * 1 + k) 0)), iq (pr (px.getD (0 + (Int.toNat ((b + (j : Int)) * W + a)) * 1 + k) 0)), iq (pg (px.getD (0 + (Int.toNat ((b + (j : Int)) * W + a)) * 1 + k) 0)), iq (pb (px.getD (0 + (Int.toNat ((b + (j : Int)) * W + a)) * 1 + k) 0))]), (38, iq 2)] ?_
   refine cont_done ?_
   refine then_normal ?_
   refine cont_round 3 2 rfl ?_
   refine cont_seq ?_
   refine cont_region 1 rfl ?_
   refine bS [0] 1 0 [(0, .pointer (pB m)), (3, .pointer (pB b1)), (6, .slice A14 ((N' + 1) + 1) cp14), (7, iq (b + (j : Int))), (30, .slice (some ⟨r, 0 + (Int.toNat ((b + (j : Int)) * W + a)) * 1, none⟩) (Int.toNat ((b + (j : Int)) * W + c) - Int.toNat ((b + (j : Int)) * W + a)) (cap - Int.toNat ((b + (j : Int)) * W + a))), (31, iq (((Int.toNat ((b + (j : Int)) * W + c) - Int.toNat ((b + (j : Int)) * W + a)) : Nat) : Int)), (32, iq (k : Int)), (37, .agg #[iq (pa (px.getD (0 + (Int.toNat ((b + (j : Int)) * W + a)) * 1 + k) 0)), iq (pr (px.getD (0 + (Int.toNat ((b + (j : Int)) * W + a)) * 1 + k) 0)), iq (pg (px.getD (0 + (Int.toNat ((b + (j : Int)) * W + a)) * 1 + k) 0)), iq (pb (px.getD (0 + (Int.toNat ((b + (j : Int)) * W + a)) * 1 + k) 0))]), (38, iq 2), (39, .bool true)] ?_
   refine cont_done ?_
   refine then_normal ?_
   refine cont_seq ?_
   refine cont_true rfl ?_
   refine cont_skip ?_
   refine then_normal ?_
   refine cont_seq ?_
   refine cont_block ?_
   refine cont_seq ?_
   refine cont_region 2 rfl ?_
   refine bS [0, 0] 2 0 [(0, .pointer (pB m)), (3, .pointer (pB b1)), (6, .slice A14 ((N' + 1) + 1) cp14), (7, iq (b + (j : Int))), (11, iq (pg (px.getD (0 + (Int.toNat ((b + (j : Int)) * W + a)) * 1 + k) 0))), (30, .slice (some ⟨r, 0 + (Int.toNat ((b + (j : Int)) * W + a)) * 1, none⟩) (Int.toNat ((b + (j : Int)) * W + c) - Int.toNat ((b + (j : Int)) * W + a)) (cap - Int.toNat ((b + (j : Int)) * W + a))), (31, iq (((Int.toNat ((b + (j : Int)) * W + c) - Int.toNat ((b + (j : Int)) * W + a)) : Nat) : Int)), (32, iq (k : Int)), (37, .agg #[iq (pa (px.getD (0 + (Int.toNat ((b + (j : Int)) * W + a)) * 1 + k) 0)), iq (pr (px.getD (0 + (Int.toNat ((b + (j : Int)) * W + a)) * 1 + k) 0)), iq (pg (px.getD (0 + (Int.toNat ((b + (j : Int)) * W + a)) * 1 + k) 0)), iq (pb (px.getD (0 + (Int.toNat ((b + (j : Int)) * W + a)) * 1 + k) 0))]), (38, iq 2)] ?_
   refine cont_done ?_
   refine then_normal ?_
   refine cont_region 6 rfl ?_
   refine bS [0, 0, 0] 3 3 [(0, .pointer (pB m)), (3, .pointer (pB b1)), (7, iq (b + (j : Int))), (30, .slice (some ⟨r, 0 + (Int.toNat ((b + (j : Int)) * W + a)) * 1, none⟩) (Int.toNat ((b + (j : Int)) * W + c) - Int.toNat ((b + (j : Int)) * W + a)) (cap - Int.toNat ((b + (j : Int)) * W + a))), (31, iq (((Int.toNat ((b + (j : Int)) * W + c) - Int.toNat ((b + (j : Int)) * W + a)) : Nat) : Int)), (32, iq (k : Int)), (37, .agg #[iq (pa (px.getD (0 + (Int.toNat ((b + (j : Int)) * W + a)) * 1 + k) 0)), iq (pr (px.getD (0 + (Int.toNat ((b + (j : Int)) * W + a)) * 1 + k) 0)), iq (pg (px.getD (0 + (Int.toNat ((b + (j : Int)) * W + a)) * 1 + k) 0)), iq (pb (px.getD (0 + (Int.toNat ((b + (j : Int)) * W + a)) * 1 + k) 0))]), (38, iq 2), (41, .slice A14 ((N' + 1) + 1) cp14), (43, .int .u8 (IntKind.u8.wrap (pg (px.getD (0 + (Int.toNat ((b + (j : Int)) * W + a)) * 1 + k) 0))))] ?_
   refine cont_recast 43 (.int .u8 (IntKind.u8.wrap (pg (px.getD (0 + (Int.toNat ((b + (j : Int)) * W + a)) * 1 + k) 0)))) (.int .u8 (pg (px.getD (0 + (Int.toNat ((b + (j : Int)) * W + a)) * 1 + k) 0))) rfl (wrapU8 (by omega) (by omega)) ?_
   refine batch1 [0] 4 2 (fun b17 => [(0, .pointer (pB m)), (3, .pointer (pB b1)), (7, iq (b + (j : Int))), (30, .slice (some ⟨r, 0 + (Int.toNat ((b + (j : Int)) * W + a)) * 1, none⟩) (Int.toNat ((b + (j : Int)) * W + c) - Int.toNat ((b + (j : Int)) * W + a)) (cap - Int.toNat ((b + (j : Int)) * W + a))), (31, iq (((Int.toNat ((b + (j : Int)) * W + c) - Int.toNat ((b + (j : Int)) * W + a)) : Nat) : Int)), (32, iq (k : Int)), (37, .agg #[iq (pa (px.getD (0 + (Int.toNat ((b + (j : Int)) * W + a)) * 1 + k) 0)), iq (pr (px.getD (0 + (Int.toNat ((b + (j : Int)) * W + a)) * 1 + k) 0)), iq (pg (px.getD (0 + (Int.toNat ((b + (j : Int)) * W + a)) * 1 + k) 0)), iq (pb (px.getD (0 + (Int.toNat ((b + (j : Int)) * W + a)) * 1 + k) 0))]), (38, iq 2), (41, .slice A14 ((N' + 1) + 1) cp14), (44, .slice (pB b17) 1 1)]) (fun b17 => [.cells b17 [.int .u8 (pg (px.getD (0 + (Int.toNat ((b + (j : Int)) * W + a)) * 1 + k) 0))] 5 true, .gen (rowE (A14) g14 ((N' + 1) + 1) cp14 5 1 (ivals .u8 (((rdP W px a b c j ++ rdK W px (b + (j : Int)) a k) ++ [pa (px.getD (0 + (Int.toNat ((b + (j : Int)) * W + a)) * 1 + k) 0)]) ++ [pr (px.getD (0 + (Int.toNat ((b + (j : Int)) * W + a)) * 1 + k) 0)])) true), .cells b1 [iq a, iq b, iq c, iq d] 32 true, .ro m [iq W, iq H, .slice (pB r) n cap] 84, .gen (rdE (pB r) r 0 n 1 (ivals .u32 px))]) rfl rfl [0, 3, 7, 30, 31, 32, 37, 38, 41, 44] (fun _ => rfl) (fun b17 => by kernel_rfl) (fun b17 => by kernel_rfl) (fun b17 => ?_)
   refine pl_step 5 1 rfl rfl ?_
   refine sem_stepW (α := Option Addr × Nat × Nat) 45 (Builtin.append_ #[43, 43] 43 #[.slice A14 ((N' + 1) + 1) cp14, .slice (pB b17) 1 1]) (fun x_ => .slice x_.1 (((N' + 1) + 1) + 1) x_.2.2) (fun x_ => [.cells b17 [.int .u8 (pg (px.getD (0 + (Int.toNat ((b + (j : Int)) * W + a)) * 1 + k) 0))] 5 true, .gen (rowE (x_.1) x_.2.1 (((N' + 1) + 1) + 1) x_.2.2 5 1 (ivals .u8 ((((rdP W px a b c j ++ rdK W px (b + (j : Int)) a k) ++ [pa (px.getD (0 + (Int.toNat ((b + (j : Int)) * W + a)) * 1 + k) 0)]) ++ [pr (px.getD (0 + (Int.toNat ((b + (j : Int)) * W + a)) * 1 + k) 0)]) ++ [pg (px.getD (0 + (Int.toNat ((b + (j : Int)) * W + a)) * 1 + k) 0)])) true), .cells b1 [iq a, iq b, iq c, iq d] 32 true, .ro m [iq W, iq H, .slice (pB r) n cap] 84, .gen (rdE (pB r) r 0 n 1 (ivals .u32 px))]) (fun _ => True) (by kernel_rfl) (fun w hT => append_own (n' := (((N' + 1) + 1) + 1)) (z := .int .u8 0) hT (i := 1) (bytes := 1) rfl (by kernel_rfl) (by kernel_rfl) rfl (by decide) (by decide) (Rd.ofCells (vals := ivals .u8 [pg (px.getD (0 + (Int.toNat ((b + (j : Int)) * W + a)) * 1 + k) 0)]) (hT.ok 0 _ rfl) rfl rfl) (ivals_one .u8 [pg (px.getD (0 + (Int.toNat ((b + (j : Int)) * W + a)) * 1 + k) 0)]) (by omega) (ivals_append .u8 (((rdP W px a b c j ++ rdK W px (b + (j : Int)) a k) ++ [pa (px.getD (0 + (Int.toNat ((b + (j : Int)) * W + a)) * 1 + k) 0)]) ++ [pr (px.getD (0 + (Int.toNat ((b + (j : Int)) * W + a)) * 1 + k) 0)]) [pg (px.getD (0 + (Int.toNat ((b + (j : Int)) * W + a)) * 1 + k) 0)]) rfl) ?_
   rintro ⟨A18, g18, cp18⟩ -
   refine cont_norm [(0, .pointer (pB m)), (3, .pointer (pB b1)), (7, iq (b + (j : Int))), (30, .slice (some ⟨r, 0 + (Int.toNat ((b + (j : Int)) * W + a)) * 1, none⟩) (Int.toNat ((b + (j : Int)) * W + c) - Int.toNat ((b + (j : Int)) * W + a)) (cap - Int.toNat ((b + (j : Int)) * W + a))), (31, iq (((Int.toNat ((b + (j : Int)) * W + c) - Int.toNat ((b + (j : Int)) * W + a)) : Nat) : Int)), (32, iq (k : Int)), (37, .agg #[iq (pa (px.getD (0 + (Int.toNat ((b + (j : Int)) * W + a)) * 1 + k) 0)), iq (pr (px.getD (0 + (Int.toNat ((b + (j : Int)) * W + a)) * 1 + k) 0)), iq (pg (px.getD (0 + (Int.toNat ((b + (j : Int)) * W + a)) * 1 + k) 0)), iq (pb (px.getD (0 + (Int.toNat ((b + (j : Int)) * W + a)) * 1 + k) 0))]), (38, iq 2), (41, .slice A14 ((N' + 1) + 1) cp14), (44, .slice (pB b17) 1 1), (45, .slice A18 (((N' + 1) + 1) + 1) cp18)] [.cells b17 [.int .u8 (pg (px.getD (0 + (Int.toNat ((b + (j : Int)) * W + a)) * 1 + k) 0))] 5 true, .gen (rowE (A18) g18 (((N' + 1) + 1) + 1) cp18 5 1 (ivals .u8 ((((rdP W px a b c j ++ rdK W px (b + (j : Int)) a k) ++ [pa (px.getD (0 + (Int.toNat ((b + (j : Int)) * W + a)) * 1 + k) 0)]) ++ [pr (px.getD (0 + (Int.toNat ((b + (j : Int)) * W + a)) * 1 + k) 0)]) ++ [pg (px.getD (0 + (Int.toNat ((b + (j : Int)) * W + a)) * 1 + k) 0)])) true), .cells b1 [iq a, iq b, iq c, iq d] 32 true, .ro m [iq W, iq H, .slice (pB r) n cap] 84, .gen (rdE (pB r) r 0 n 1 (ivals .u32 px))] (by kernel_rfl) rfl ?_
   refine cont_fact (F := (0 < (((N' + 1) + 1) + 1) → (A18 : Option Addr) = pB g18) ∧ ((((rdP W px a b c j ++ rdK W px (b + (j : Int)) a k) ++ [pa (px.getD (0 + (Int.toNat ((b + (j : Int)) * W + a)) * 1 + k) 0)]) ++ [pr (px.getD (0 + (Int.toNat ((b + (j : Int)) * W + a)) * 1 + k) 0)]) ++ [pg (px.getD (0 + (Int.toNat ((b + (j : Int)) * W + a)) * 1 + k) 0)]).length = (((N' + 1) + 1) + 1) ∧ (((N' + 1) + 1) + 1) ≤ cp18 ∧ cp18 ≤ maxLen) (fun w hT => Row.facts (hT.ok 1 _ rfl)) (fun hr19_ => ?_)
   obtain ⟨hr19_a, hr19_l, hr19_c, hr19_m⟩ := hr19_
   unfold maxLen at hr19_m
   refine bS [0] 6 0 [(0, .pointer (pB m)), (3, .pointer (pB b1)), (6, .slice A18 (((N' + 1) + 1) + 1) cp18), (7, iq (b + (j : Int))), (30, .slice (some ⟨r, 0 + (Int.toNat ((b + (j : Int)) * W + a)) * 1, none⟩) (Int.toNat ((b + (j : Int)) * W + c) - Int.toNat ((b + (j : Int)) * W + a)) (cap - Int.toNat ((b + (j : Int)) * W + a))), (31, iq (((Int.toNat ((b + (j : Int)) * W + c) - Int.toNat ((b + (j : Int)) * W + a)) : Nat) : Int)), (32, iq (k : Int)), (37, .agg #[iq (pa (px.getD (0 + (Int.toNat ((b + (j : Int)) * W + a)) * 1 + k) 0)), iq (pr (px.getD (0 + (Int.toNat ((b + (j : Int)) * W + a)) * 1 + k) 0)), iq (pg (px.getD (0 + (Int.toNat ((b + (j : Int)) * W + a)) * 1 + k) 0)), iq (pb (px.getD (0 + (Int.toNat ((b + (j : Int)) * W + a)) * 1 + k) 0))]), (38, iq 2)] ?_
   refine cont_forget 0 rfl ?_
   refine cont_done ?_
   refine blk_normal ?_
   refine then_normal ?_
   refine cont_region 2 rfl ?_
   refine bS [0, 0] 2 0 [(0, .pointer (pB m)), (3, .pointer (pB b1)), (6, .slice A18 (((N' + 1) + 1) + 1) cp18), (7, iq (b + (j : Int))), (30, .slice (some ⟨r, 0 + (Int.toNat ((b + (j : Int)) * W + a)) * 1, none⟩) (Int.toNat ((b + (j : Int)) * W + c) - Int.toNat ((b + (j : Int)) * W + a)) (cap - Int.toNat ((b + (j : Int)) * W + a))), (31, iq (((Int.toNat ((b + (j : Int)) * W + c) - Int.toNat ((b + (j : Int)) * W + a)) : Nat) : Int)), (32, iq (k : Int)), (37, .agg #[iq (pa (px.getD (0 + (Int.toNat ((b + (j : Int)) * W + a)) * 1 + k) 0)), iq (pr (px.getD (0 + (Int.toNat ((b + (j : Int)) * W + a)) * 1 + k) 0)), iq (pg (px.getD (0 + (Int.toNat ((b + (j : Int)) * W + a)) * 1 + k) 0)), iq (pb (px.getD (0 + (Int.toNat ((b + (j : Int)) * W + a)) * 1 + k) 0))]), (38, iq 3)] ?_
   refine cont_done ?_
   refine then_normal ?_
   refine cont_round 2 1 rfl ?_
   refine cont_seq ?_
   refine cont_region 1 rfl ?_
   refine bS [0] 1 0 [(0, .pointer (pB m)), (3, .pointer (pB b1)), (6, .slice A18 (((N' + 1) + 1) + 1) cp18), (7, iq (b + (j : Int))), (30, .slice (some ⟨r, 0 + (Int.toNat ((b + (j : Int)) * W + a)) * 1, none⟩) (Int.toNat ((b + (j : Int)) * W + c) - Int.toNat ((b + (j : Int)) * W + a)) (cap - Int.toNat ((b + (j : Int)) * W + a))), (31, iq (((Int.toNat ((b + (j : Int)) * W + c) - Int.toNat ((b + (j : Int)) * W + a)) : Nat) : Int)), (32, iq (k : Int)), (37, .agg #[iq (pa (px.getD (0 + (Int.toNat ((b + (j : Int)) * W + a)) * 1 + k) 0)), iq (pr (px.getD (0 + (Int.toNat ((b + (j : Int)) * W + a)) * 1 + k) 0)), iq (pg (px.getD (0 + (Int.toNat ((b + (j : Int)) * W + a)) * 1 + k) 0)), iq (pb (px.getD (0 + (Int.toNat ((b + (j : Int)) * W + a)) * 1 + k) 0))]), (38, iq 3), (39, .bool true)] ?_
   refine cont_done ?_
   refine then_normal ?_
   refine cont_seq ?_
   refine cont_true rfl ?_
   refine cont_skip ?_
   refine then_normal ?_
   refine cont_seq ?_
   refine cont_block ?_
   refine cont_seq ?_
   refine cont_region 2 rfl ?_
   refine bS [0, 0] 2 0 [(0, .pointer (pB m)), (3, .pointer (pB b1)), (6, .slice A18 (((N' + 1) + 1) + 1) cp18), (7, iq (b + (j : Int))), (11, iq (pb (px.getD (0 + (Int.toNat ((b + (j : Int)) * W + a)) * 1 + k) 0))), (30, .slice (some ⟨r, 0 + (Int.toNat ((b + (j : Int)) * W + a)) * 1, none⟩) (Int.toNat ((b + (j : Int)) * W + c) - Int.toNat ((b + (j : Int)) * W + a)) (cap - Int.toNat ((b + (j : Int)) * W + a))), (31, iq (((Int.toNat ((b + (j : Int)) * W + c) - Int.toNat ((b + (j : Int)) * W + a)) : Nat) : Int)), (32, iq (k : Int)), (37, .agg #[iq (pa (px.getD (0 + (Int.toNat ((b + (j : Int)) * W + a)) * 1 + k) 0)), iq (pr (px.getD (0 + (Int.toNat ((b + (j : Int)) * W + a)) * 1 + k) 0)), iq (pg (px.getD (0 + (Int.toNat ((b + (j : Int)) * W + a)) * 1 + k) 0)), iq (pb (px.getD (0 + (Int.toNat ((b + (j : Int)) * W + a)) * 1 + k) 0))]), (38, iq 3)] ?_
   refine cont_done ?_
   refine then_normal ?_
   refine cont_region 6 rfl ?_
   refine bS [0, 0, 0] 3 3 [(0, .pointer (pB m)), (3, .pointer (pB b1)), (7, iq (b + (j : Int))), (30, .slice (some ⟨r, 0 + (Int.toNat ((b + (j : Int)) * W + a)) * 1, none⟩) (Int.toNat ((b + (j : Int)) * W + c) - Int.toNat ((b + (j : Int)) * W + a)) (cap - Int.toNat ((b + (j : Int)) * W + a))), (31, iq (((Int.toNat ((b + (j : Int)) * W + c) - Int.toNat ((b + (j : Int)) * W + a)) : Nat) : Int)), (32, iq (k : Int)), (37, .agg #[iq (pa (px.getD (0 + (Int.toNat ((b + (j : Int)) * W + a)) * 1 + k) 0)), iq (pr (px.getD (0 + (Int.toNat ((b + (j : Int)) * W + a)) * 1 + k) 0)), iq (pg (px.getD (0 + (Int.toNat ((b + (j : Int)) * W + a)) * 1 + k) 0)), iq (pb (px.getD (0 + (Int.toNat ((b + (j : Int)) * W + a)) * 1 + k) 0))]), (38, iq 3), (41, .slice A18 (((N' + 1) + 1) + 1) cp18), (43, .int .u8 (IntKind.u8.wrap (pb (px.getD (0 + (Int.toNat ((b + (j : Int)) * W + a)) * 1 + k) 0))))] ?_
   refine cont_recast 43 (.int .u8 (IntKind.u8.wrap (pb (px.getD (0 + (Int.toNat ((b + (j : Int)) * W + a)) * 1 + k) 0)))) (.int .u8 (pb (px.getD (0 + (Int.toNat ((b + (j : Int)) * W + a)) * 1 + k) 0))) rfl (wrapU8 (by omega) (by omega)) ?_
   refine batch1 [0] 4 2 (fun b21 => [(0, .pointer (pB m)), (3, .pointer (pB b1)), (7, iq (b + (j : Int))), (30, .slice (some ⟨r, 0 + (Int.toNat ((b + (j : Int)) * W + a)) * 1, none⟩) (Int.toNat ((b + (j : Int)) * W + c) - Int.toNat ((b + (j : Int)) * W + a)) (cap - Int.toNat ((b + (j : Int)) * W + a))), (31, iq (((Int.toNat ((b + (j : Int)) * W + c) - Int.toNat ((b + (j : Int)) * W + a)) : Nat) : Int)), (32, iq (k : Int)), (37, .agg #[iq (pa (px.getD (0 + (Int.toNat ((b + (j : Int)) * W + a)) * 1 + k) 0)), iq (pr (px.getD (0 + (Int.toNat ((b + (j : Int)) * W + a)) * 1 + k) 0)), iq (pg (px.getD (0 + (Int.toNat ((b + (j : Int)) * W + a)) * 1 + k) 0)), iq (pb (px.getD (0 + (Int.toNat ((b + (j : Int)) * W + a)) * 1 + k) 0))]), (38, iq 3), (41, .slice A18 (((N' + 1) + 1) + 1) cp18), (44, .slice (pB b21) 1 1)]) (fun b21 => [.cells b21 [.int .u8 (pb (px.getD (0 + (Int.toNat ((b + (j : Int)) * W + a)) * 1 + k) 0))] 5 true, .gen (rowE (A18) g18 (((N' + 1) + 1) + 1) cp18 5 1 (ivals .u8 ((((rdP W px a b c j ++ rdK W px (b + (j : Int)) a k) ++ [pa (px.getD (0 + (Int.toNat ((b + (j : Int)) * W + a)) * 1 + k) 0)]) ++ [pr (px.getD (0 + (Int.toNat ((b + (j : Int)) * W + a)) * 1 + k) 0)]) ++ [pg (px.getD (0 + (Int.toNat ((b + (j : Int)) * W + a)) * 1 + k) 0)])) true), .cells b1 [iq a, iq b, iq c, iq d] 32 true, .ro m [iq W, iq H, .slice (pB r) n cap] 84, .gen (rdE (pB r) r 0 n 1 (ivals .u32 px))]) rfl rfl [0, 3, 7, 30, 31, 32, 37, 38, 41, 44] (fun _ => rfl) (fun b21 => by kernel_rfl) (fun b21 => by kernel_rfl) (fun b21 => ?_)
   refine pl_step 5 1 rfl rfl ?_
   refine sem_stepW (α := Option Addr × Nat × Nat) 45 (Builtin.append_ #[43, 43] 43 #[.slice A18 (((N' + 1) + 1) + 1) cp18, .slice (pB b21) 1 1]) (fun x_ => .slice x_.1 ((((N' + 1) + 1) + 1) + 1) x_.2.2) (fun x_ => [.cells b21 [.int .u8 (pb (px.getD (0 + (Int.toNat ((b + (j : Int)) * W + a)) * 1 + k) 0))] 5 true, .gen (rowE (x_.1) x_.2.1 ((((N' + 1) + 1) + 1) + 1) x_.2.2 5 1 (ivals .u8 (((((rdP W px a b c j ++ rdK W px (b + (j : Int)) a k) ++ [pa (px.getD (0 + (Int.toNat ((b + (j : Int)) * W + a)) * 1 + k) 0)]) ++ [pr (px.getD (0 + (Int.toNat ((b + (j : Int)) * W + a)) * 1 + k) 0)]) ++ [pg (px.getD (0 + (Int.toNat ((b + (j : Int)) * W + a)) * 1 + k) 0)]) ++ [pb (px.getD (0 + (Int.toNat ((b + (j : Int)) * W + a)) * 1 + k) 0)])) true), .cells b1 [iq a, iq b, iq c, iq d] 32 true, .ro m [iq W, iq H, .slice (pB r) n cap] 84, .gen (rdE (pB r) r 0 n 1 (ivals .u32 px))]) (fun _ => True) (by kernel_rfl) (fun w hT => append_own (n' := ((((N' + 1) + 1) + 1) + 1)) (z := .int .u8 0) hT (i := 1) (bytes := 1) rfl (by kernel_rfl) (by kernel_rfl) rfl (by decide) (by decide) (Rd.ofCells (vals := ivals .u8 [pb (px.getD (0 + (Int.toNat ((b + (j : Int)) * W + a)) * 1 + k) 0)]) (hT.ok 0 _ rfl) rfl rfl) (ivals_one .u8 [pb (px.getD (0 + (Int.toNat ((b + (j : Int)) * W + a)) * 1 + k) 0)]) (by omega) (ivals_append .u8 ((((rdP W px a b c j ++ rdK W px (b + (j : Int)) a k) ++ [pa (px.getD (0 + (Int.toNat ((b + (j : Int)) * W + a)) * 1 + k) 0)]) ++ [pr (px.getD (0 + (Int.toNat ((b + (j : Int)) * W + a)) * 1 + k) 0)]) ++ [pg (px.getD (0 + (Int.toNat ((b + (j : Int)) * W + a)) * 1 + k) 0)]) [pb (px.getD (0 + (Int.toNat ((b + (j : Int)) * W + a)) * 1 + k) 0)]) rfl) ?_
   rintro ⟨A22, g22, cp22⟩ -
   refine cont_norm [(0, .pointer (pB m)), (3, .pointer (pB b1)), (7, iq (b + (j : Int))), (30, .slice (some ⟨r, 0 + (Int.toNat ((b + (j : Int)) * W + a)) * 1, none⟩) (Int.toNat ((b + (j : Int)) * W + c) - Int.toNat ((b + (j : Int)) * W + a)) (cap - Int.toNat ((b + (j : Int)) * W + a))), (31, iq (((Int.toNat ((b + (j : Int)) * W + c) - Int.toNat ((b + (j : Int)) * W + a)) : Nat) : Int)), (32, iq (k : Int)), (37, .agg #[iq (pa (px.getD (0 + (Int.toNat ((b + (j : Int)) * W + a)) * 1 + k) 0)), iq (pr (px.getD (0 + (Int.toNat ((b + (j : Int)) * W + a)) * 1 + k) 0)), iq (pg (px.getD (0 + (Int.toNat ((b + (j : Int)) * W + a)) * 1 + k) 0)), iq (pb (px.getD (0 + (Int.toNat ((b + (j : Int)) * W + a)) * 1 + k) 0))]), (38, iq 3), (41, .slice A18 (((N' + 1) + 1) + 1) cp18), (44, .slice (pB b21) 1 1), (45, .slice A22 ((((N' + 1) + 1) + 1) + 1) cp22)] [.cells b21 [.int .u8 (pb (px.getD (0 + (Int.toNat ((b + (j : Int)) * W + a)) * 1 + k) 0))] 5 true, .gen (rowE (A22) g22 ((((N' + 1) + 1) + 1) + 1) cp22 5 1 (ivals .u8 (((((rdP W px a b c j ++ rdK W px (b + (j : Int)) a k) ++ [pa (px.getD (0 + (Int.toNat ((b + (j : Int)) * W + a)) * 1 + k) 0)]) ++ [pr (px.getD (0 + (Int.toNat ((b + (j : Int)) * W + a)) * 1 + k) 0)]) ++ [pg (px.getD (0 + (Int.toNat ((b + (j : Int)) * W + a)) * 1 + k) 0)]) ++ [pb (px.getD (0 + (Int.toNat ((b + (j : Int)) * W + a)) * 1 + k) 0)])) true), .cells b1 [iq a, iq b, iq c, iq d] 32 true, .ro m [iq W, iq H, .slice (pB r) n cap] 84, .gen (rdE (pB r) r 0 n 1 (ivals .u32 px))] (by kernel_rfl) rfl ?_
   refine cont_fact (F := (0 < ((((N' + 1) + 1) + 1) + 1) → (A22 : Option Addr) = pB g22) ∧ (((((rdP W px a b c j ++ rdK W px (b + (j : Int)) a k) ++ [pa (px.getD (0 + (Int.toNat ((b + (j : Int)) * W + a)) * 1 + k) 0)]) ++ [pr (px.getD (0 + (Int.toNat ((b + (j : Int)) * W + a)) * 1 + k) 0)]) ++ [pg (px.getD (0 + (Int.toNat ((b + (j : Int)) * W + a)) * 1 + k) 0)]) ++ [pb (px.getD (0 + (Int.toNat ((b + (j : Int)) * W + a)) * 1 + k) 0)]).length = ((((N' + 1) + 1) + 1) + 1) ∧ ((((N' + 1) + 1) + 1) + 1) ≤ cp22 ∧ cp22 ≤ maxLen) (fun w hT => Row.facts (hT.ok 1 _ rfl)) (fun hr23_ => ?_)
   obtain ⟨hr23_a, hr23_l, hr23_c, hr23_m⟩ := hr23_
   unfold maxLen at hr23_m
   refine bS [0] 6 0 [(0, .pointer (pB m)), (3, .pointer (pB b1)), (6, .slice A22 ((((N' + 1) + 1) + 1) + 1) cp22), (7, iq (b + (j : Int))), (30, .slice (some ⟨r, 0 + (Int.toNat ((b + (j : Int)) * W + a)) * 1, none⟩) (Int.toNat ((b + (j : Int)) * W + c) - Int.toNat ((b + (j : Int)) * W + a)) (cap - Int.toNat ((b + (j : Int)) * W + a))), (31, iq (((Int.toNat ((b + (j : Int)) * W + c) - Int.toNat ((b + (j : Int)) * W + a)) : Nat) : Int)), (32, iq (k : Int)), (37, .agg #[iq (pa (px.getD (0 + (Int.toNat ((b + (j : Int)) * W + a)) * 1 + k) 0)), iq (pr (px.getD (0 + (Int.toNat ((b + (j : Int)) * W + a)) * 1 + k) 0)), iq (pg (px.getD (0 + (Int.toNat ((b + (j : Int)) * W + a)) * 1 + k) 0)), iq (pb (px.getD (0 + (Int.toNat ((b + (j : Int)) * W + a)) * 1 + k) 0))]), (38, iq 3)] ?_
   refine cont_forget 0 rfl ?_
   refine cont_done ?_
   refine blk_normal ?_
   refine then_normal ?_
   refine cont_region 2 rfl ?_
   refine bS [0, 0] 2 0 [(0, .pointer (pB m)), (3, .pointer (pB b1)), (6, .slice A22 ((((N' + 1) + 1) + 1) + 1) cp22), (7, iq (b + (j : Int))), (30, .slice (some ⟨r, 0 + (Int.toNat ((b + (j : Int)) * W + a)) * 1, none⟩) (Int.toNat ((b + (j : Int)) * W + c) - Int.toNat ((b + (j : Int)) * W + a)) (cap - Int.toNat ((b + (j : Int)) * W + a))), (31, iq (((Int.toNat ((b + (j : Int)) * W + c) - Int.toNat ((b + (j : Int)) * W + a)) : Nat) : Int)), (32, iq (k : Int)), (37, .agg #[iq (pa (px.getD (0 + (Int.toNat ((b + (j : Int)) * W + a)) * 1 + k) 0)), iq (pr (px.getD (0 + (Int.toNat ((b + (j : Int)) * W + a)) * 1 + k) 0)), iq (pg (px.getD (0 + (Int.toNat ((b + (j : Int)) * W + a)) * 1 + k) 0)), iq (pb (px.getD (0 + (Int.toNat ((b + (j : Int)) * W + a)) * 1 + k) 0))]), (38, iq 4)] ?_
   refine cont_done ?_
   refine then_normal ?_
   refine cont_round 1 0 rfl ?_
   refine cont_seq ?_
   refine cont_region 1 rfl ?_
   refine bS [0] 1 0 [(0, .pointer (pB m)), (3, .pointer (pB b1)), (6, .slice A22 ((((N' + 1) + 1) + 1) + 1) cp22), (7, iq (b + (j : Int))), (30, .slice (some ⟨r, 0 + (Int.toNat ((b + (j : Int)) * W + a)) * 1, none⟩) (Int.toNat ((b + (j : Int)) * W + c) - Int.toNat ((b + (j : Int)) * W + a)) (cap - Int.toNat ((b + (j : Int)) * W + a))), (31, iq (((Int.toNat ((b + (j : Int)) * W + c) - Int.toNat ((b + (j : Int)) * W + a)) : Nat) : Int)), (32, iq (k : Int)), (37, .agg #[iq (pa (px.getD (0 + (Int.toNat ((b + (j : Int)) * W + a)) * 1 + k) 0)), iq (pr (px.getD (0 + (Int.toNat ((b + (j : Int)) * W + a)) * 1 + k) 0)), iq (pg (px.getD (0 + (Int.toNat ((b + (j : Int)) * W + a)) * 1 + k) 0)), iq (pb (px.getD (0 + (Int.toNat ((b + (j : Int)) * W + a)) * 1 + k) 0))]), (38, iq 4), (39, .bool false)] ?_
   refine cont_done ?_
   refine then_normal ?_
   refine cont_seq ?_
   refine cont_false rfl ?_
   refine cont_exit ?_
   refine then_exit ?_
   refine then_exit ?_
   refine blk_exit ?_
   refine blk_normal ?_
   refine then_normal ?_
   refine cont_region 2 rfl ?_
   refine bS [0] 1 1 [(0, .pointer (pB m)), (3, .pointer (pB b1)), (6, .slice A22 ((((N' + 1) + 1) + 1) + 1) cp22), (7, iq (b + (j : Int))), (30, .slice (some ⟨r, 0 + (Int.toNat ((b + (j : Int)) * W + a)) * 1, none⟩) (Int.toNat ((b + (j : Int)) * W + c) - Int.toNat ((b + (j : Int)) * W + a)) (cap - Int.toNat ((b + (j : Int)) * W + a))), (31, iq (((Int.toNat ((b + (j : Int)) * W + c) - Int.toNat ((b + (j : Int)) * W + a)) : Nat) : Int)), (47, iq (IntKind.i64.wrap ((k : Int) + 1)))] ?_
   refine cont_recast 47 (iq (IntKind.i64.wrap ((k : Int) + 1))) (iq ((k : Int) + 1)) rfl (wrapI (by omega) (by omega)) ?_
   refine bS [0] 2 0 [(0, .pointer (pB m)), (3, .pointer (pB b1)), (6, .slice A22 ((((N' + 1) + 1) + 1) + 1) cp22), (7, iq (b + (j : Int))), (30, .slice (some ⟨r, 0 + (Int.toNat ((b + (j : Int)) * W + a)) * 1, none⟩) (Int.toNat ((b + (j : Int)) * W + c) - Int.toNat ((b + (j : Int)) * W + a)) (cap - Int.toNat ((b + (j : Int)) * W + a))), (31, iq (((Int.toNat ((b + (j : Int)) * W + c) - Int.toNat ((b + (j : Int)) * W + a)) : Nat) : Int)), (32, iq ((k : Int) + 1))] ?_
   refine cont_done ?_
   refine then_normal ?_
   refine cont_recast 30 (.slice (some ⟨r, 0 + (Int.toNat ((b + (j : Int)) * W + a)) * 1, none⟩) (Int.toNat ((b + (j : Int)) * W + c) - Int.toNat ((b + (j : Int)) * W + a)) (cap - Int.toNat ((b + (j : Int)) * W + a))) (.slice (sliceA r 0 (Int.toNat ((b + (j : Int)) * W + a)) cap 1) (Int.toNat ((b + (j : Int)) * W + c) - Int.toNat ((b + (j : Int)) * W + a)) (cap - Int.toNat ((b + (j : Int)) * W + a))) rfl (by rw [sliceA_pos (by omega)]) ?_
   refine cont_rowEq (k := .u8) 0 (((((rdP W px a b c j ++ rdK W px (b + (j : Int)) a k) ++ [pa (px.getD (0 + (Int.toNat ((b + (j : Int)) * W + a)) * 1 + k) 0)]) ++ [pr (px.getD (0 + (Int.toNat ((b + (j : Int)) * W + a)) * 1 + k) 0)]) ++ [pg (px.getD (0 + (Int.toNat ((b + (j : Int)) * W + a)) * 1 + k) 0)]) ++ [pb (px.getD (0 + (Int.toNat ((b + (j : Int)) * W + a)) * 1 + k) 0)]) (rdP W px a b c j ++ rdK W px (b + (j : Int)) a (k + 1)) rfl (by rw [rdK_succ]; simp only [parts4, List.append_assoc, List.cons_append, List.nil_append, Nat.zero_add, Nat.mul_one]) ?_
   refine cont_again (k + 1, ((((N' + 1) + 1) + 1) + 1), A22, g22, cp22) (show ((k + 1) : Int) ≤ c - a ∧ (((((N' + 1) + 1) + 1) + 1)) = j * (4 * Int.toNat (c - a)) + 4 * (k + 1) from ⟨by omega, by omega⟩) (show (c - a - (k + 1)).toNat < (c - a - k).toNat from by omega) (by kernel_rfl) (by kernel_rfl)
  replace c7_ := of_decide_eq_false c7_
  refine cont_false rfl ?_
  refine cont_exit ?_
  refine then_exit ?_
  refine then_exit ?_
  refine blk_exit ?_
  refine blk_normal ?_
  refine then_normal ?_
  refine cont_region 3 rfl ?_
  refine bS [0, 0] 2 1 [(0, .pointer (pB m)), (3, .pointer (pB b1)), (6, .slice A' N' cp'), (23, iq (IntKind.i64.wrap ((b + (j : Int)) + 1)))] ?_
  refine cont_recast 23 (iq (IntKind.i64.wrap ((b + (j : Int)) + 1))) (iq ((b + (j : Int)) + 1)) rfl (wrapI (by omega) (by omega)) ?_
  refine bS [0] 3 0 [(0, .pointer (pB m)), (3, .pointer (pB b1)), (6, .slice A' N' cp'), (7, iq ((b + (j : Int)) + 1))] ?_
  refine cont_done ?_
  refine then_normal ?_
  refine cont_rowEq (k := .u8) 0 (rdP W px a b c j ++ rdK W px (b + (j : Int)) a k) (rdP W px a b c (j + 1)) rfl (by rw [rdP_succ, rdRow, show Int.toNat (c - a) = k by omega]) ?_
  refine cont_recast 7 (iq ((b + (j : Int)) + 1)) (iq (b + ((j + 1 : Nat) : Int))) rfl (congrArg (Value.int .i64) (by omega)) ?_
  refine cont_again (j + 1, N', A', g', cp') (show b + ((j + 1) : Int) ≤ d ∧ (N') = (j + 1) * (4 * Int.toNat (c - a)) from ⟨by omega, by rw [show k = Int.toNat (c - a) by omega] at hN'; rw [Nat.add_mul]; omega⟩) (show (d - b - (j + 1)).toNat < (d - b - j).toNat from by omega) (by kernel_rfl) (by kernel_rfl)
 replace c5_ := of_decide_eq_false c5_
 refine cont_false rfl ?_
 refine cont_exit ?_
 refine then_exit ?_
 refine then_exit ?_
 refine blk_exit ?_
 refine then_normal ?_
 refine cont_seq ?_
 refine cont_region 3 rfl ?_
 refine bS [0, 0, 0] 3 0 [(4, .slice A N cp), (5, iq 0)] ?_
 refine cont_forget 1 rfl ?_
 refine cont_done ?_
 refine then_normal ?_
 refine cont_ret ?_
 refine ret_two (.inl rfl) rfl 0 0 (.slice A N cp) (iq 0) (by kernel_rfl) (by kernel_rfl) (by kernel_rfl) (by kernel_rfl) (fun w hT => ?_)
 replace hT := hT.erase 2 (fun e h hw => by cases h; first | rfl | cases hw)
 replace hT := hT.erase 1 (fun e h hw => by cases h; first | rfl | cases hw)
 have hjd : j = Int.toNat (d - b) := by omega
 subst hjd
 have hpos : 1 * 4 ≤ Int.toNat (d - b) * (4 * Int.toNat (c - a)) := Nat.mul_le_mul (by omega) (by omega)
 have hA := (Row.facts (hT.ok 0 _ rfl)).1 (by omega)
 subst hA
 exact ⟨_, _, _, rfl, hT⟩

end Go.Proofs.Ytommojgfkkoghaa
