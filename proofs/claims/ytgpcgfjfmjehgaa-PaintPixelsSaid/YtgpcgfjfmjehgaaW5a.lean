/- Contracts of functions of the given program, printed by a program of this project. -/
import Derived.Test.YtgpcgfjfmjehgaaW5
import Derived.Test.YtgpcgfjfmjehgaaProg
set_option linter.unusedVariables false
set_option linter.unusedSimpArgs false
namespace Go.Proofs.Ytgpcgfjfmjehgaa
open Go Go.RowKit
set_option maxRecDepth 100000

theorem walkPaintPixels (c : Int) (A1 : Option Addr) (g1 o1 n1 cap1 : Nat) (xs1 : List Int) (w : World) (hc : 0 ≤ c ∧ c < 4294967296) (hr1 : Rd w A1 g1 o1 n1 1 (ivals .u32 xs1)) (hl1 : xs1.length = n1) (hc1 : n1 ≤ cap1) (hm1 : cap1 ≤ maxLen) (hx1 : ∀ x ∈ xs1, 0 ≤ x ∧ x < 4294967296) :
    Calls Try.prog 4 #[.int .u32 c, .slice A1 n1 cap1] w fun e w' => e = .returned (.bool true) ∧ Below w.heap.size w w' := by
  unfold maxLen at hm1
  refine enter 55 [(0, .int .u32 c), (1, .slice A1 n1 cap1)] [.gen (rdE (A1) g1 o1 n1 1 (ivals .u32 xs1))] Try.func4 rfl Try.ntmps4 rfl (by kernel_rfl) hr1.tab ?_
  refine cont_seq ?_
  refine cont_region 1 rfl ?_
  refine batch0 [0] 1 0 [(0, .int .u32 c), (1, .slice A1 n1 cap1)] [.gen (rdE (A1) g1 o1 n1 1 (ivals .u32 xs1))] rfl rfl (by kernel_rfl) (by kernel_rfl) ?_
  refine cont_done ?_
  refine then_normal ?_
  refine cont_seq ?_
  refine cont_region 3 rfl ?_
  refine batch0 [0] 1 2 [(1, .slice A1 n1 cap1), (11, .int .u32 c)] [.gen (rdE (A1) g1 o1 n1 1 (ivals .u32 xs1))] rfl rfl (by kernel_rfl) (by kernel_rfl) ?_
  refine pl_step 2 1 rfl rfl ?_
  refine call_pure (d := 12) (.int .u32 (goodC c)) (by kernel_rfl) (fun w hT => refGood3 c w (by omega) (by omega)) ?_
  refine batch0 [0] 3 0 [(1, .slice A1 n1 cap1), (5, .int .u32 (goodC c))] [.gen (rdE (A1) g1 o1 n1 1 (ivals .u32 xs1))] rfl rfl (by kernel_rfl) (by kernel_rfl) ?_
  refine cont_done ?_
  refine then_normal ?_
  refine cont_seq ?_
  refine cont_region 1 rfl ?_
  refine batch0 [0] 1 0 [(1, .slice A1 n1 cap1), (5, .int .u32 (goodC c)), (6, .slice none 0 0)] [.gen (rdE (A1) g1 o1 n1 1 (ivals .u32 xs1))] rfl rfl (by kernel_rfl) (by kernel_rfl) ?_
  refine cont_done ?_
  refine then_normal ?_
  refine cont_seq ?_
  refine cont_region 2 rfl ?_
  refine batch0 [0, 0] 2 0 [(1, .slice A1 n1 cap1), (5, .int .u32 (goodC c)), (6, .slice none 0 0), (7, .int .u32 (goodC c))] [.gen (rdE (A1) g1 o1 n1 1 (ivals .u32 xs1))] rfl rfl (by kernel_rfl) (by kernel_rfl) ?_
  refine cont_done ?_
  refine then_normal ?_
  refine cont_seq ?_
  refine cont_seq ?_
  refine cont_region 1 rfl ?_
  refine batch0 [0] 1 0 [(1, .slice A1 n1 cap1), (5, .int .u32 (goodC c)), (6, .slice none 0 0), (7, .int .u32 (goodC c)), (8, .int .i64 0)] [.gen (rdE (A1) g1 o1 n1 1 (ivals .u32 xs1))] rfl rfl (by kernel_rfl) (by kernel_rfl) ?_
  refine cont_done ?_
  refine then_normal ?_
  refine cont_block ?_
  refine cont_nilrow 45 1 ?_
  refine cont_norm [(1, .slice A1 n1 cap1), (5, .int .u32 (goodC c)), (6, .slice none 0 0), (7, .int .u32 (goodC c)), (8, .int .i64 0)] [.gen (rowE (none) 0 0 0 45 1 (ivals .u32 []) true), .gen (rdE (A1) g1 o1 n1 1 (ivals .u32 xs1))] (by kernel_rfl) rfl ?_
  refine cont_rowEq 0 ([]) (gl xs1 0) rfl rfl ?_
  refine cont_loop (α := Nat × Option Addr × Nat × Nat) (fun x_ : Nat × Option Addr × Nat × Nat => x_.1 ≤ n1 ∧ x_.1 ≤ 8) (fun x_ : Nat × Option Addr × Nat × Nat => [(1, .slice A1 n1 cap1), (5, .int .u32 (goodC c)), (6, .slice x_.2.1 x_.1 x_.2.2.2), (7, .int .u32 (pixC (goodC c) (gl xs1 x_.1))), (8, .int .i64 (x_.1 : Int))]) (fun x_ : Nat × Option Addr × Nat × Nat => [.gen (rowE (x_.2.1) x_.2.2.1 x_.1 x_.2.2.2 45 1 (ivals .u32 (gl xs1 x_.1)) true), .gen (rdE (A1) g1 o1 n1 1 (ivals .u32 xs1))]) (fun x_ : Nat × Option Addr × Nat × Nat => n1 - x_.1) (0, none, 0, 0) (⟨by omega, by omega⟩) (by kernel_rfl) (by kernel_rfl) ?_
  rintro ⟨i, A, g, cp⟩ hinv2_
  replace hinv2_ : i ≤ n1 ∧ i ≤ 8 := hinv2_
  refine cont_norm [(1, .slice A1 n1 cap1), (5, .int .u32 (goodC c)), (6, .slice A i cp), (7, .int .u32 (pixC (goodC c) (gl xs1 i))), (8, .int .i64 (i : Int))] [.gen (rowE (A) g i cp 45 1 (ivals .u32 (gl xs1 i)) true), .gen (rdE (A1) g1 o1 n1 1 (ivals .u32 xs1))] (by kernel_rfl) rfl ?_
  obtain ⟨hi1, hi2⟩ := hinv2_
  have hxi : i < n1 → 0 ≤ xs1.getD i 0 ∧ xs1.getD i 0 < 4294967296 := fun h => hx1 _ (by rw [List.getD_eq_getElem?_getD, List.getElem?_eq_getElem (by omega)]; simp)
  have hgd : 0 ≤ goodC (xs1.getD i 0) ∧ goodC (xs1.getD i 0) < 4294967296 := mkC_range _ _ _ _
  have hpx : 0 ≤ pixC (goodC c) (gl xs1 i) ∧ pixC (goodC c) (gl xs1 i) < 4294967296 := pixC_in (mkC_range _ _ _ _) _
  refine cont_seq ?_
  refine cont_seq ?_
  refine cont_region 8 rfl ?_
  refine batch0 [0, 0, 0, 0, 0] 5 3 [(1, .slice A1 n1 cap1), (5, .int .u32 (goodC c)), (6, .slice A i cp), (7, .int .u32 (pixC (goodC c) (gl xs1 i))), (8, .int .i64 (i : Int)), (18, .bool (decide ((i : Int) < (n1 : Int))))] [.gen (rowE (A) g i cp 45 1 (ivals .u32 (gl xs1 i)) true), .gen (rdE (A1) g1 o1 n1 1 (ivals .u32 xs1))] rfl rfl (by kernel_rfl) (by kernel_rfl) ?_
  refine cont_split 18 (decide ((i : Int) < (n1 : Int))) rfl (fun c3_ => ?_) (fun c3_ => ?_)
  ·
    replace c3_ := of_decide_eq_true c3_
    refine batch0 [0, 0, 0] 8 0 [(1, .slice A1 n1 cap1), (5, .int .u32 (goodC c)), (6, .slice A i cp), (7, .int .u32 (pixC (goodC c) (gl xs1 i))), (8, .int .i64 (i : Int)), (19, .int .i64 (i : Int)), (20, .bool (decide ((i : Int) < 8))), (21, .bool (decide ((i : Int) < 8)))] [.gen (rowE (A) g i cp 45 1 (ivals .u32 (gl xs1 i)) true), .gen (rdE (A1) g1 o1 n1 1 (ivals .u32 xs1))] rfl rfl (by kernel_rfl) (by kernel_rfl) ?_
    refine cont_done ?_
    refine then_normal ?_
    refine cont_split 21 (decide ((i : Int) < 8)) rfl (fun c4_ => ?_) (fun c4_ => ?_)
    ·
      refine cont_recast 20 (.bool (decide ((i : Int) < 8))) (.bool true) rfl (congrArg Value.bool c4_) ?_
      replace c4_ := of_decide_eq_true c4_
      refine cont_true rfl ?_
      refine cont_skip ?_
      refine then_normal ?_
      refine cont_seq ?_
      refine cont_block ?_
      refine cont_seq ?_
      refine cont_region 6 rfl ?_
      refine batch0 [0, 0] 2 4 [(1, .slice A1 n1 cap1), (5, .int .u32 (goodC c)), (6, .slice A i cp), (7, .int .u32 (pixC (goodC c) (gl xs1 i))), (8, .int .i64 (i : Int)), (19, .int .i64 (i : Int)), (20, .bool true), (24, .slice A1 n1 cap1), (25, .int .i64 (i : Int))] [.gen (rowE (A) g i cp 45 1 (ivals .u32 (gl xs1 i)) true), .gen (rdE (A1) g1 o1 n1 1 (ivals .u32 xs1))] rfl rfl (by kernel_rfl) (by kernel_rfl) ?_
      refine pl_step 3 3 rfl rfl ?_
      refine cont_recast 24 (.slice A1 n1 cap1) (.slice (some ⟨g1, o1, none⟩) n1 cap1) rfl (by rw [hr1.at_ (by omega)]) ?_
      refine sem_step 26 (Instr.indexAt 22 (.slice (some ⟨g1, o1, none⟩) n1 cap1) (.int .i64 (i : Int))) (.pointer (some ⟨g1, o1 + i, none⟩)) (by kernel_rfl) (fun w hT => run_indexAt (e := 45) (sz := 1) _ (by kernel_rfl) (by kernel_rfl) (by omega) (by omega) (by omega) w) ?_
      refine pl_step 4 2 rfl rfl ?_
      refine sem_step 27 (Instr.loadAt 45 (.pointer (some ⟨g1, o1 + i, none⟩))) (.int .u32 (xs1.getD i 0)) (by kernel_rfl) (fun w hT => run_load1 (by kernel_rfl) (Rd.cell (hT.ok 1 _ rfl) (i) _ (ivals_get (by omega)))) ?_
      refine pl_step 5 1 rfl rfl ?_
      refine call_pure (d := 28) (.int .u32 (goodC (xs1.getD i 0))) (by kernel_rfl) (fun w hT => refGood3 (xs1.getD i 0) w (by omega) (by omega)) ?_
      refine batch0 [0] 6 0 [(1, .slice A1 n1 cap1), (5, .int .u32 (goodC c)), (6, .slice A i cp), (7, .int .u32 (pixC (goodC c) (gl xs1 i))), (8, .int .i64 (i : Int)), (9, .int .u32 (goodC (xs1.getD i 0))), (19, .int .i64 (i : Int)), (20, .bool true)] [.gen (rowE (A) g i cp 45 1 (ivals .u32 (gl xs1 i)) true), .gen (rdE (A1) g1 o1 n1 1 (ivals .u32 xs1))] rfl rfl (by kernel_rfl) (by kernel_rfl) ?_
      refine cont_done ?_
      refine then_normal ?_
      refine cont_seq ?_
      refine cont_region 5 rfl ?_
      refine batch1 [0, 0, 0] 3 2 (fun b5 => [(1, .slice A1 n1 cap1), (5, .int .u32 (goodC c)), (7, .int .u32 (pixC (goodC c) (gl xs1 i))), (8, .int .i64 (i : Int)), (9, .int .u32 (goodC (xs1.getD i 0))), (19, .int .i64 (i : Int)), (20, .bool true), (29, .slice A i cp), (31, .slice (some ⟨b5, 0, none⟩) 1 1)]) (fun b5 => [.cells b5 [.int .u32 (goodC (xs1.getD i 0))] 45 true, .gen (rowE (A) g i cp 45 1 (ivals .u32 (gl xs1 i)) true), .gen (rdE (A1) g1 o1 n1 1 (ivals .u32 xs1))]) rfl rfl [1, 5, 7, 8, 9, 19, 20, 29, 31] (fun _ => rfl) (fun b5 => by kernel_rfl) (fun b5 => by kernel_rfl) (fun b5 => ?_)
      refine pl_step 4 1 rfl rfl ?_
      refine sem_stepW (α := Option Addr × Nat × Nat) 32 (Builtin.append_ #[22, 22] 22 #[.slice A i cp, .slice (some ⟨b5, 0, none⟩) 1 1]) (fun x_ => .slice x_.1 (i + 1) x_.2.2) (fun x_ => [.cells b5 [.int .u32 (goodC (xs1.getD i 0))] 45 true, .gen (rowE (x_.1) x_.2.1 (i + 1) x_.2.2 45 1 (ivals .u32 ((gl xs1 i) ++ [goodC (xs1.getD i 0)])) true), .gen (rdE (A1) g1 o1 n1 1 (ivals .u32 xs1))]) (fun _ => True) (by kernel_rfl) (fun w hT => append_own (n' := (i + 1)) (z := .int .u32 0) hT (i := 1) (bytes := 4) rfl (by kernel_rfl) (by kernel_rfl) rfl (by decide) (by decide) (Rd.ofCells (vals := ivals .u32 [goodC (xs1.getD i 0)]) (hT.ok 0 _ rfl) rfl rfl) (ivals_one .u32 [goodC (xs1.getD i 0)]) (by omega) (ivals_append .u32 (gl xs1 i) [goodC (xs1.getD i 0)]) rfl) ?_
      rintro ⟨A6, g6, cp6⟩ -
      refine cont_norm [(1, .slice A1 n1 cap1), (5, .int .u32 (goodC c)), (7, .int .u32 (pixC (goodC c) (gl xs1 i))), (8, .int .i64 (i : Int)), (9, .int .u32 (goodC (xs1.getD i 0))), (19, .int .i64 (i : Int)), (20, .bool true), (29, .slice A i cp), (31, .slice (some ⟨b5, 0, none⟩) 1 1), (32, .slice A6 (i + 1) cp6)] [.cells b5 [.int .u32 (goodC (xs1.getD i 0))] 45 true, .gen (rowE (A6) g6 (i + 1) cp6 45 1 (ivals .u32 ((gl xs1 i) ++ [goodC (xs1.getD i 0)])) true), .gen (rdE (A1) g1 o1 n1 1 (ivals .u32 xs1))] (by kernel_rfl) rfl ?_
      refine cont_fact (F := (0 < (i + 1) → (A6 : Option Addr) = some ⟨g6, 0, none⟩) ∧ ((gl xs1 i) ++ [goodC (xs1.getD i 0)]).length = (i + 1) ∧ (i + 1) ≤ cp6 ∧ cp6 ≤ maxLen) (fun w hT => Row.facts (hT.ok 1 _ rfl)) (fun hr7_ => ?_)
      obtain ⟨hr7_a, hr7_l, hr7_c, hr7_m⟩ := hr7_
      unfold maxLen at hr7_m
      refine batch0 [0] 5 0 [(1, .slice A1 n1 cap1), (5, .int .u32 (goodC c)), (6, .slice A6 (i + 1) cp6), (7, .int .u32 (pixC (goodC c) (gl xs1 i))), (8, .int .i64 (i : Int)), (9, .int .u32 (goodC (xs1.getD i 0))), (19, .int .i64 (i : Int)), (20, .bool true)] [.cells b5 [.int .u32 (goodC (xs1.getD i 0))] 45 true, .gen (rowE (A6) g6 (i + 1) cp6 45 1 (ivals .u32 ((gl xs1 i) ++ [goodC (xs1.getD i 0)])) true), .gen (rdE (A1) g1 o1 n1 1 (ivals .u32 xs1))] rfl rfl (by kernel_rfl) (by kernel_rfl) ?_
      refine cont_forget 0 rfl ?_
      refine cont_done ?_
      refine then_normal ?_
      refine cont_region 4 rfl ?_
      refine batch0 [0, 0] 2 2 [(1, .slice A1 n1 cap1), (5, .int .u32 (goodC c)), (6, .slice A6 (i + 1) cp6), (8, .int .i64 (i : Int)), (19, .int .i64 (i : Int)), (20, .bool true), (33, .int .u32 (goodC (xs1.getD i 0))), (34, .int .u32 (pixC (goodC c) (gl xs1 i)))] [.gen (rowE (A6) g6 (i + 1) cp6 45 1 (ivals .u32 ((gl xs1 i) ++ [goodC (xs1.getD i 0)])) true), .gen (rdE (A1) g1 o1 n1 1 (ivals .u32 xs1))] rfl rfl (by kernel_rfl) (by kernel_rfl) ?_
      refine pl_step 3 1 rfl rfl ?_
      refine call_pure (d := 35) (.int .u32 (overC (goodC (xs1.getD i 0)) (pixC (goodC c) (gl xs1 i)))) (by kernel_rfl) (fun w hT => refOver (goodC (xs1.getD i 0)) (pixC (goodC c) (gl xs1 i)) w (by omega) (by omega) (by omega) (by omega)) ?_
      refine batch0 [0] 4 0 [(1, .slice A1 n1 cap1), (5, .int .u32 (goodC c)), (6, .slice A6 (i + 1) cp6), (7, .int .u32 (overC (goodC (xs1.getD i 0)) (pixC (goodC c) (gl xs1 i)))), (8, .int .i64 (i : Int)), (19, .int .i64 (i : Int)), (20, .bool true)] [.gen (rowE (A6) g6 (i + 1) cp6 45 1 (ivals .u32 ((gl xs1 i) ++ [goodC (xs1.getD i 0)])) true), .gen (rdE (A1) g1 o1 n1 1 (ivals .u32 xs1))] rfl rfl (by kernel_rfl) (by kernel_rfl) ?_
      refine cont_done ?_
      refine blk_normal ?_
      refine then_normal ?_
      refine cont_region 3 rfl ?_
      refine batch0 [0, 0] 2 1 [(1, .slice A1 n1 cap1), (5, .int .u32 (goodC c)), (6, .slice A6 (i + 1) cp6), (7, .int .u32 (overC (goodC (xs1.getD i 0)) (pixC (goodC c) (gl xs1 i)))), (19, .int .i64 (i : Int)), (20, .bool true), (23, .int .i64 (IntKind.i64.wrap ((i : Int) + 1)))] [.gen (rowE (A6) g6 (i + 1) cp6 45 1 (ivals .u32 ((gl xs1 i) ++ [goodC (xs1.getD i 0)])) true), .gen (rdE (A1) g1 o1 n1 1 (ivals .u32 xs1))] rfl rfl (by kernel_rfl) (by kernel_rfl) ?_
      refine cont_recast 23 (.int .i64 (IntKind.i64.wrap ((i : Int) + 1))) (.int .i64 ((i : Int) + 1)) rfl (wrapI (by omega) (by omega)) ?_
      refine batch0 [0] 3 0 [(1, .slice A1 n1 cap1), (5, .int .u32 (goodC c)), (6, .slice A6 (i + 1) cp6), (7, .int .u32 (overC (goodC (xs1.getD i 0)) (pixC (goodC c) (gl xs1 i)))), (8, .int .i64 ((i : Int) + 1)), (19, .int .i64 (i : Int)), (20, .bool true)] [.gen (rowE (A6) g6 (i + 1) cp6 45 1 (ivals .u32 ((gl xs1 i) ++ [goodC (xs1.getD i 0)])) true), .gen (rdE (A1) g1 o1 n1 1 (ivals .u32 xs1))] rfl rfl (by kernel_rfl) (by kernel_rfl) ?_
      refine cont_done ?_
      refine then_normal ?_
      refine cont_rowEq 0 ((gl xs1 i) ++ [goodC (xs1.getD i 0)]) (gl xs1 (i + 1)) rfl (gl_succ (by omega)) ?_
      refine cont_recast 7 (.int .u32 (overC (goodC (xs1.getD i 0)) (pixC (goodC c) (gl xs1 i)))) (.int .u32 (pixC (goodC c) (gl xs1 (i + 1)))) rfl (congrArg (Value.int .u32) (gl_pix (by omega))) ?_
      refine cont_again (i + 1, A6, g6, cp6) (show (i + 1) ≤ n1 ∧ (i + 1) ≤ 8 from ⟨by omega, by omega⟩) (show n1 - (i + 1) < n1 - i from by omega) (by kernel_rfl) (by kernel_rfl)
    refine cont_recast 20 (.bool (decide ((i : Int) < 8))) (.bool false) rfl (congrArg Value.bool c4_) ?_
    replace c4_ := of_decide_eq_false c4_
    refine cont_false rfl ?_
    refine cont_exit ?_
    refine then_exit ?_
    refine then_exit ?_
    refine blk_exit ?_
    refine then_normal ?_
    refine cont_seq ?_
    refine cont_region 4 rfl ?_
    refine batch1 [0, 0] 2 2 (fun b8 => [(5, .int .u32 (goodC c)), (6, .slice A i cp), (7, .int .u32 (pixC (goodC c) (gl xs1 i))), (36, .slice (some ⟨b8, 0, none⟩) 1 1), (37, .slice A i cp)]) (fun b8 => [.cells b8 [.int .u32 4278190080] 45 true, .gen (rowE (A) g i cp 45 1 (ivals .u32 (gl xs1 i)) true), .gen (rdE (A1) g1 o1 n1 1 (ivals .u32 xs1))]) rfl rfl [5, 6, 7, 36, 37] (fun _ => rfl) (fun b8 => by kernel_rfl) (fun b8 => by kernel_rfl) (fun b8 => ?_)
    refine pl_step 3 1 rfl rfl ?_
    refine cont_asRow 0 1 1 rfl (vals := ivals .u32 [4278190080]) rfl rfl (by decide) ?_
    refine sem_stepW (α := Option Addr × Nat × Nat) 38 (Builtin.append_ #[22, 22] 22 #[.slice (some ⟨b8, 0, none⟩) 1 1, .slice A i cp]) (fun x_ => .slice x_.1 (1 + i) x_.2.2) (fun x_ => [.gen (rowE (x_.1) x_.2.1 (1 + i) x_.2.2 45 1 (ivals .u32 ([4278190080] ++ (gl xs1 i))) true), .gen (rowE (A) g i cp 45 1 (ivals .u32 (gl xs1 i)) true), .gen (rdE (A1) g1 o1 n1 1 (ivals .u32 xs1))]) (fun _ => True) (by kernel_rfl) (fun w hT => append_own (n' := (1 + i)) (z := .int .u32 0) hT (i := 0) (bytes := 4) rfl (by kernel_rfl) (by kernel_rfl) rfl (by decide) (by decide) (Row.rd (hT.ok 1 _ rfl)) (ivals_one .u32 (gl xs1 i)) (by omega) (ivals_append .u32 [4278190080] (gl xs1 i)) rfl) ?_
    rintro ⟨A9, g9, cp9⟩ -
    refine cont_norm [(5, .int .u32 (goodC c)), (6, .slice A i cp), (7, .int .u32 (pixC (goodC c) (gl xs1 i))), (36, .slice (some ⟨b8, 0, none⟩) 1 1), (37, .slice A i cp), (38, .slice A9 (1 + i) cp9)] [.gen (rowE (A9) g9 (1 + i) cp9 45 1 (ivals .u32 ([4278190080] ++ (gl xs1 i))) true), .gen (rowE (A) g i cp 45 1 (ivals .u32 (gl xs1 i)) true), .gen (rdE (A1) g1 o1 n1 1 (ivals .u32 xs1))] (by kernel_rfl) rfl ?_
    refine cont_fact (F := (0 < (1 + i) → (A9 : Option Addr) = some ⟨g9, 0, none⟩) ∧ ([4278190080] ++ (gl xs1 i)).length = (1 + i) ∧ (1 + i) ≤ cp9 ∧ cp9 ≤ maxLen) (fun w hT => Row.facts (hT.ok 0 _ rfl)) (fun hr10_ => ?_)
    obtain ⟨hr10_a, hr10_l, hr10_c, hr10_m⟩ := hr10_
    unfold maxLen at hr10_m
    refine batch0 [0] 4 0 [(5, .int .u32 (goodC c)), (6, .slice A i cp), (7, .int .u32 (pixC (goodC c) (gl xs1 i))), (10, .slice A9 (1 + i) cp9)] [.gen (rowE (A9) g9 (1 + i) cp9 45 1 (ivals .u32 ([4278190080] ++ (gl xs1 i))) true), .gen (rowE (A) g i cp 45 1 (ivals .u32 (gl xs1 i)) true), .gen (rdE (A1) g1 o1 n1 1 (ivals .u32 xs1))] rfl rfl (by kernel_rfl) (by kernel_rfl) ?_
    refine cont_done ?_
    refine then_normal ?_
    refine cont_seq ?_
    refine cont_region 17 rfl ?_
    refine batch0 [0, 0] 2 15 [(5, .int .u32 (goodC c)), (7, .int .u32 (pixC (goodC c) (gl xs1 i))), (10, .slice A9 (1 + i) cp9), (39, .int .u32 (goodC c)), (40, .slice A i cp)] [.gen (rowE (A9) g9 (1 + i) cp9 45 1 (ivals .u32 ([4278190080] ++ (gl xs1 i))) true), .gen (rowE (A) g i cp 45 1 (ivals .u32 (gl xs1 i)) true), .gen (rdE (A1) g1 o1 n1 1 (ivals .u32 xs1))] rfl rfl (by kernel_rfl) (by kernel_rfl) ?_
    refine pl_step 3 14 rfl rfl ?_
    refine call_pure (d := 41) (.int .u32 (pixC (goodC c) (gl xs1 i))) (by kernel_rfl) (fun w hT => paintPixel A g 0 i cp (gl xs1 i) (goodC c) w (hT.viewRo (.cons (i := 1) rfl Vw.rowRd .nil) rfl) (by omega) (gl_in _ _) (mkC_range _ _ _ _)) ?_
    refine batch0 [0, 0, 0] 6 11 [(5, .int .u32 (goodC c)), (10, .slice A9 (1 + i) cp9), (44, .bool ((pixC (goodC c) (gl xs1 i)) == (pixC (goodC c) (gl xs1 i))))] [.gen (rowE (A9) g9 (1 + i) cp9 45 1 (ivals .u32 ([4278190080] ++ (gl xs1 i))) true), .gen (rowE (A) g i cp 45 1 (ivals .u32 (gl xs1 i)) true), .gen (rdE (A1) g1 o1 n1 1 (ivals .u32 xs1))] rfl rfl (by kernel_rfl) (by kernel_rfl) ?_
    refine cont_recast 44 (.bool ((pixC (goodC c) (gl xs1 i)) == (pixC (goodC c) (gl xs1 i)))) (.bool true) rfl (congrArg Value.bool (by simp)) ?_
    refine batch0 [0, 0] 8 9 [(10, .slice A9 (1 + i) cp9), (44, .bool true), (45, .int .u32 (goodC c)), (46, .slice A9 (1 + i) cp9)] [.gen (rowE (A9) g9 (1 + i) cp9 45 1 (ivals .u32 ([4278190080] ++ (gl xs1 i))) true), .gen (rowE (A) g i cp 45 1 (ivals .u32 (gl xs1 i)) true), .gen (rdE (A1) g1 o1 n1 1 (ivals .u32 xs1))] rfl rfl (by kernel_rfl) (by kernel_rfl) ?_
    refine pl_step 9 8 rfl rfl ?_
    refine call_pure (d := 47) (.int .u32 (pixC (goodC c) ([4278190080] ++ (gl xs1 i)))) (by kernel_rfl) (fun w hT => paintPixel A9 g9 0 (1 + i) cp9 ([4278190080] ++ (gl xs1 i)) (goodC c) w (hT.viewRo (.cons (i := 0) rfl Vw.rowRd .nil) rfl) (by omega) (fun x hx_ => by rcases List.mem_append.1 hx_ with h_ | h_; exact (by rw [List.mem_singleton.1 h_]; exact ⟨by decide, by decide⟩); exact gl_in _ _ x h_) (mkC_range _ _ _ _)) ?_
    refine batch0 [0] 10 7 [(44, .bool true), (47, .int .u32 (pixC (goodC c) ([4278190080] ++ (gl xs1 i)))), (48, .slice A9 (1 + i) cp9)] [.gen (rowE (A9) g9 (1 + i) cp9 45 1 (ivals .u32 ([4278190080] ++ (gl xs1 i))) true), .gen (rowE (A) g i cp 45 1 (ivals .u32 (gl xs1 i)) true), .gen (rdE (A1) g1 o1 n1 1 (ivals .u32 xs1))] rfl rfl (by kernel_rfl) (by kernel_rfl) ?_
    refine pl_step 11 6 rfl rfl ?_
    refine call_pure (d := 49) (.int .u32 (pixC 0 ([4278190080] ++ (gl xs1 i)))) (by kernel_rfl) (fun w hT => paintPixel A9 g9 0 (1 + i) cp9 ([4278190080] ++ (gl xs1 i)) 0 w (hT.viewRo (.cons (i := 0) rfl Vw.rowRd .nil) rfl) (by omega) (fun x hx_ => by rcases List.mem_append.1 hx_ with h_ | h_; exact (by rw [List.mem_singleton.1 h_]; exact ⟨by decide, by decide⟩); exact gl_in _ _ x h_) ⟨by decide, by decide⟩) ?_
    refine cont_recast 49 (.int .u32 (pixC 0 ([4278190080] ++ (gl xs1 i)))) (.int .u32 (pixC (goodC c) ([4278190080] ++ (gl xs1 i)))) rfl (congrArg (Value.int .u32) (pixC_solid' (s := 4278190080) ⟨by decide, by decide⟩ (by decide) 0 (goodC c) _)) ?_
    refine batch0 [0, 0, 0] 14 3 [(52, .bool ((pixC (goodC c) ([4278190080] ++ (gl xs1 i))) == (pixC (goodC c) ([4278190080] ++ (gl xs1 i)))))] [.gen (rowE (A9) g9 (1 + i) cp9 45 1 (ivals .u32 ([4278190080] ++ (gl xs1 i))) true), .gen (rowE (A) g i cp 45 1 (ivals .u32 (gl xs1 i)) true), .gen (rdE (A1) g1 o1 n1 1 (ivals .u32 xs1))] rfl rfl (by kernel_rfl) (by kernel_rfl) ?_
    refine cont_recast 52 (.bool ((pixC (goodC c) ([4278190080] ++ (gl xs1 i))) == (pixC (goodC c) ([4278190080] ++ (gl xs1 i))))) (.bool true) rfl (congrArg Value.bool (by simp)) ?_
    refine pl_step 15 2 rfl rfl ?_
    refine call_pure (d := 53) (.bool true) (by kernel_rfl) (fun w hT => lives5  w) ?_
    refine batch0 [0, 0] 17 0 [(4, .bool true)] [.gen (rowE (A9) g9 (1 + i) cp9 45 1 (ivals .u32 ([4278190080] ++ (gl xs1 i))) true), .gen (rowE (A) g i cp 45 1 (ivals .u32 (gl xs1 i)) true), .gen (rdE (A1) g1 o1 n1 1 (ivals .u32 xs1))] rfl rfl (by kernel_rfl) (by kernel_rfl) ?_
    refine cont_done ?_
    refine then_normal ?_
    refine cont_ret ?_
    refine ret_one (.inl rfl) rfl 0 (.bool true) (by kernel_rfl) (by kernel_rfl) (fun w hT => ?_)
    exact ⟨rfl, hT.post rfl⟩
  replace c3_ := of_decide_eq_false c3_
  refine batch0 [0, 0, 0] 8 0 [(1, .slice A1 n1 cap1), (5, .int .u32 (goodC c)), (6, .slice A i cp), (7, .int .u32 (pixC (goodC c) (gl xs1 i))), (8, .int .i64 (i : Int)), (19, undef), (20, undef), (21, .bool false)] [.gen (rowE (A) g i cp 45 1 (ivals .u32 (gl xs1 i)) true), .gen (rdE (A1) g1 o1 n1 1 (ivals .u32 xs1))] rfl rfl (by kernel_rfl) (by kernel_rfl) ?_
  refine cont_done ?_
  refine then_normal ?_
  refine cont_false rfl ?_
  refine cont_exit ?_
  refine then_exit ?_
  refine then_exit ?_
  refine blk_exit ?_
  refine then_normal ?_
  refine cont_seq ?_
  refine cont_region 4 rfl ?_
  refine batch1 [0, 0] 2 2 (fun b13 => [(5, .int .u32 (goodC c)), (6, .slice A i cp), (7, .int .u32 (pixC (goodC c) (gl xs1 i))), (36, .slice (some ⟨b13, 0, none⟩) 1 1), (37, .slice A i cp)]) (fun b13 => [.cells b13 [.int .u32 4278190080] 45 true, .gen (rowE (A) g i cp 45 1 (ivals .u32 (gl xs1 i)) true), .gen (rdE (A1) g1 o1 n1 1 (ivals .u32 xs1))]) rfl rfl [5, 6, 7, 36, 37] (fun _ => rfl) (fun b13 => by kernel_rfl) (fun b13 => by kernel_rfl) (fun b13 => ?_)
  refine pl_step 3 1 rfl rfl ?_
  refine cont_asRow 0 1 1 rfl (vals := ivals .u32 [4278190080]) rfl rfl (by decide) ?_
  refine sem_stepW (α := Option Addr × Nat × Nat) 38 (Builtin.append_ #[22, 22] 22 #[.slice (some ⟨b13, 0, none⟩) 1 1, .slice A i cp]) (fun x_ => .slice x_.1 (1 + i) x_.2.2) (fun x_ => [.gen (rowE (x_.1) x_.2.1 (1 + i) x_.2.2 45 1 (ivals .u32 ([4278190080] ++ (gl xs1 i))) true), .gen (rowE (A) g i cp 45 1 (ivals .u32 (gl xs1 i)) true), .gen (rdE (A1) g1 o1 n1 1 (ivals .u32 xs1))]) (fun _ => True) (by kernel_rfl) (fun w hT => append_own (n' := (1 + i)) (z := .int .u32 0) hT (i := 0) (bytes := 4) rfl (by kernel_rfl) (by kernel_rfl) rfl (by decide) (by decide) (Row.rd (hT.ok 1 _ rfl)) (ivals_one .u32 (gl xs1 i)) (by omega) (ivals_append .u32 [4278190080] (gl xs1 i)) rfl) ?_
  rintro ⟨A14, g14, cp14⟩ -
  refine cont_norm [(5, .int .u32 (goodC c)), (6, .slice A i cp), (7, .int .u32 (pixC (goodC c) (gl xs1 i))), (36, .slice (some ⟨b13, 0, none⟩) 1 1), (37, .slice A i cp), (38, .slice A14 (1 + i) cp14)] [.gen (rowE (A14) g14 (1 + i) cp14 45 1 (ivals .u32 ([4278190080] ++ (gl xs1 i))) true), .gen (rowE (A) g i cp 45 1 (ivals .u32 (gl xs1 i)) true), .gen (rdE (A1) g1 o1 n1 1 (ivals .u32 xs1))] (by kernel_rfl) rfl ?_
  refine cont_fact (F := (0 < (1 + i) → (A14 : Option Addr) = some ⟨g14, 0, none⟩) ∧ ([4278190080] ++ (gl xs1 i)).length = (1 + i) ∧ (1 + i) ≤ cp14 ∧ cp14 ≤ maxLen) (fun w hT => Row.facts (hT.ok 0 _ rfl)) (fun hr15_ => ?_)
  obtain ⟨hr15_a, hr15_l, hr15_c, hr15_m⟩ := hr15_
  unfold maxLen at hr15_m
  refine batch0 [0] 4 0 [(5, .int .u32 (goodC c)), (6, .slice A i cp), (7, .int .u32 (pixC (goodC c) (gl xs1 i))), (10, .slice A14 (1 + i) cp14)] [.gen (rowE (A14) g14 (1 + i) cp14 45 1 (ivals .u32 ([4278190080] ++ (gl xs1 i))) true), .gen (rowE (A) g i cp 45 1 (ivals .u32 (gl xs1 i)) true), .gen (rdE (A1) g1 o1 n1 1 (ivals .u32 xs1))] rfl rfl (by kernel_rfl) (by kernel_rfl) ?_
  refine cont_done ?_
  refine then_normal ?_
  refine cont_seq ?_
  refine cont_region 17 rfl ?_
  refine batch0 [0, 0] 2 15 [(5, .int .u32 (goodC c)), (7, .int .u32 (pixC (goodC c) (gl xs1 i))), (10, .slice A14 (1 + i) cp14), (39, .int .u32 (goodC c)), (40, .slice A i cp)] [.gen (rowE (A14) g14 (1 + i) cp14 45 1 (ivals .u32 ([4278190080] ++ (gl xs1 i))) true), .gen (rowE (A) g i cp 45 1 (ivals .u32 (gl xs1 i)) true), .gen (rdE (A1) g1 o1 n1 1 (ivals .u32 xs1))] rfl rfl (by kernel_rfl) (by kernel_rfl) ?_
  refine pl_step 3 14 rfl rfl ?_
  refine call_pure (d := 41) (.int .u32 (pixC (goodC c) (gl xs1 i))) (by kernel_rfl) (fun w hT => paintPixel A g 0 i cp (gl xs1 i) (goodC c) w (hT.viewRo (.cons (i := 1) rfl Vw.rowRd .nil) rfl) (by omega) (gl_in _ _) (mkC_range _ _ _ _)) ?_
  refine batch0 [0, 0, 0] 6 11 [(5, .int .u32 (goodC c)), (10, .slice A14 (1 + i) cp14), (44, .bool ((pixC (goodC c) (gl xs1 i)) == (pixC (goodC c) (gl xs1 i))))] [.gen (rowE (A14) g14 (1 + i) cp14 45 1 (ivals .u32 ([4278190080] ++ (gl xs1 i))) true), .gen (rowE (A) g i cp 45 1 (ivals .u32 (gl xs1 i)) true), .gen (rdE (A1) g1 o1 n1 1 (ivals .u32 xs1))] rfl rfl (by kernel_rfl) (by kernel_rfl) ?_
  refine cont_recast 44 (.bool ((pixC (goodC c) (gl xs1 i)) == (pixC (goodC c) (gl xs1 i)))) (.bool true) rfl (congrArg Value.bool (by simp)) ?_
  refine batch0 [0, 0] 8 9 [(10, .slice A14 (1 + i) cp14), (44, .bool true), (45, .int .u32 (goodC c)), (46, .slice A14 (1 + i) cp14)] [.gen (rowE (A14) g14 (1 + i) cp14 45 1 (ivals .u32 ([4278190080] ++ (gl xs1 i))) true), .gen (rowE (A) g i cp 45 1 (ivals .u32 (gl xs1 i)) true), .gen (rdE (A1) g1 o1 n1 1 (ivals .u32 xs1))] rfl rfl (by kernel_rfl) (by kernel_rfl) ?_
  refine pl_step 9 8 rfl rfl ?_
  refine call_pure (d := 47) (.int .u32 (pixC (goodC c) ([4278190080] ++ (gl xs1 i)))) (by kernel_rfl) (fun w hT => paintPixel A14 g14 0 (1 + i) cp14 ([4278190080] ++ (gl xs1 i)) (goodC c) w (hT.viewRo (.cons (i := 0) rfl Vw.rowRd .nil) rfl) (by omega) (fun x hx_ => by rcases List.mem_append.1 hx_ with h_ | h_; exact (by rw [List.mem_singleton.1 h_]; exact ⟨by decide, by decide⟩); exact gl_in _ _ x h_) (mkC_range _ _ _ _)) ?_
  refine batch0 [0] 10 7 [(44, .bool true), (47, .int .u32 (pixC (goodC c) ([4278190080] ++ (gl xs1 i)))), (48, .slice A14 (1 + i) cp14)] [.gen (rowE (A14) g14 (1 + i) cp14 45 1 (ivals .u32 ([4278190080] ++ (gl xs1 i))) true), .gen (rowE (A) g i cp 45 1 (ivals .u32 (gl xs1 i)) true), .gen (rdE (A1) g1 o1 n1 1 (ivals .u32 xs1))] rfl rfl (by kernel_rfl) (by kernel_rfl) ?_
  refine pl_step 11 6 rfl rfl ?_
  refine call_pure (d := 49) (.int .u32 (pixC 0 ([4278190080] ++ (gl xs1 i)))) (by kernel_rfl) (fun w hT => paintPixel A14 g14 0 (1 + i) cp14 ([4278190080] ++ (gl xs1 i)) 0 w (hT.viewRo (.cons (i := 0) rfl Vw.rowRd .nil) rfl) (by omega) (fun x hx_ => by rcases List.mem_append.1 hx_ with h_ | h_; exact (by rw [List.mem_singleton.1 h_]; exact ⟨by decide, by decide⟩); exact gl_in _ _ x h_) ⟨by decide, by decide⟩) ?_
  refine cont_recast 49 (.int .u32 (pixC 0 ([4278190080] ++ (gl xs1 i)))) (.int .u32 (pixC (goodC c) ([4278190080] ++ (gl xs1 i)))) rfl (congrArg (Value.int .u32) (pixC_solid' (s := 4278190080) ⟨by decide, by decide⟩ (by decide) 0 (goodC c) _)) ?_
  refine batch0 [0, 0, 0] 14 3 [(52, .bool ((pixC (goodC c) ([4278190080] ++ (gl xs1 i))) == (pixC (goodC c) ([4278190080] ++ (gl xs1 i)))))] [.gen (rowE (A14) g14 (1 + i) cp14 45 1 (ivals .u32 ([4278190080] ++ (gl xs1 i))) true), .gen (rowE (A) g i cp 45 1 (ivals .u32 (gl xs1 i)) true), .gen (rdE (A1) g1 o1 n1 1 (ivals .u32 xs1))] rfl rfl (by kernel_rfl) (by kernel_rfl) ?_
  refine cont_recast 52 (.bool ((pixC (goodC c) ([4278190080] ++ (gl xs1 i))) == (pixC (goodC c) ([4278190080] ++ (gl xs1 i))))) (.bool true) rfl (congrArg Value.bool (by simp)) ?_
  refine pl_step 15 2 rfl rfl ?_
  refine call_pure (d := 53) (.bool true) (by kernel_rfl) (fun w hT => lives5  w) ?_
  refine batch0 [0, 0] 17 0 [(4, .bool true)] [.gen (rowE (A14) g14 (1 + i) cp14 45 1 (ivals .u32 ([4278190080] ++ (gl xs1 i))) true), .gen (rowE (A) g i cp 45 1 (ivals .u32 (gl xs1 i)) true), .gen (rdE (A1) g1 o1 n1 1 (ivals .u32 xs1))] rfl rfl (by kernel_rfl) (by kernel_rfl) ?_
  refine cont_done ?_
  refine then_normal ?_
  refine cont_ret ?_
  refine ret_one (.inl rfl) rfl 0 (.bool true) (by kernel_rfl) (by kernel_rfl) (fun w hT => ?_)
  exact ⟨rfl, hT.post rfl⟩

end Go.Proofs.Ytgpcgfjfmjehgaa
