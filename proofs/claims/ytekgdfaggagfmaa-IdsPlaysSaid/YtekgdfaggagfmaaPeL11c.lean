/- Contracts of functions of the given program, printed by a program of this project. -/
import Derived.Test.YtekgdfaggagfmaaPeL11b
import Derived.Test.YtekgdfaggagfmaaPeIx
import Derived.Test.YtekgdfaggagfmaaProg
set_option linter.unusedVariables false
set_option linter.unusedSimpArgs false
namespace Go.Proofs.Ytekgdfaggagfmaa
open Go Go.RowKit
set_option maxRecDepth 100000
set_option maxHeartbeats 8000000

theorem refKind11 (mo : Int) (A : Option Addr) (g o n cap : Nat) (xs : List X11) (id : Int) (w : World) (hT0 : Tab w w [.gen (rdE (A) g o n 2 (dvals X11.cells xs))]) (hn : n ≤ 1000) :
    Calls Try.prog 21 #[.agg #[.int .i64 mo, .slice A n cap], .int .i64 id] w fun e w' => e = .returned (.int .i64 (kindX xs id)) ∧ Below w.heap.size w w' := by
 obtain ⟨hra, hrl⟩ := Rd.factsD X11.size (by decide) (hT0.ok 0 _ rfl)
 refine enter 27 [(0, .agg #[iq mo, .slice A n cap]), (1, iq id)] [.gen (rdE (A) g o n 2 (dvals X11.cells xs))] Try.func21 rfl Try.ntmps21 rfl (by kernel_rfl) hT0 ?_
 refine cont_seq ?_
 refine cont_region 2 rfl ?_
 refine batch1 [0, 0] 2 0 (fun b1 => [(1, iq id), (2, .pointer (pB b1))]) (fun b1 => [.cells b1 [iq mo, .slice A n cap] 41 true, .gen (rdE (A) g o n 2 (dvals X11.cells xs))]) rfl rfl [1, 2] (fun _ => rfl) (fun b1 => by kernel_rfl) (fun b1 => by kernel_rfl) (fun b1 => ?_)
 refine cont_done ?_
 refine then_normal ?_
 refine cont_seq ?_
 refine cont_seq ?_
 refine cont_region 1 rfl ?_
 refine bS [0] 1 0 [(1, iq id), (2, .pointer (pB b1)), (5, iq 0)] ?_
 refine cont_done ?_
 refine then_normal ?_
 refine cont_block ?_
 refine cont_loop (α := Nat) (fun x_ : Nat => x_ ≤ n ∧ ∀ j, j < x_ → (dget xs j).x0 ≠ id) (fun x_ : Nat => [(1, iq id), (2, .pointer (pB b1)), (5, iq ((x_ : Nat) : Int))]) (fun x_ : Nat => [.cells b1 [iq mo, .slice A n cap] 41 true, .gen (rdE (A) g o n 2 (dvals X11.cells xs))]) (fun x_ : Nat => n - x_) 0 (⟨by omega, fun j hj => by omega⟩) (by kernel_rfl) (by kernel_rfl) ?_
 rintro i hinv2_
 replace hinv2_ : i ≤ n ∧ ∀ j, j < i → (dget xs j).x0 ≠ id := hinv2_
 refine cont_norm [(1, iq id), (2, .pointer (pB b1)), (5, iq ((i : Nat) : Int))] _ (by kernel_rfl) rfl ?_
 obtain ⟨hi, hno⟩ := hinv2_
 refine cont_seq ?_
 refine cont_seq ?_
 refine cont_region 5 rfl ?_
 refine bS [0, 0, 0, 0, 0] 5 0 [(1, iq id), (2, .pointer (pB b1)), (5, iq ((i : Nat) : Int)), (10, .bool (decide (((i : Nat) : Int) < (n : Int))))] ?_
 refine cont_done ?_
 refine then_normal ?_
 refine cont_split 10 (decide (((i : Nat) : Int) < (n : Int))) rfl (fun c3_ => ?_) (fun c3_ => ?_)
 ·
  replace c3_ := of_decide_eq_true c3_
  refine cont_true rfl ?_
  refine cont_skip ?_
  refine then_normal ?_
  refine cont_seq ?_
  refine cont_block ?_
  refine cont_seq ?_
  refine cont_region 8 rfl ?_
  refine bS [0, 0, 0] 3 5 [(1, iq id), (2, .pointer (pB b1)), (5, iq ((i : Nat) : Int)), (14, .slice A n cap), (15, iq ((i : Nat) : Int))] ?_
  refine pl_step 4 4 rfl rfl ?_
  refine cont_recast 14 (.slice A n cap) (.slice (some ⟨g, o, none⟩) n cap) rfl (by rw [hra (by omega)]) ?_
  refine sem_step 16 (Instr.indexAt 39 (.slice (some ⟨g, o, none⟩) n cap) (iq ((i : Nat) : Int))) (.pointer (some ⟨g, o + (i : Nat) * 2, none⟩)) (by kernel_rfl) (fun w hT => run_indexAt (e := 57) (sz := 2) _ (by kernel_rfl) (by kernel_rfl) (by omega) (by omega) (by omega) w) ?_
  refine bS [0] 5 3 [(1, iq id), (2, .pointer (pB b1)), (5, iq ((i : Nat) : Int)), (17, .pointer (some ⟨g, o + (i : Nat) * 2, none⟩))] ?_
  refine pl_step 6 2 rfl rfl ?_
  refine sem_step 18 (Instr.loadAt 3 (.pointer (some ⟨g, o + (i : Nat) * 2, none⟩))) (iq ((dget xs (i : Nat)).x0)) (by kernel_rfl) (fun w hT => run_load1 (by kernel_rfl) (Rd.dcell1 X11.size (hT.ok 1 _ rfl) (by omega) 0 rfl)) ?_
  refine bS [0, 0] 8 0 [(1, iq id), (2, .pointer (pB b1)), (5, iq ((i : Nat) : Int)), (20, .bool (((dget xs (i : Nat)).x0) == id))] ?_
  refine cont_done ?_
  refine then_normal ?_
  refine cont_split 20 (((dget xs (i : Nat)).x0) == id) rfl (fun c4_ => ?_) (fun c4_ => ?_)
  ·
   replace c4_ := eq_of_beqt c4_
   have heq_ : (dget xs i).x0 = id := by simpa using c4_
   refine cont_true rfl ?_
   refine cont_seq ?_
   refine cont_region 7 rfl ?_
   refine bS [0, 0, 0] 3 4 [(22, .slice A n cap), (23, iq ((i : Nat) : Int))] ?_
   refine cont_forget 0 rfl ?_
   refine pl_step 4 3 rfl rfl ?_
   refine cont_recast 22 (.slice A n cap) (.slice (some ⟨g, o, none⟩) n cap) rfl (by rw [hra (by omega)]) ?_
   refine sem_step 24 (Instr.indexAt 39 (.slice (some ⟨g, o, none⟩) n cap) (iq ((i : Nat) : Int))) (.pointer (some ⟨g, o + (i : Nat) * 2, none⟩)) (by kernel_rfl) (fun w hT => run_indexAt (e := 57) (sz := 2) _ (by kernel_rfl) (by kernel_rfl) (by omega) (by omega) (by omega) w) ?_
   refine bS [0] 5 2 [(25, .pointer (some ⟨g, o + (i : Nat) * 2 + 1, none⟩))] ?_
   refine pl_step 6 1 rfl rfl ?_
   refine sem_step 26 (Instr.loadAt 3 (.pointer (some ⟨g, o + (i : Nat) * 2 + 1, none⟩))) (iq ((dget xs (i : Nat)).x1)) (by kernel_rfl) (fun w hT => run_load1 (by kernel_rfl) (Rd.dcell1 X11.size (hT.ok 0 _ rfl) (by omega) 1 rfl)) ?_
   refine bS [0] 7 0 [(4, iq ((dget xs (i : Nat)).x1))] ?_
   refine cont_done ?_
   refine then_normal ?_
   refine cont_ret ?_
   refine blk_ret ?_
   refine then_ret ?_
   refine then_ret ?_
   refine blk_ret ?_
   refine then_ret ?_
   refine ret_one (.inl rfl) rfl 0 (iq ((dget xs (i : Nat)).x1)) (by kernel_rfl) (by kernel_rfl) (fun w hT => ?_)
   exact ⟨ret_int (kindX_hit (by omega) hno heq_).symm, hT.post rfl⟩
  replace c4_ := ne_of_beqf c4_
  have hne_ : (dget xs i).x0 ≠ id := by simpa using c4_
  refine cont_false rfl ?_
  refine cont_skip ?_
  refine blk_normal ?_
  refine then_normal ?_
  refine cont_region 3 rfl ?_
  refine bS [0, 0] 2 1 [(1, iq id), (2, .pointer (pB b1)), (12, iq (IntKind.i64.wrap (((i : Nat) : Int) + 1)))] ?_
  refine cont_recast 12 (iq (IntKind.i64.wrap (((i : Nat) : Int) + 1))) (iq (((i : Nat) : Int) + 1)) rfl (wrapI (by omega) (by omega)) ?_
  refine bS [0] 3 0 [(1, iq id), (2, .pointer (pB b1)), (5, iq (((i : Nat) : Int) + 1))] ?_
  refine cont_done ?_
  refine then_normal ?_
  refine cont_again (i + 1) (show (i + 1) ≤ n ∧ ∀ j, j < (i + 1) → (dget xs j).x0 ≠ id from ⟨by omega, fun j hj => by rcases Nat.lt_or_ge j i with h_ | h_; exact hno j h_; rw [show j = i by omega]; exact hne_⟩) (show n - (i + 1) < n - i from by omega) (by kernel_rfl) (by kernel_rfl)
 replace c3_ := of_decide_eq_false c3_
 refine cont_false rfl ?_
 refine cont_exit ?_
 refine then_exit ?_
 refine then_exit ?_
 refine blk_exit ?_
 refine then_normal ?_
 refine cont_seq ?_
 refine cont_region 1 rfl ?_
 refine bS [0] 1 0 [(4, iq 0)] ?_
 refine cont_forget 0 rfl ?_
 refine cont_done ?_
 refine then_normal ?_
 refine cont_ret ?_
 refine ret_one (.inl rfl) rfl 0 (iq 0) (by kernel_rfl) (by kernel_rfl) (fun w hT => ?_)
 exact ⟨ret_int (kindX_none (fun j hj => hno j (by omega))).symm, hT.post rfl⟩

theorem refFind11 (mo : Int) (A : Option Addr) (g o n cap : Nat) (xs : List X11) (id k : Int) (w : World) (hT0 : Tab w w [.gen (rdE (A) g o n 2 (dvals X11.cells xs))]) (hn : n ≤ 1000) :
    Calls Try.prog 19 #[.agg #[.int .i64 mo, .slice A n cap], .int .i64 id, .int .i64 k] w fun e w' => e = .returned (.int .i64 (findX xs id k)) ∧ Below w.heap.size w w' := by
 obtain ⟨hra, hrl⟩ := Rd.factsD X11.size (by decide) (hT0.ok 0 _ rfl)
 refine enter 16 [(0, .agg #[iq mo, .slice A n cap]), (1, iq id), (2, iq k)] [.gen (rdE (A) g o n 2 (dvals X11.cells xs))] Try.func19 rfl Try.ntmps19 rfl (by kernel_rfl) hT0 ?_
 refine cont_seq ?_
 refine cont_region 2 rfl ?_
 refine batch1 [0, 0] 2 0 (fun b1 => [(1, iq id), (2, iq k), (3, .pointer (pB b1))]) (fun b1 => [.cells b1 [iq mo, .slice A n cap] 41 true, .gen (rdE (A) g o n 2 (dvals X11.cells xs))]) rfl rfl [1, 2, 3] (fun _ => rfl) (fun b1 => by kernel_rfl) (fun b1 => by kernel_rfl) (fun b1 => ?_)
 refine cont_done ?_
 refine then_normal ?_
 refine cont_seq ?_
 refine cont_region 4 rfl ?_
 refine bS [0, 0] 2 2 [(2, iq k), (8, .agg #[iq mo, .slice A n cap]), (9, iq id)] ?_
 refine cont_forget 0 rfl ?_
 refine pl_step 3 1 rfl rfl ?_
 refine call_pure (d := 10) (iq (kindX xs id)) (by kernel_rfl) (fun w hT => refKind11 mo A g o n cap xs id w (hT.viewRo (.cons (i := 0) rfl Vw.rd .nil) rfl) (by omega)) ?_
 refine bS [0] 4 0 [(2, iq k), (7, iq (kindX xs id))] ?_
 refine cont_done ?_
 refine then_normal ?_
 refine cont_seq ?_
 refine cont_seq ?_
 refine cont_region 2 rfl ?_
 refine bS [0, 0] 2 0 [(2, iq k), (7, iq (kindX xs id)), (12, .bool ((kindX xs id) == 0))] ?_
 refine cont_done ?_
 refine then_normal ?_
 refine cont_split 12 ((kindX xs id) == 0) rfl (fun c2_ => ?_) (fun c2_ => ?_)
 ·
  replace c2_ := eq_of_beqt c2_
  refine cont_true rfl ?_
  refine cont_seq ?_
  refine cont_region 1 rfl ?_
  refine bS [0] 1 0 [(6, iq 5)] ?_
  refine cont_done ?_
  refine then_normal ?_
  refine cont_ret ?_
  refine then_ret ?_
  refine ret_one (.inl rfl) rfl 0 (iq 5) (by kernel_rfl) (by kernel_rfl) (fun w hT => ?_)
  exact ⟨ret_int (by unfold findX; split <;> (try split) <;> first | rfl | omega), hT.post rfl⟩
 replace c2_ := ne_of_beqf c2_
 refine cont_false rfl ?_
 refine cont_skip ?_
 refine then_normal ?_
 refine cont_seq ?_
 refine cont_seq ?_
 refine cont_region 3 rfl ?_
 refine bS [0, 0, 0] 3 0 [(15, .bool ((kindX xs id) != k))] ?_
 refine cont_done ?_
 refine then_normal ?_
 refine cont_split 15 ((kindX xs id) != k) rfl (fun c3_ => ?_) (fun c3_ => ?_)
 ·
  replace c3_ := ne_of_bne c3_
  refine cont_true rfl ?_
  refine cont_seq ?_
  refine cont_region 1 rfl ?_
  refine bS [0] 1 0 [(6, iq 9)] ?_
  refine cont_done ?_
  refine then_normal ?_
  refine cont_ret ?_
  refine then_ret ?_
  refine ret_one (.inl rfl) rfl 0 (iq 9) (by kernel_rfl) (by kernel_rfl) (fun w hT => ?_)
  exact ⟨ret_int (by unfold findX; split <;> (try split) <;> first | rfl | omega), hT.post rfl⟩
 replace c3_ := eq_of_bne_false c3_
 refine cont_false rfl ?_
 refine cont_skip ?_
 refine then_normal ?_
 refine cont_seq ?_
 refine cont_region 1 rfl ?_
 refine bS [0] 1 0 [(6, iq 0)] ?_
 refine cont_done ?_
 refine then_normal ?_
 refine cont_ret ?_
 refine ret_one (.inl rfl) rfl 0 (iq 0) (by kernel_rfl) (by kernel_rfl) (fun w hT => ?_)
 exact ⟨ret_int (by unfold findX; split <;> (try split) <;> first | rfl | omega), hT.post rfl⟩

theorem refOf11 (mo : Int) (A : Option Addr) (g o n cap : Nat) (xs : List X11) (k : Int) (w : World) (hT0 : Tab w w [.gen (rdE (A) g o n 2 (dvals X11.cells xs))]) (hn : n ≤ 1000) :
    Calls Try.prog 23 #[.agg #[.int .i64 mo, .slice A n cap], .int .i64 k] w fun e w' => ∃ (A_ : Option Addr) (g_ k_ cp_ : Nat), e = .returned (.slice A_ k_ cp_) ∧ Tab w w' [.gen (rowE (A_) g_ k_ cp_ 3 1 (ivals .i64 (ofX xs k)) true)] := by
 obtain ⟨hra, hrl⟩ := Rd.factsD X11.size (by decide) (hT0.ok 0 _ rfl)
 refine enter 32 [(0, .agg #[iq mo, .slice A n cap]), (1, iq k)] [.gen (rdE (A) g o n 2 (dvals X11.cells xs))] Try.func23 rfl Try.ntmps23 rfl (by kernel_rfl) hT0 ?_
 refine cont_seq ?_
 refine cont_region 2 rfl ?_
 refine batch1 [0, 0] 2 0 (fun b1 => [(1, iq k), (2, .pointer (pB b1))]) (fun b1 => [.cells b1 [iq mo, .slice A n cap] 41 true, .gen (rdE (A) g o n 2 (dvals X11.cells xs))]) rfl rfl [1, 2] (fun _ => rfl) (fun b1 => by kernel_rfl) (fun b1 => by kernel_rfl) (fun b1 => ?_)
 refine cont_done ?_
 refine then_normal ?_
 refine cont_seq ?_
 refine cont_region 1 rfl ?_
 refine bS [0] 1 0 [(1, iq k), (2, .pointer (pB b1)), (5, .slice none 0 0)] ?_
 refine cont_done ?_
 refine then_normal ?_
 refine cont_seq ?_
 refine cont_seq ?_
 refine cont_region 1 rfl ?_
 refine bS [0] 1 0 [(1, iq k), (2, .pointer (pB b1)), (5, .slice none 0 0), (6, iq 0)] ?_
 refine cont_done ?_
 refine then_normal ?_
 refine cont_block ?_
 refine cont_nilrow 3 1 ?_
 refine cont_norm [(1, iq k), (2, .pointer (pB b1)), (5, .slice none 0 0), (6, iq 0)] _ (by kernel_rfl) rfl ?_
 refine cont_rowEq (k := .i64) 0 ([]) (ofX (xs.take 0) k) rfl rfl ?_
 refine cont_loop (α := Nat × Option Addr × Nat × Nat × Nat) (fun x_ : Nat × Option Addr × Nat × Nat × Nat => x_.1 ≤ n) (fun x_ : Nat × Option Addr × Nat × Nat × Nat => [(1, iq k), (2, .pointer (pB b1)), (5, .slice x_.2.1 x_.2.2.2.1 x_.2.2.2.2), (6, iq ((x_.1 : Nat) : Int))]) (fun x_ : Nat × Option Addr × Nat × Nat × Nat => [.gen (rowE (x_.2.1) x_.2.2.1 x_.2.2.2.1 x_.2.2.2.2 3 1 (ivals .i64 (ofX (xs.take x_.1) k)) true), .cells b1 [iq mo, .slice A n cap] 41 true, .gen (rdE (A) g o n 2 (dvals X11.cells xs))]) (fun x_ : Nat × Option Addr × Nat × Nat × Nat => n - x_.1) (0, none, 0, 0, 0) (show (0) ≤ n from (by omega)) (by kernel_rfl) (by kernel_rfl) ?_
 rintro ⟨i, A1, g1, kn, cp⟩ hinv3_
 replace hinv3_ : i ≤ n := hinv3_
 refine cont_norm [(1, iq k), (2, .pointer (pB b1)), (5, .slice A1 kn cp), (6, iq ((i : Nat) : Int))] _ (by kernel_rfl) rfl ?_
 have hi := hinv3_
 have hol := ofX_len (xs.take i) k
 rw [List.length_take] at hol
 refine cont_seq ?_
 refine cont_seq ?_
 refine cont_region 5 rfl ?_
 refine bS [0, 0, 1, 0, 0] 5 0 [(1, iq k), (2, .pointer (pB b1)), (5, .slice A1 kn cp), (6, iq ((i : Nat) : Int)), (11, .bool (decide (((i : Nat) : Int) < (n : Int))))] ?_
 refine cont_done ?_
 refine then_normal ?_
 refine cont_split 11 (decide (((i : Nat) : Int) < (n : Int))) rfl (fun c4_ => ?_) (fun c4_ => ?_)
 ·
  replace c4_ := of_decide_eq_true c4_
  refine cont_true rfl ?_
  refine cont_skip ?_
  refine then_normal ?_
  refine cont_seq ?_
  refine cont_block ?_
  refine cont_seq ?_
  refine cont_region 8 rfl ?_
  refine bS [0, 1, 0] 3 5 [(1, iq k), (2, .pointer (pB b1)), (5, .slice A1 kn cp), (6, iq ((i : Nat) : Int)), (15, .slice A n cap), (16, iq ((i : Nat) : Int))] ?_
  refine pl_step 4 4 rfl rfl ?_
  refine cont_recast 15 (.slice A n cap) (.slice (some ⟨g, o, none⟩) n cap) rfl (by rw [hra (by omega)]) ?_
  refine sem_step 17 (Instr.indexAt 39 (.slice (some ⟨g, o, none⟩) n cap) (iq ((i : Nat) : Int))) (.pointer (some ⟨g, o + (i : Nat) * 2, none⟩)) (by kernel_rfl) (fun w hT => run_indexAt (e := 57) (sz := 2) _ (by kernel_rfl) (by kernel_rfl) (by omega) (by omega) (by omega) w) ?_
  refine bS [0] 5 3 [(1, iq k), (2, .pointer (pB b1)), (5, .slice A1 kn cp), (6, iq ((i : Nat) : Int)), (18, .pointer (some ⟨g, o + (i : Nat) * 2 + 1, none⟩))] ?_
  refine pl_step 6 2 rfl rfl ?_
  refine sem_step 19 (Instr.loadAt 3 (.pointer (some ⟨g, o + (i : Nat) * 2 + 1, none⟩))) (iq ((dget xs (i : Nat)).x1)) (by kernel_rfl) (fun w hT => run_load1 (by kernel_rfl) (Rd.dcell1 X11.size (hT.ok 2 _ rfl) (by omega) 1 rfl)) ?_
  refine bS [0, 0] 8 0 [(1, iq k), (2, .pointer (pB b1)), (5, .slice A1 kn cp), (6, iq ((i : Nat) : Int)), (21, .bool (((dget xs (i : Nat)).x1) == k))] ?_
  refine cont_done ?_
  refine then_normal ?_
  refine cont_split 21 (((dget xs (i : Nat)).x1) == k) rfl (fun c5_ => ?_) (fun c5_ => ?_)
  ·
   replace c5_ := eq_of_beqt c5_
   have hB_ : (dget xs i).x1 = k := by simpa using c5_
   refine cont_true rfl ?_
   refine cont_region 10 rfl ?_
   refine cont_fact (F := (0 < kn → (A1 : Option Addr) = pB g1) ∧ (ofX (xs.take i) k).length = kn ∧ kn ≤ cp ∧ cp ≤ maxLen) (fun w hT => Row.facts (hT.ok 0 _ rfl)) (fun hr6_ => ?_)
   obtain ⟨hr6_a, hr6_l, hr6_c, hr6_m⟩ := hr6_
   unfold maxLen at hr6_m
   refine bS [0, 0, 1, 0] 4 6 [(1, iq k), (2, .pointer (pB b1)), (6, iq ((i : Nat) : Int)), (22, .slice A1 kn cp), (24, .slice A n cap), (25, iq ((i : Nat) : Int))] ?_
   refine pl_step 5 5 rfl rfl ?_
   refine cont_recast 24 (.slice A n cap) (.slice (some ⟨g, o, none⟩) n cap) rfl (by rw [hra (by omega)]) ?_
   refine sem_step 26 (Instr.indexAt 39 (.slice (some ⟨g, o, none⟩) n cap) (iq ((i : Nat) : Int))) (.pointer (some ⟨g, o + (i : Nat) * 2, none⟩)) (by kernel_rfl) (fun w hT => run_indexAt (e := 57) (sz := 2) _ (by kernel_rfl) (by kernel_rfl) (by omega) (by omega) (by omega) w) ?_
   refine bS [0] 6 4 [(1, iq k), (2, .pointer (pB b1)), (6, iq ((i : Nat) : Int)), (22, .slice A1 kn cp), (27, .pointer (some ⟨g, o + (i : Nat) * 2, none⟩))] ?_
   refine pl_step 7 3 rfl rfl ?_
   refine sem_step 28 (Instr.loadAt 3 (.pointer (some ⟨g, o + (i : Nat) * 2, none⟩))) (iq ((dget xs (i : Nat)).x0)) (by kernel_rfl) (fun w hT => run_load1 (by kernel_rfl) (Rd.dcell1 X11.size (hT.ok 2 _ rfl) (by omega) 0 rfl)) ?_
   refine batch1 [0] 8 2 (fun b7 => [(1, iq k), (2, .pointer (pB b1)), (6, iq ((i : Nat) : Int)), (22, .slice A1 kn cp), (29, .slice (pB b7) 1 1)]) (fun b7 => [.cells b7 [iq ((dget xs (i : Nat)).x0)] 3 true, .gen (rowE (A1) g1 kn cp 3 1 (ivals .i64 (ofX (xs.take i) k)) true), .cells b1 [iq mo, .slice A n cap] 41 true, .gen (rdE (A) g o n 2 (dvals X11.cells xs))]) rfl rfl [1, 2, 6, 22, 29] (fun _ => rfl) (fun b7 => by kernel_rfl) (fun b7 => by kernel_rfl) (fun b7 => ?_)
   refine pl_step 9 1 rfl rfl ?_
   refine sem_stepW (α := Option Addr × Nat × Nat) 30 (Builtin.append_ #[32, 32] 32 #[.slice A1 kn cp, .slice (pB b7) 1 1]) (fun x_ => .slice x_.1 (kn + 1) x_.2.2) (fun x_ => [.cells b7 [iq ((dget xs (i : Nat)).x0)] 3 true, .gen (rowE (x_.1) x_.2.1 (kn + 1) x_.2.2 3 1 (ivals .i64 ((ofX (xs.take i) k) ++ [(dget xs (i : Nat)).x0])) true), .cells b1 [iq mo, .slice A n cap] 41 true, .gen (rdE (A) g o n 2 (dvals X11.cells xs))]) (fun _ => True) (by kernel_rfl) (fun w hT => append_own (n' := (kn + 1)) (z := iq 0) hT (i := 1) (bytes := 8) rfl (by kernel_rfl) (by kernel_rfl) rfl (by decide) (by decide) (Rd.ofCells (vals := ivals .i64 [(dget xs (i : Nat)).x0]) (hT.ok 0 _ rfl) rfl rfl) (ivals_one .i64 [(dget xs (i : Nat)).x0]) (by omega) (ivals_append .i64 (ofX (xs.take i) k) [(dget xs (i : Nat)).x0]) rfl) ?_
   rintro ⟨A8, g8, cp8⟩ -
   refine cont_norm [(1, iq k), (2, .pointer (pB b1)), (6, iq ((i : Nat) : Int)), (22, .slice A1 kn cp), (29, .slice (pB b7) 1 1), (30, .slice A8 (kn + 1) cp8)] _ (by kernel_rfl) rfl ?_
   refine cont_fact (F := (0 < (kn + 1) → (A8 : Option Addr) = pB g8) ∧ ((ofX (xs.take i) k) ++ [(dget xs (i : Nat)).x0]).length = (kn + 1) ∧ (kn + 1) ≤ cp8 ∧ cp8 ≤ maxLen) (fun w hT => Row.facts (hT.ok 1 _ rfl)) (fun hr9_ => ?_)
   obtain ⟨hr9_a, hr9_l, hr9_c, hr9_m⟩ := hr9_
   unfold maxLen at hr9_m
   refine bS [0] 10 0 [(1, iq k), (2, .pointer (pB b1)), (5, .slice A8 (kn + 1) cp8), (6, iq ((i : Nat) : Int))] ?_
   refine cont_forget 0 rfl ?_
   refine cont_done ?_
   refine blk_normal ?_
   refine then_normal ?_
   refine cont_region 3 rfl ?_
   refine bS [0, 0] 2 1 [(1, iq k), (2, .pointer (pB b1)), (5, .slice A8 (kn + 1) cp8), (13, iq (IntKind.i64.wrap (((i : Nat) : Int) + 1)))] ?_
   refine cont_recast 13 (iq (IntKind.i64.wrap (((i : Nat) : Int) + 1))) (iq (((i : Nat) : Int) + 1)) rfl (wrapI (by omega) (by omega)) ?_
   refine bS [0] 3 0 [(1, iq k), (2, .pointer (pB b1)), (5, .slice A8 (kn + 1) cp8), (6, iq (((i : Nat) : Int) + 1))] ?_
   refine cont_done ?_
   refine then_normal ?_
   refine cont_rowEq (k := .i64) 0 ((ofX (xs.take i) k) ++ [(dget xs (i : Nat)).x0]) (ofX (xs.take (i + 1)) k) rfl (ofX_yes (by omega) hB_) ?_
   refine cont_again (i + 1, A8, g8, (kn + 1), cp8) (show (i + 1) ≤ n from (by omega)) (show n - (i + 1) < n - i from by omega) (by kernel_rfl) (by kernel_rfl)
  replace c5_ := ne_of_beqf c5_
  have hB_ : (dget xs i).x1 ≠ k := by simpa using c5_
  refine cont_false rfl ?_
  refine cont_skip ?_
  refine blk_normal ?_
  refine then_normal ?_
  refine cont_region 3 rfl ?_
  refine bS [0, 0] 2 1 [(1, iq k), (2, .pointer (pB b1)), (5, .slice A1 kn cp), (13, iq (IntKind.i64.wrap (((i : Nat) : Int) + 1)))] ?_
  refine cont_recast 13 (iq (IntKind.i64.wrap (((i : Nat) : Int) + 1))) (iq (((i : Nat) : Int) + 1)) rfl (wrapI (by omega) (by omega)) ?_
  refine bS [0] 3 0 [(1, iq k), (2, .pointer (pB b1)), (5, .slice A1 kn cp), (6, iq (((i : Nat) : Int) + 1))] ?_
  refine cont_done ?_
  refine then_normal ?_
  refine cont_rowEq (k := .i64) 0 (ofX (xs.take i) k) (ofX (xs.take (i + 1)) k) rfl (ofX_no (by omega) hB_) ?_
  refine cont_again (i + 1, A1, g1, kn, cp) (show (i + 1) ≤ n from (by omega)) (show n - (i + 1) < n - i from by omega) (by kernel_rfl) (by kernel_rfl)
 replace c4_ := of_decide_eq_false c4_
 refine cont_false rfl ?_
 refine cont_exit ?_
 refine then_exit ?_
 refine then_exit ?_
 refine blk_exit ?_
 refine then_normal ?_
 refine cont_seq ?_
 refine cont_region 2 rfl ?_
 refine bS [0, 0] 2 0 [(4, .slice A1 kn cp)] ?_
 refine cont_forget 1 rfl ?_
 refine cont_done ?_
 refine then_normal ?_
 refine cont_ret ?_
 refine ret_one (.inl rfl) rfl 0 (.slice A1 kn cp) (by kernel_rfl) (by kernel_rfl) (fun w hT => ?_)
 replace hT := hT.erase 1 (fun e h hw => by cases h; first | rfl | cases hw)
 rw [List.take_of_length_le (by omega)] at hT
 exact ⟨_, _, _, _, rfl, hT⟩

theorem refDrop11 (mo : Int) (A : Option Addr) (g o n cap : Nat) (xs : List X11) (id : Int) (w : World) (hT0 : Tab w w [.gen (rdE (A) g o n 2 (dvals X11.cells xs))]) (hn : n ≤ 1000) :
    Calls Try.prog 20 #[.agg #[.int .i64 mo, .slice A n cap], .int .i64 id] w fun e w' => ∃ (A_ : Option Addr) (g_ k_ cp_ : Nat), e = .returned (.tuple #[.agg #[.int .i64 mo, .slice A_ k_ cp_], .bool (decide (((dropX xs id).length : Int) < (xs.length : Int)))]) ∧ Tab w w' [.gen (rowE (A_) g_ k_ cp_ 57 2 (dvals X11.cells (dropX xs id)) true)] := by
 obtain ⟨hra, hrl⟩ := Rd.factsD X11.size (by decide) (hT0.ok 0 _ rfl)
 refine enter 42 [(0, .agg #[iq mo, .slice A n cap]), (1, iq id)] [.gen (rdE (A) g o n 2 (dvals X11.cells xs))] Try.func20 rfl Try.ntmps20 rfl (by kernel_rfl) hT0 ?_
 refine cont_seq ?_
 refine cont_region 3 rfl ?_
 refine batch2 [0, 0, 0] 3 0 (fun b1 b2 => [(1, iq id), (2, .pointer (pB b1)), (4, .pointer (pB b2))]) (fun b1 b2 => [.cells b2 [iq 0, .slice none 0 0] 41 true, .cells b1 [iq mo, .slice A n cap] 41 true, .gen (rdE (A) g o n 2 (dvals X11.cells xs))]) rfl rfl [1, 2, 4] (fun _ _ => rfl) (fun b1 b2 => by kernel_rfl) (fun b1 b2 => by kernel_rfl) (fun b1 b2 => ?_)
 refine cont_done ?_
 refine then_normal ?_
 refine cont_seq ?_
 refine cont_region 1 rfl ?_
 refine bS [0] 1 0 [(1, iq id), (2, .pointer (pB b1)), (4, .pointer (pB b2)), (6, .slice none 0 0)] ?_
 refine cont_done ?_
 refine then_normal ?_
 refine cont_seq ?_
 refine cont_seq ?_
 refine cont_region 1 rfl ?_
 refine bS [0] 1 0 [(1, iq id), (2, .pointer (pB b1)), (4, .pointer (pB b2)), (6, .slice none 0 0), (7, iq 0)] ?_
 refine cont_done ?_
 refine then_normal ?_
 refine cont_block ?_
 refine cont_nilrow 57 2 ?_
 refine cont_norm [(1, iq id), (2, .pointer (pB b1)), (4, .pointer (pB b2)), (6, .slice none 0 0), (7, iq 0)] _ (by kernel_rfl) rfl ?_
 refine cont_rowEqD (cel := X11.cells) (z := 2) 0 ([]) (dropX (xs.take 0) id) rfl rfl ?_
 refine cont_loop (α := Nat × Option Addr × Nat × Nat × Nat) (fun x_ : Nat × Option Addr × Nat × Nat × Nat => x_.1 ≤ n) (fun x_ : Nat × Option Addr × Nat × Nat × Nat => [(1, iq id), (2, .pointer (pB b1)), (4, .pointer (pB b2)), (6, .slice x_.2.1 x_.2.2.2.1 x_.2.2.2.2), (7, iq ((x_.1 : Nat) : Int))]) (fun x_ : Nat × Option Addr × Nat × Nat × Nat => [.gen (rowE (x_.2.1) x_.2.2.1 x_.2.2.2.1 x_.2.2.2.2 57 2 (dvals X11.cells (dropX (xs.take x_.1) id)) true), .cells b2 [iq 0, .slice none 0 0] 41 true, .cells b1 [iq mo, .slice A n cap] 41 true, .gen (rdE (A) g o n 2 (dvals X11.cells xs))]) (fun x_ : Nat × Option Addr × Nat × Nat × Nat => n - x_.1) (0, none, 0, 0, 0) (show (0) ≤ n from (by omega)) (by kernel_rfl) (by kernel_rfl) ?_
 rintro ⟨i, A1, g1, kn, cp⟩ hinv4_
 replace hinv4_ : i ≤ n := hinv4_
 refine cont_norm [(1, iq id), (2, .pointer (pB b1)), (4, .pointer (pB b2)), (6, .slice A1 kn cp), (7, iq ((i : Nat) : Int))] _ (by kernel_rfl) rfl ?_
 have hi := hinv4_
 have hol := dropX_len (xs.take i) id
 rw [List.length_take] at hol
 refine cont_seq ?_
 refine cont_seq ?_
 refine cont_region 5 rfl ?_
 refine bS [0, 0, 2, 0, 0] 5 0 [(1, iq id), (2, .pointer (pB b1)), (4, .pointer (pB b2)), (6, .slice A1 kn cp), (7, iq ((i : Nat) : Int)), (13, .bool (decide (((i : Nat) : Int) < (n : Int))))] ?_
 refine cont_done ?_
 refine then_normal ?_
 refine cont_split 13 (decide (((i : Nat) : Int) < (n : Int))) rfl (fun c5_ => ?_) (fun c5_ => ?_)
 ·
  replace c5_ := of_decide_eq_true c5_
  refine cont_true rfl ?_
  refine cont_skip ?_
  refine then_normal ?_
  refine cont_seq ?_
  refine cont_block ?_
  refine cont_seq ?_
  refine cont_region 8 rfl ?_
  refine bS [0, 2, 0] 3 5 [(1, iq id), (2, .pointer (pB b1)), (4, .pointer (pB b2)), (6, .slice A1 kn cp), (7, iq ((i : Nat) : Int)), (17, .slice A n cap), (18, iq ((i : Nat) : Int))] ?_
  refine pl_step 4 4 rfl rfl ?_
  refine cont_recast 17 (.slice A n cap) (.slice (some ⟨g, o, none⟩) n cap) rfl (by rw [hra (by omega)]) ?_
  refine sem_step 19 (Instr.indexAt 39 (.slice (some ⟨g, o, none⟩) n cap) (iq ((i : Nat) : Int))) (.pointer (some ⟨g, o + (i : Nat) * 2, none⟩)) (by kernel_rfl) (fun w hT => run_indexAt (e := 57) (sz := 2) _ (by kernel_rfl) (by kernel_rfl) (by omega) (by omega) (by omega) w) ?_
  refine bS [0] 5 3 [(1, iq id), (2, .pointer (pB b1)), (4, .pointer (pB b2)), (6, .slice A1 kn cp), (7, iq ((i : Nat) : Int)), (20, .pointer (some ⟨g, o + (i : Nat) * 2, none⟩))] ?_
  refine pl_step 6 2 rfl rfl ?_
  refine sem_step 21 (Instr.loadAt 3 (.pointer (some ⟨g, o + (i : Nat) * 2, none⟩))) (iq ((dget xs (i : Nat)).x0)) (by kernel_rfl) (fun w hT => run_load1 (by kernel_rfl) (Rd.dcell1 X11.size (hT.ok 3 _ rfl) (by omega) 0 rfl)) ?_
  refine bS [0, 0] 8 0 [(1, iq id), (2, .pointer (pB b1)), (4, .pointer (pB b2)), (6, .slice A1 kn cp), (7, iq ((i : Nat) : Int)), (23, .bool (((dget xs (i : Nat)).x0) != id))] ?_
  refine cont_done ?_
  refine then_normal ?_
  refine cont_split 23 (((dget xs (i : Nat)).x0) != id) rfl (fun c6_ => ?_) (fun c6_ => ?_)
  ·
   replace c6_ := ne_of_bne c6_
   have hB_ : (dget xs i).x0 ≠ id := by simpa using c6_
   refine cont_true rfl ?_
   refine cont_region 9 rfl ?_
   refine cont_fact (F := (0 < kn → (A1 : Option Addr) = pB g1) ∧ (dropX (xs.take i) id).length = kn ∧ kn ≤ cp ∧ cp ≤ maxLen) (fun w hT => Row.factsD X11.size (by decide) (hT.ok 0 _ rfl)) (fun hr7_ => ?_)
   obtain ⟨hr7_a, hr7_l, hr7_c, hr7_m⟩ := hr7_
   unfold maxLen at hr7_m
   refine bS [0, 0, 2, 0] 4 5 [(1, iq id), (2, .pointer (pB b1)), (4, .pointer (pB b2)), (7, iq ((i : Nat) : Int)), (24, .slice A1 kn cp), (26, .slice A n cap), (27, iq ((i : Nat) : Int))] ?_
   refine pl_step 5 4 rfl rfl ?_
   refine cont_recast 26 (.slice A n cap) (.slice (some ⟨g, o, none⟩) n cap) rfl (by rw [hra (by omega)]) ?_
   refine sem_step 28 (Instr.indexAt 39 (.slice (some ⟨g, o, none⟩) n cap) (iq ((i : Nat) : Int))) (.pointer (some ⟨g, o + (i : Nat) * 2, none⟩)) (by kernel_rfl) (fun w hT => run_indexAt (e := 57) (sz := 2) _ (by kernel_rfl) (by kernel_rfl) (by omega) (by omega) (by omega) w) ?_
   refine pl_step 6 3 rfl rfl ?_
   refine sem_step 29 (Instr.loadAt 57 (.pointer (some ⟨g, o + (i : Nat) * 2, none⟩))) (.agg #[iq ((dget xs (i : Nat)).x0), iq ((dget xs (i : Nat)).x1)]) (by kernel_rfl) (fun w hT => run_loadN (m := 2) (cs := [iq ((dget xs (i : Nat)).x0), iq ((dget xs (i : Nat)).x1)]) (by kernel_rfl) (by kernel_rfl) rfl (Rd.dcell X11.size (hT.ok 3 _ rfl) (by omega))) ?_
   refine batch1 [0] 7 2 (fun b8 => [(1, iq id), (2, .pointer (pB b1)), (4, .pointer (pB b2)), (7, iq ((i : Nat) : Int)), (24, .slice A1 kn cp), (30, .slice (pB b8) 1 1)]) (fun b8 => [.cells b8 [iq ((dget xs (i : Nat)).x0), iq ((dget xs (i : Nat)).x1)] 57 true, .gen (rowE (A1) g1 kn cp 57 2 (dvals X11.cells (dropX (xs.take i) id)) true), .cells b2 [iq 0, .slice none 0 0] 41 true, .cells b1 [iq mo, .slice A n cap] 41 true, .gen (rdE (A) g o n 2 (dvals X11.cells xs))]) rfl rfl [1, 2, 4, 7, 24, 30] (fun _ => rfl) (fun b8 => by kernel_rfl) (fun b8 => by kernel_rfl) (fun b8 => ?_)
   refine pl_step 8 1 rfl rfl ?_
   refine sem_stepW (α := Option Addr × Nat × Nat) 31 (Builtin.append_ #[39, 39] 39 #[.slice A1 kn cp, .slice (pB b8) 1 1]) (fun x_ => .slice x_.1 (kn + 1) x_.2.2) (fun x_ => [.cells b8 [iq ((dget xs (i : Nat)).x0), iq ((dget xs (i : Nat)).x1)] 57 true, .gen (rowE (x_.1) x_.2.1 (kn + 1) x_.2.2 57 2 (dvals X11.cells ((dropX (xs.take i) id) ++ [(⟨(dget xs (i : Nat)).x0, (dget xs (i : Nat)).x1⟩ : X11)])) true), .cells b2 [iq 0, .slice none 0 0] 41 true, .cells b1 [iq mo, .slice A n cap] 41 true, .gen (rdE (A) g o n 2 (dvals X11.cells xs))]) (fun _ => True) (by kernel_rfl) (fun w hT => append_own (n' := (kn + 1)) (z := .agg #[iq 0, iq 0]) hT (i := 1) (bytes := 16) rfl (by kernel_rfl) (by kernel_rfl) rfl (by decide) (by decide) (Rd.ofCells (vals := dvals X11.cells [(⟨(dget xs (i : Nat)).x0, (dget xs (i : Nat)).x1⟩ : X11)]) (hT.ok 0 _ rfl) rfl rfl) (dvals_one X11.one [(⟨(dget xs (i : Nat)).x0, (dget xs (i : Nat)).x1⟩ : X11)]) (by omega) (dvals_append (dropX (xs.take i) id) [(⟨(dget xs (i : Nat)).x0, (dget xs (i : Nat)).x1⟩ : X11)]) rfl) ?_
   rintro ⟨A9, g9, cp9⟩ -
   refine cont_norm [(1, iq id), (2, .pointer (pB b1)), (4, .pointer (pB b2)), (7, iq ((i : Nat) : Int)), (24, .slice A1 kn cp), (30, .slice (pB b8) 1 1), (31, .slice A9 (kn + 1) cp9)] _ (by kernel_rfl) rfl ?_
   refine cont_fact (F := (0 < (kn + 1) → (A9 : Option Addr) = pB g9) ∧ ((dropX (xs.take i) id) ++ [(⟨(dget xs (i : Nat)).x0, (dget xs (i : Nat)).x1⟩ : X11)]).length = (kn + 1) ∧ (kn + 1) ≤ cp9 ∧ cp9 ≤ maxLen) (fun w hT => Row.factsD X11.size (by decide) (hT.ok 1 _ rfl)) (fun hr10_ => ?_)
   obtain ⟨hr10_a, hr10_l, hr10_c, hr10_m⟩ := hr10_
   unfold maxLen at hr10_m
   refine bS [0] 9 0 [(1, iq id), (2, .pointer (pB b1)), (4, .pointer (pB b2)), (6, .slice A9 (kn + 1) cp9), (7, iq ((i : Nat) : Int))] ?_
   refine cont_forget 0 rfl ?_
   refine cont_done ?_
   refine blk_normal ?_
   refine then_normal ?_
   refine cont_region 3 rfl ?_
   refine bS [0, 0] 2 1 [(1, iq id), (2, .pointer (pB b1)), (4, .pointer (pB b2)), (6, .slice A9 (kn + 1) cp9), (15, iq (IntKind.i64.wrap (((i : Nat) : Int) + 1)))] ?_
   refine cont_recast 15 (iq (IntKind.i64.wrap (((i : Nat) : Int) + 1))) (iq (((i : Nat) : Int) + 1)) rfl (wrapI (by omega) (by omega)) ?_
   refine bS [0] 3 0 [(1, iq id), (2, .pointer (pB b1)), (4, .pointer (pB b2)), (6, .slice A9 (kn + 1) cp9), (7, iq (((i : Nat) : Int) + 1))] ?_
   refine cont_done ?_
   refine then_normal ?_
   refine cont_rowEqD (cel := X11.cells) (z := 2) 0 ((dropX (xs.take i) id) ++ [(⟨(dget xs (i : Nat)).x0, (dget xs (i : Nat)).x1⟩ : X11)]) (dropX (xs.take (i + 1)) id) rfl (dropX_yes (by omega) hB_) ?_
   refine cont_again (i + 1, A9, g9, (kn + 1), cp9) (show (i + 1) ≤ n from (by omega)) (show n - (i + 1) < n - i from by omega) (by kernel_rfl) (by kernel_rfl)
  replace c6_ := eq_of_bne_false c6_
  have hB_ : (dget xs i).x0 = id := by simpa using c6_
  refine cont_false rfl ?_
  refine cont_skip ?_
  refine blk_normal ?_
  refine then_normal ?_
  refine cont_region 3 rfl ?_
  refine bS [0, 0] 2 1 [(1, iq id), (2, .pointer (pB b1)), (4, .pointer (pB b2)), (6, .slice A1 kn cp), (15, iq (IntKind.i64.wrap (((i : Nat) : Int) + 1)))] ?_
  refine cont_recast 15 (iq (IntKind.i64.wrap (((i : Nat) : Int) + 1))) (iq (((i : Nat) : Int) + 1)) rfl (wrapI (by omega) (by omega)) ?_
  refine bS [0] 3 0 [(1, iq id), (2, .pointer (pB b1)), (4, .pointer (pB b2)), (6, .slice A1 kn cp), (7, iq (((i : Nat) : Int) + 1))] ?_
  refine cont_done ?_
  refine then_normal ?_
  refine cont_rowEqD (cel := X11.cells) (z := 2) 0 (dropX (xs.take i) id) (dropX (xs.take (i + 1)) id) rfl (dropX_no (by omega) hB_) ?_
  refine cont_again (i + 1, A1, g1, kn, cp) (show (i + 1) ≤ n from (by omega)) (show n - (i + 1) < n - i from by omega) (by kernel_rfl) (by kernel_rfl)
 replace c5_ := of_decide_eq_false c5_
 refine cont_false rfl ?_
 refine cont_exit ?_
 refine then_exit ?_
 refine then_exit ?_
 refine blk_exit ?_
 refine then_normal ?_
 refine cont_seq ?_
 refine cont_region 7 rfl ?_
 refine cont_fact (F := (0 < kn → (A1 : Option Addr) = pB g1) ∧ (dropX (xs.take i) id).length = kn ∧ kn ≤ cp ∧ cp ≤ maxLen) (fun w hT => Row.factsD X11.size (by decide) (hT.ok 0 _ rfl)) (fun hr11_ => ?_)
 obtain ⟨hr11_a, hr11_l, hr11_c, hr11_m⟩ := hr11_
 unfold maxLen at hr11_m
 have hfr_ := hr11_l
 refine bS [0, 0, 0, 2, 0, 0, 0] 7 0 [(2, .pointer (pB b1)), (4, .pointer (pB b2)), (6, .slice A1 kn cp), (8, .bool (decide ((kn : Int) < (n : Int))))] ?_
 refine cont_done ?_
 refine then_normal ?_
 refine cont_seq ?_
 refine cont_region 3 rfl ?_
 refine batch0 [0, 0, 2] 3 0 [(2, .pointer (pB b1)), (4, .pointer (pB b2)), (8, .bool (decide ((kn : Int) < (n : Int))))] [.gen (rowE (A1) g1 kn cp 57 2 (dvals X11.cells (dropX (xs.take i) id)) true), .cells b2 [iq 0, .slice none 0 0] 41 true, .cells b1 [iq mo, .slice A1 kn cp] 41 true, .gen (rdE (A) g o n 2 (dvals X11.cells xs))] rfl rfl (by kernel_rfl) (by kernel_rfl) ?_
 refine cont_done ?_
 refine then_normal ?_
 refine cont_seq ?_
 refine cont_region 4 rfl ?_
 refine batch0 [2, 0, 1, 0] 4 0 [(4, .pointer (pB b2)), (5, .bool (decide ((kn : Int) < (n : Int))))] [.gen (rowE (A1) g1 kn cp 57 2 (dvals X11.cells (dropX (xs.take i) id)) true), .cells b2 [iq mo, .slice A1 kn cp] 41 true, .cells b1 [iq mo, .slice A1 kn cp] 41 true, .gen (rdE (A) g o n 2 (dvals X11.cells xs))] rfl rfl (by kernel_rfl) (by kernel_rfl) ?_
 refine cont_forget 2 rfl ?_
 refine cont_done ?_
 refine then_normal ?_
 refine cont_ret ?_
 refine ret_two (.inl rfl) rfl 1 0 (.agg #[iq mo, .slice A1 kn cp]) (.bool (decide ((kn : Int) < (n : Int)))) (by kernel_rfl) (by kernel_rfl) (by kernel_rfl) (by kernel_rfl) (fun w hT => ?_)
 replace hT := hT.erase 2 (fun e h hw => by cases h; first | rfl | cases hw)
 replace hT := hT.erase 1 (fun e h hw => by cases h; first | rfl | cases hw)
 rw [List.take_of_length_le (by omega)] at hT hfr_
 exact ⟨_, _, _, _, by rw [hfr_, hrl], hT⟩

theorem refNew11 (m : Int) (w : World) :
    Calls Try.prog 17 #[.int .i64 m] w fun e w' => e = .returned (.agg #[.int .i64 (mn (mx m 1) 32), .slice none 0 0]) ∧ Below w.heap.size w w' := by
 refine enter 7 [(0, iq m)] [] Try.func17 rfl Try.ntmps17 rfl (by kernel_rfl) (Tab.start w) ?_
 refine cont_seq ?_
 refine cont_region 1 rfl ?_
 refine batch1 [0] 1 0 (fun b1 => [(0, iq m), (2, .pointer (pB b1))]) (fun b1 => [.cells b1 [iq 0, .slice none 0 0] 41 true]) rfl rfl [0, 2] (fun _ => rfl) (fun b1 => by kernel_rfl) (fun b1 => by kernel_rfl) (fun b1 => ?_)
 refine cont_done ?_
 refine then_normal ?_
 refine cont_seq ?_
 refine cont_region 5 rfl ?_
 refine batch0 [0, 0, 0, 0, 0] 5 0 [(2, .pointer (pB b1))] [.cells b1 [iq (mn (mx m 1) 32), .slice none 0 0] 41 true] rfl rfl (by kernel_rfl) (by kernel_rfl) ?_
 refine cont_done ?_
 refine then_normal ?_
 refine cont_ret ?_
 refine ret_one (.inl rfl) rfl 0 (.agg #[iq (mn (mx m 1) 32), .slice none 0 0]) (by kernel_rfl) (by kernel_rfl) (fun w hT => ?_)
 exact ⟨rfl, hT.post rfl⟩

theorem refSame11 (A1 : Option Addr) (g1 o1 n1 cap1 : Nat) (xs1 : List Int) (A2 : Option Addr) (g2 o2 n2 cap2 : Nat) (xs2 : List Int) (w : World) (hT0 : Tab w w [.gen (rdE (A1) g1 o1 n1 1 (ivals .i64 xs1)), .gen (rdE (A2) g2 o2 n2 1 (ivals .i64 xs2))]) (hn1 : n1 ≤ 1000) :
    Calls Try.prog 22 #[.slice A1 n1 cap1, .slice A2 n2 cap2] w fun e w' => e = .returned (.bool (decide (xs1 = xs2))) ∧ Below w.heap.size w w' := by
 obtain ⟨hra1, hl1⟩ := Rd.facts (hT0.ok 0 _ rfl)
 obtain ⟨hra2, hl2⟩ := Rd.facts (hT0.ok 1 _ rfl)
 refine enter 26 [(0, .slice A1 n1 cap1), (1, .slice A2 n2 cap2)] [.gen (rdE (A1) g1 o1 n1 1 (ivals .i64 xs1)), .gen (rdE (A2) g2 o2 n2 1 (ivals .i64 xs2))] Try.func22 rfl Try.ntmps22 rfl (by kernel_rfl) hT0 ?_
 refine cont_seq ?_
 refine cont_region 1 rfl ?_
 refine bS [0] 1 0 [(0, .slice A1 n1 cap1), (1, .slice A2 n2 cap2)] ?_
 refine cont_done ?_
 refine then_normal ?_
 refine cont_seq ?_
 refine cont_seq ?_
 refine cont_region 5 rfl ?_
 refine bS [0, 0, 0, 0, 0] 5 0 [(0, .slice A1 n1 cap1), (1, .slice A2 n2 cap2), (10, .bool ((n1 : Int) != (n2 : Int)))] ?_
 refine cont_done ?_
 refine then_normal ?_
 refine cont_split 10 ((n1 : Int) != (n2 : Int)) rfl (fun c1_ => ?_) (fun c1_ => ?_)
 ·
  replace c1_ := ne_of_bne c1_
  refine cont_true rfl ?_
  refine cont_seq ?_
  refine cont_region 1 rfl ?_
  refine bS [0] 1 0 [(4, .bool false)] ?_
  refine cont_done ?_
  refine then_normal ?_
  refine cont_ret ?_
  refine then_ret ?_
  refine ret_one (.inl rfl) rfl 0 (.bool false) (by kernel_rfl) (by kernel_rfl) (fun w hT => ?_)
  exact ⟨ret_bool (decide_eq_false (fun h_ => by first | exact hne_ (by rw [h_]) | (have h2_ := congrArg List.length h_; omega))).symm, hT.post rfl⟩
 replace c1_ := eq_of_bne_false c1_
 refine cont_false rfl ?_
 refine cont_skip ?_
 refine then_normal ?_
 refine cont_seq ?_
 refine cont_seq ?_
 refine cont_region 1 rfl ?_
 refine bS [0] 1 0 [(0, .slice A1 n1 cap1), (1, .slice A2 n2 cap2), (5, iq 0)] ?_
 refine cont_done ?_
 refine then_normal ?_
 refine cont_block ?_
 refine cont_loop (α := Nat) (fun x_ : Nat => x_ ≤ n1 ∧ ∀ j, j < x_ → xs1.getD j 0 = xs2.getD j 0) (fun x_ : Nat => [(0, .slice A1 n1 cap1), (1, .slice A2 n2 cap2), (5, iq ((x_ : Nat) : Int))]) (fun x_ : Nat => [.gen (rdE (A1) g1 o1 n1 1 (ivals .i64 xs1)), .gen (rdE (A2) g2 o2 n2 1 (ivals .i64 xs2))]) (fun x_ : Nat => n1 - x_) 0 (⟨by omega, fun j hj => by omega⟩) (by kernel_rfl) (by kernel_rfl) ?_
 rintro i hinv2_
 replace hinv2_ : i ≤ n1 ∧ ∀ j, j < i → xs1.getD j 0 = xs2.getD j 0 := hinv2_
 refine cont_norm [(0, .slice A1 n1 cap1), (1, .slice A2 n2 cap2), (5, iq ((i : Nat) : Int))] _ (by kernel_rfl) rfl ?_
 obtain ⟨hi, hno⟩ := hinv2_
 refine cont_seq ?_
 refine cont_seq ?_
 refine cont_region 4 rfl ?_
 refine bS [0, 0, 0, 0] 4 0 [(0, .slice A1 n1 cap1), (1, .slice A2 n2 cap2), (5, iq ((i : Nat) : Int)), (14, .bool (decide (((i : Nat) : Int) < (n1 : Int))))] ?_
 refine cont_done ?_
 refine then_normal ?_
 refine cont_split 14 (decide (((i : Nat) : Int) < (n1 : Int))) rfl (fun c3_ => ?_) (fun c3_ => ?_)
 ·
  replace c3_ := of_decide_eq_true c3_
  refine cont_true rfl ?_
  refine cont_skip ?_
  refine then_normal ?_
  refine cont_seq ?_
  refine cont_block ?_
  refine cont_seq ?_
  refine drawn_enter 9 [] rfl (by kernel_rfl) ?_
  refine takes 0 [] [(0, 0), (1, 0), (4, 0), (5, 0)] 5 [5, 4, 1, 0] [(0, .slice A1 n1 cap1), (1, .slice A2 n2 cap2), (5, iq ((i : Nat) : Int)), (17, .slice A1 n1 cap1), (18, iq ((i : Nat) : Int)), (21, .slice A2 n2 cap2), (22, iq ((i : Nat) : Int))] (by kernel_rfl) (pok_then (pok_blk (pok_then (pok_then (pok_blk (pok_then pok_body)))))) (by kernel_rfl) rfl rfl (by kernel_rfl) (by kernel_rfl) ?_
  refine cont_recast 17 (.slice A1 n1 cap1) (.slice (some ⟨g1, o1, none⟩) n1 cap1) rfl (by rw [hra1 (by omega)]) ?_
  refine sem_take 0 [] 2 4 19 (Instr.indexAt 32 (.slice (some ⟨g1, o1, none⟩) n1 cap1) (iq ((i : Nat) : Int))) (.pointer (some ⟨g1, o1 + (i : Nat), none⟩)) (by kernel_rfl) (pok_then (pok_blk (pok_then (pok_then (pok_blk (pok_then pok_body)))))) (by kernel_rfl) rfl (by kernel_rfl) (by kernel_rfl) (fun w hT => run_indexAt (e := 3) (sz := 1) _ (by kernel_rfl) (by kernel_rfl) (by omega) (by omega) (by omega) w) ?_
  refine sem_take 0 [] 3 3 20 (Instr.loadAt 3 (.pointer (some ⟨g1, o1 + (i : Nat), none⟩))) (iq (xs1.getD (i : Nat) 0)) (by kernel_rfl) (pok_then (pok_blk (pok_then (pok_then (pok_blk (pok_then pok_body)))))) (by kernel_rfl) rfl (by kernel_rfl) (by kernel_rfl) (fun w hT => run_load1 (by kernel_rfl) (Rd.cell (hT 0 _ rfl) ((i : Nat)) _ (ivals_get (by omega)))) ?_
  refine cont_recast 21 (.slice A2 n2 cap2) (.slice (some ⟨g2, o2, none⟩) n2 cap2) rfl (by rw [hra2 (by omega)]) ?_
  refine sem_take 0 [] 6 2 23 (Instr.indexAt 32 (.slice (some ⟨g2, o2, none⟩) n2 cap2) (iq ((i : Nat) : Int))) (.pointer (some ⟨g2, o2 + (i : Nat), none⟩)) (by kernel_rfl) (pok_then (pok_blk (pok_then (pok_then (pok_blk (pok_then pok_body)))))) (by kernel_rfl) rfl (by kernel_rfl) (by kernel_rfl) (fun w hT => run_indexAt (e := 3) (sz := 1) _ (by kernel_rfl) (by kernel_rfl) (by omega) (by omega) (by omega) w) ?_
  refine sem_take 0 [] 7 1 24 (Instr.loadAt 3 (.pointer (some ⟨g2, o2 + (i : Nat), none⟩))) (iq (xs2.getD (i : Nat) 0)) (by kernel_rfl) (pok_then (pok_blk (pok_then (pok_then (pok_blk (pok_then pok_body)))))) (by kernel_rfl) rfl (by kernel_rfl) (by kernel_rfl) (fun w hT => run_load1 (by kernel_rfl) (Rd.cell (hT 1 _ rfl) ((i : Nat)) _ (ivals_get (by omega)))) ?_
  refine takes 0 [] [(8, 0)] 0 [8, 7, 6, 3, 2, 5, 4, 1, 0] [(0, .slice A1 n1 cap1), (1, .slice A2 n2 cap2), (5, iq ((i : Nat) : Int)), (25, .bool ((xs1.getD (i : Nat) 0) != (xs2.getD (i : Nat) 0)))] (by kernel_rfl) (pok_then (pok_blk (pok_then (pok_then (pok_blk (pok_then pok_body)))))) (by kernel_rfl) rfl rfl (by kernel_rfl) (by kernel_rfl) ?_
  refine drawn_done (by kernel_rfl) ?_
  refine then_normal ?_
  refine cont_split 25 ((xs1.getD (i : Nat) 0) != (xs2.getD (i : Nat) 0)) rfl (fun c4_ => ?_) (fun c4_ => ?_)
  ·
   replace c4_ := ne_of_bne c4_
   have hne_ : xs1.getD i 0 ≠ xs2.getD i 0 := by simpa using c4_
   refine cont_true rfl ?_
   refine cont_seq ?_
   refine cont_region 1 rfl ?_
   refine bS [0] 1 0 [(4, .bool false)] ?_
   refine cont_done ?_
   refine then_normal ?_
   refine cont_ret ?_
   refine blk_ret ?_
   refine then_ret ?_
   refine then_ret ?_
   refine blk_ret ?_
   refine then_ret ?_
   refine ret_one (.inl rfl) rfl 0 (.bool false) (by kernel_rfl) (by kernel_rfl) (fun w hT => ?_)
   exact ⟨ret_bool (decide_eq_false (fun h_ => by first | exact hne_ (by rw [h_]) | (have h2_ := congrArg List.length h_; omega))).symm, hT.post rfl⟩
  replace c4_ := eq_of_bne_false c4_
  have heq_ : xs1.getD i 0 = xs2.getD i 0 := by simpa using c4_
  refine cont_false rfl ?_
  refine cont_skip ?_
  refine blk_normal ?_
  refine then_normal ?_
  refine cont_region 3 rfl ?_
  refine bS [0, 0] 2 1 [(0, .slice A1 n1 cap1), (1, .slice A2 n2 cap2), (16, iq (IntKind.i64.wrap (((i : Nat) : Int) + 1)))] ?_
  refine cont_recast 16 (iq (IntKind.i64.wrap (((i : Nat) : Int) + 1))) (iq (((i : Nat) : Int) + 1)) rfl (wrapI (by omega) (by omega)) ?_
  refine bS [0] 3 0 [(0, .slice A1 n1 cap1), (1, .slice A2 n2 cap2), (5, iq (((i : Nat) : Int) + 1))] ?_
  refine cont_done ?_
  refine then_normal ?_
  refine cont_again (i + 1) (show (i + 1) ≤ n1 ∧ ∀ j, j < (i + 1) → xs1.getD j 0 = xs2.getD j 0 from ⟨by omega, fun j hj => by rcases Nat.lt_or_ge j i with h_ | h_; exact hno j h_; rw [show j = i by omega]; exact heq_⟩) (show n1 - (i + 1) < n1 - i from by omega) (by kernel_rfl) (by kernel_rfl)
 replace c3_ := of_decide_eq_false c3_
 refine cont_false rfl ?_
 refine cont_exit ?_
 refine then_exit ?_
 refine then_exit ?_
 refine blk_exit ?_
 refine then_normal ?_
 refine cont_seq ?_
 refine cont_region 1 rfl ?_
 refine bS [0] 1 0 [(4, .bool true)] ?_
 refine cont_done ?_
 refine then_normal ?_
 refine cont_ret ?_
 refine ret_one (.inl rfl) rfl 0 (.bool true) (by kernel_rfl) (by kernel_rfl) (fun w hT => ?_)
 exact ⟨ret_bool (decide_eq_true (list_eq_getD (n := n1) (by omega) (by omega) (fun j hj => hno j (by omega)))).symm, hT.post rfl⟩

theorem refAddN11 (mo : Int) (A : Option Addr) (g o n cap : Nat) (xs : List X11) (id k : Int) (w : World) (hT0 : Tab w w [.gen (rdE (A) g o n 2 (dvals X11.cells xs))]) (hn : n ≤ 1000) (hc : n ≤ cap ∧ cap ≤ 9223372036854775807) (h0 : addEX mo xs id k ≠ 0) :
    Calls Try.prog 18 #[.agg #[.int .i64 mo, .slice A n cap], .int .i64 id, .int .i64 k] w fun e w' => e = .returned (.tuple #[.agg #[.int .i64 mo, .slice A n cap], .int .i64 (addEX mo xs id k)]) ∧ Below w.heap.size w w' := by
 obtain ⟨hra, hrl⟩ := Rd.factsD X11.size (by decide) (hT0.ok 0 _ rfl)
 refine enter 75 [(0, .agg #[iq mo, .slice A n cap]), (1, iq id), (2, iq k)] [.gen (rdE (A) g o n 2 (dvals X11.cells xs))] Try.func18 rfl Try.ntmps18 rfl (by kernel_rfl) hT0 ?_
 refine cont_seq ?_
 refine cont_region 3 rfl ?_
 refine batch2 [0, 0, 0] 3 0 (fun b1 b2 => [(1, iq id), (2, iq k), (3, .pointer (pB b1)), (6, .pointer (pB b2))]) (fun b1 b2 => [.cells b2 [iq 0, .slice none 0 0] 41 true, .cells b1 [iq mo, .slice A n cap] 41 true, .gen (rdE (A) g o n 2 (dvals X11.cells xs))]) rfl rfl [1, 2, 3, 6] (fun _ _ => rfl) (fun b1 b2 => by kernel_rfl) (fun b1 b2 => by kernel_rfl) (fun b1 b2 => ?_)
 refine cont_done ?_
 refine then_normal ?_
 refine cont_seq ?_
 refine cont_seq ?_
 refine cont_region 14 rfl ?_
 refine bS [0, 0, 0] 3 11 [(1, iq id), (2, iq k), (3, .pointer (pB b1)), (6, .pointer (pB b2)), (12, .bool (decide (id < 1)))] ?_
 refine cont_split 12 (decide (id < 1)) rfl (fun c3_ => ?_) (fun c3_ => ?_)
 ·
  replace c3_ := of_decide_eq_true c3_
  refine bS [0, 0, 0, 0, 0, 0, 0, 0, 0, 0, 0] 14 0 [(1, iq id), (2, iq k), (3, .pointer (pB b1)), (6, .pointer (pB b2)), (23, .bool true)] ?_
  refine cont_done ?_
  refine then_normal ?_
  refine cont_true rfl ?_
  refine cont_seq ?_
  refine cont_region 3 rfl ?_
  refine batch0 [1, 0, 0] 3 0 [(6, .pointer (pB b2)), (7, iq 1)] [.cells b2 [iq mo, .slice A n cap] 41 true, .cells b1 [iq mo, .slice A n cap] 41 true, .gen (rdE (A) g o n 2 (dvals X11.cells xs))] rfl rfl (by kernel_rfl) (by kernel_rfl) ?_
  refine cont_forget 1 rfl ?_
  refine cont_done ?_
  refine then_normal ?_
  refine cont_ret ?_
  refine then_ret ?_
  refine ret_two (.inl rfl) rfl 0 0 (.agg #[iq mo, .slice A n cap]) (iq 1) (by kernel_rfl) (by kernel_rfl) (by kernel_rfl) (by kernel_rfl) (fun w hT => ?_)
  rw [show addEX mo xs id k = 1 from by unfold addEX; split <;> (try split) <;> (try split) <;> omega]
  exact ⟨rfl, hT.post rfl⟩
 replace c3_ := of_decide_eq_false c3_
 refine bS [0, 0, 0, 0] 7 7 [(1, iq id), (2, iq k), (3, .pointer (pB b1)), (6, .pointer (pB b2)), (16, .bool (decide (id > 4294967295)))] ?_
 refine cont_split 16 (decide (id > 4294967295)) rfl (fun c4_ => ?_) (fun c4_ => ?_)
 ·
  replace c4_ := of_decide_eq_true c4_
  refine bS [0, 0, 0, 0, 0, 0, 0] 14 0 [(1, iq id), (2, iq k), (3, .pointer (pB b1)), (6, .pointer (pB b2)), (23, .bool true)] ?_
  refine cont_done ?_
  refine then_normal ?_
  refine cont_true rfl ?_
  refine cont_seq ?_
  refine cont_region 3 rfl ?_
  refine batch0 [1, 0, 0] 3 0 [(6, .pointer (pB b2)), (7, iq 1)] [.cells b2 [iq mo, .slice A n cap] 41 true, .cells b1 [iq mo, .slice A n cap] 41 true, .gen (rdE (A) g o n 2 (dvals X11.cells xs))] rfl rfl (by kernel_rfl) (by kernel_rfl) ?_
  refine cont_forget 1 rfl ?_
  refine cont_done ?_
  refine then_normal ?_
  refine cont_ret ?_
  refine then_ret ?_
  refine ret_two (.inl rfl) rfl 0 0 (.agg #[iq mo, .slice A n cap]) (iq 1) (by kernel_rfl) (by kernel_rfl) (by kernel_rfl) (by kernel_rfl) (fun w hT => ?_)
  rw [show addEX mo xs id k = 1 from by unfold addEX; split <;> (try split) <;> (try split) <;> omega]
  exact ⟨rfl, hT.post rfl⟩
 replace c4_ := of_decide_eq_false c4_
 refine bS [0, 0, 0, 0] 11 3 [(1, iq id), (2, iq k), (3, .pointer (pB b1)), (6, .pointer (pB b2)), (20, .bool (decide (k < 1)))] ?_
 refine cont_split 20 (decide (k < 1)) rfl (fun c5_ => ?_) (fun c5_ => ?_)
 ·
  replace c5_ := of_decide_eq_true c5_
  refine bS [0, 0, 0] 14 0 [(1, iq id), (2, iq k), (3, .pointer (pB b1)), (6, .pointer (pB b2)), (23, .bool true)] ?_
  refine cont_done ?_
  refine then_normal ?_
  refine cont_true rfl ?_
  refine cont_seq ?_
  refine cont_region 3 rfl ?_
  refine batch0 [1, 0, 0] 3 0 [(6, .pointer (pB b2)), (7, iq 1)] [.cells b2 [iq mo, .slice A n cap] 41 true, .cells b1 [iq mo, .slice A n cap] 41 true, .gen (rdE (A) g o n 2 (dvals X11.cells xs))] rfl rfl (by kernel_rfl) (by kernel_rfl) ?_
  refine cont_forget 1 rfl ?_
  refine cont_done ?_
  refine then_normal ?_
  refine cont_ret ?_
  refine then_ret ?_
  refine ret_two (.inl rfl) rfl 0 0 (.agg #[iq mo, .slice A n cap]) (iq 1) (by kernel_rfl) (by kernel_rfl) (by kernel_rfl) (by kernel_rfl) (fun w hT => ?_)
  rw [show addEX mo xs id k = 1 from by unfold addEX; split <;> (try split) <;> (try split) <;> omega]
  exact ⟨rfl, hT.post rfl⟩
 replace c5_ := of_decide_eq_false c5_
 refine bS [0, 0, 0] 14 0 [(1, iq id), (2, iq k), (3, .pointer (pB b1)), (6, .pointer (pB b2)), (23, .bool (decide (k > 8)))] ?_
 refine cont_done ?_
 refine then_normal ?_
 refine cont_split 23 (decide (k > 8)) rfl (fun c6_ => ?_) (fun c6_ => ?_)
 ·
  replace c6_ := of_decide_eq_true c6_
  refine cont_true rfl ?_
  refine cont_seq ?_
  refine cont_region 3 rfl ?_
  refine batch0 [1, 0, 0] 3 0 [(6, .pointer (pB b2)), (7, iq 1)] [.cells b2 [iq mo, .slice A n cap] 41 true, .cells b1 [iq mo, .slice A n cap] 41 true, .gen (rdE (A) g o n 2 (dvals X11.cells xs))] rfl rfl (by kernel_rfl) (by kernel_rfl) ?_
  refine cont_forget 1 rfl ?_
  refine cont_done ?_
  refine then_normal ?_
  refine cont_ret ?_
  refine then_ret ?_
  refine ret_two (.inl rfl) rfl 0 0 (.agg #[iq mo, .slice A n cap]) (iq 1) (by kernel_rfl) (by kernel_rfl) (by kernel_rfl) (by kernel_rfl) (fun w hT => ?_)
  rw [show addEX mo xs id k = 1 from by unfold addEX; split <;> (try split) <;> (try split) <;> omega]
  exact ⟨rfl, hT.post rfl⟩
 replace c6_ := of_decide_eq_false c6_
 refine cont_false rfl ?_
 refine cont_skip ?_
 refine then_normal ?_
 refine cont_seq ?_
 refine cont_seq ?_
 refine cont_region 4 rfl ?_
 refine bS [1, 0] 2 2 [(1, iq id), (2, iq k), (3, .pointer (pB b1)), (6, .pointer (pB b2)), (25, .agg #[iq mo, .slice A n cap]), (26, iq id)] ?_
 refine pl_step 3 1 rfl rfl ?_
 refine call_pure (d := 27) (iq (kindX xs id)) (by kernel_rfl) (fun w hT => refKind11 mo A g o n cap xs id w (hT.viewRo (.cons (i := 2) rfl Vw.rd .nil) rfl) (by omega)) ?_
 refine bS [0] 4 0 [(1, iq id), (2, iq k), (3, .pointer (pB b1)), (6, .pointer (pB b2)), (28, .bool (decide ((kindX xs id) > 0)))] ?_
 refine cont_done ?_
 refine then_normal ?_
 refine cont_split 28 (decide ((kindX xs id) > 0)) rfl (fun c7_ => ?_) (fun c7_ => ?_)
 ·
  replace c7_ := of_decide_eq_true c7_
  refine cont_true rfl ?_
  refine cont_seq ?_
  refine cont_region 3 rfl ?_
  refine batch0 [1, 0, 0] 3 0 [(6, .pointer (pB b2)), (7, iq 6)] [.cells b2 [iq mo, .slice A n cap] 41 true, .cells b1 [iq mo, .slice A n cap] 41 true, .gen (rdE (A) g o n 2 (dvals X11.cells xs))] rfl rfl (by kernel_rfl) (by kernel_rfl) ?_
  refine cont_forget 1 rfl ?_
  refine cont_done ?_
  refine then_normal ?_
  refine cont_ret ?_
  refine then_ret ?_
  refine ret_two (.inl rfl) rfl 0 0 (.agg #[iq mo, .slice A n cap]) (iq 6) (by kernel_rfl) (by kernel_rfl) (by kernel_rfl) (by kernel_rfl) (fun w hT => ?_)
  rw [show addEX mo xs id k = 6 from by unfold addEX; split <;> (try split) <;> (try split) <;> omega]
  exact ⟨rfl, hT.post rfl⟩
 replace c7_ := of_decide_eq_false c7_
 refine cont_false rfl ?_
 refine cont_skip ?_
 refine then_normal ?_
 refine cont_seq ?_
 refine cont_seq ?_
 refine cont_region 6 rfl ?_
 refine bS [0, 1, 0, 0, 1, 0] 6 0 [(1, iq id), (2, iq k), (3, .pointer (pB b1)), (6, .pointer (pB b2)), (35, .bool (decide ((n : Int) ≥ mo)))] ?_
 refine cont_done ?_
 refine then_normal ?_
 refine cont_split 35 (decide ((n : Int) ≥ mo)) rfl (fun c8_ => ?_) (fun c8_ => ?_)
 ·
  replace c8_ := of_decide_eq_true c8_
  refine cont_true rfl ?_
  refine cont_seq ?_
  refine cont_region 3 rfl ?_
  refine batch0 [1, 0, 0] 3 0 [(6, .pointer (pB b2)), (7, iq 10)] [.cells b2 [iq mo, .slice A n cap] 41 true, .cells b1 [iq mo, .slice A n cap] 41 true, .gen (rdE (A) g o n 2 (dvals X11.cells xs))] rfl rfl (by kernel_rfl) (by kernel_rfl) ?_
  refine cont_forget 1 rfl ?_
  refine cont_done ?_
  refine then_normal ?_
  refine cont_ret ?_
  refine then_ret ?_
  refine ret_two (.inl rfl) rfl 0 0 (.agg #[iq mo, .slice A n cap]) (iq 10) (by kernel_rfl) (by kernel_rfl) (by kernel_rfl) (by kernel_rfl) (fun w hT => ?_)
  rw [show addEX mo xs id k = 10 from by unfold addEX; split <;> (try split) <;> (try split) <;> omega]
  exact ⟨rfl, hT.post rfl⟩
 replace c8_ := of_decide_eq_false c8_
 exfalso; apply h0; unfold addEX; rw [if_neg (by omega), if_neg (by omega), if_neg (by omega)]

theorem refAddY11 (mo : Int) (A : Option Addr) (g o n cap : Nat) (xs : List X11) (id k : Int) (w : World) (hT0 : Tab w w [.gen (rdE (A) g o n 2 (dvals X11.cells xs))]) (hn : n ≤ 1000) (hc : n ≤ cap ∧ cap ≤ 9223372036854775807) (h0 : addEX mo xs id k = 0) :
    Calls Try.prog 18 #[.agg #[.int .i64 mo, .slice A n cap], .int .i64 id, .int .i64 k] w fun e w' => ∃ (p : Nat) (A_ : Option Addr) (g_ k_ cp_ : Nat), e = .returned (.tuple #[.agg #[.int .i64 mo, .slice A_ k_ cp_], .int .i64 0]) ∧ (p ≤ xs.length ∧ (p = 0 ∨ (dget xs (p - 1)).x0 ≤ id) ∧ ∀ j, p ≤ j → j < xs.length → id < (dget xs j).x0) ∧ Tab w w' [.gen (rowE (A_) g_ k_ cp_ 57 2 (dvals X11.cells (addX xs id k p)) true)] := by
 obtain ⟨hra, hrl⟩ := Rd.factsD X11.size (by decide) (hT0.ok 0 _ rfl)
 refine enter 75 [(0, .agg #[iq mo, .slice A n cap]), (1, iq id), (2, iq k)] [.gen (rdE (A) g o n 2 (dvals X11.cells xs))] Try.func18 rfl Try.ntmps18 rfl (by kernel_rfl) hT0 ?_
 refine cont_seq ?_
 refine cont_region 3 rfl ?_
 refine batch2 [0, 0, 0] 3 0 (fun b1 b2 => [(1, iq id), (2, iq k), (3, .pointer (pB b1)), (6, .pointer (pB b2))]) (fun b1 b2 => [.cells b2 [iq 0, .slice none 0 0] 41 true, .cells b1 [iq mo, .slice A n cap] 41 true, .gen (rdE (A) g o n 2 (dvals X11.cells xs))]) rfl rfl [1, 2, 3, 6] (fun _ _ => rfl) (fun b1 b2 => by kernel_rfl) (fun b1 b2 => by kernel_rfl) (fun b1 b2 => ?_)
 refine cont_done ?_
 refine then_normal ?_
 refine cont_seq ?_
 refine cont_seq ?_
 refine cont_region 14 rfl ?_
 refine bS [0, 0, 0] 3 11 [(1, iq id), (2, iq k), (3, .pointer (pB b1)), (6, .pointer (pB b2)), (12, .bool (decide (id < 1)))] ?_
 refine cont_split 12 (decide (id < 1)) rfl (fun c3_ => ?_) (fun c3_ => ?_)
 ·
  replace c3_ := of_decide_eq_true c3_
  exfalso; revert h0; unfold addEX; split <;> (try split) <;> (try split) <;> omega
 replace c3_ := of_decide_eq_false c3_
 refine bS [0, 0, 0, 0] 7 7 [(1, iq id), (2, iq k), (3, .pointer (pB b1)), (6, .pointer (pB b2)), (16, .bool (decide (id > 4294967295)))] ?_
 refine cont_split 16 (decide (id > 4294967295)) rfl (fun c4_ => ?_) (fun c4_ => ?_)
 ·
  replace c4_ := of_decide_eq_true c4_
  exfalso; revert h0; unfold addEX; split <;> (try split) <;> (try split) <;> omega
 replace c4_ := of_decide_eq_false c4_
 refine bS [0, 0, 0, 0] 11 3 [(1, iq id), (2, iq k), (3, .pointer (pB b1)), (6, .pointer (pB b2)), (20, .bool (decide (k < 1)))] ?_
 refine cont_split 20 (decide (k < 1)) rfl (fun c5_ => ?_) (fun c5_ => ?_)
 ·
  replace c5_ := of_decide_eq_true c5_
  exfalso; revert h0; unfold addEX; split <;> (try split) <;> (try split) <;> omega
 replace c5_ := of_decide_eq_false c5_
 refine bS [0, 0, 0] 14 0 [(1, iq id), (2, iq k), (3, .pointer (pB b1)), (6, .pointer (pB b2)), (23, .bool (decide (k > 8)))] ?_
 refine cont_done ?_
 refine then_normal ?_
 refine cont_split 23 (decide (k > 8)) rfl (fun c6_ => ?_) (fun c6_ => ?_)
 ·
  replace c6_ := of_decide_eq_true c6_
  exfalso; revert h0; unfold addEX; split <;> (try split) <;> (try split) <;> omega
 replace c6_ := of_decide_eq_false c6_
 refine cont_false rfl ?_
 refine cont_skip ?_
 refine then_normal ?_
 refine cont_seq ?_
 refine cont_seq ?_
 refine cont_region 4 rfl ?_
 refine bS [1, 0] 2 2 [(1, iq id), (2, iq k), (3, .pointer (pB b1)), (6, .pointer (pB b2)), (25, .agg #[iq mo, .slice A n cap]), (26, iq id)] ?_
 refine pl_step 3 1 rfl rfl ?_
 refine call_pure (d := 27) (iq (kindX xs id)) (by kernel_rfl) (fun w hT => refKind11 mo A g o n cap xs id w (hT.viewRo (.cons (i := 2) rfl Vw.rd .nil) rfl) (by omega)) ?_
 refine bS [0] 4 0 [(1, iq id), (2, iq k), (3, .pointer (pB b1)), (6, .pointer (pB b2)), (28, .bool (decide ((kindX xs id) > 0)))] ?_
 refine cont_done ?_
 refine then_normal ?_
 refine cont_split 28 (decide ((kindX xs id) > 0)) rfl (fun c7_ => ?_) (fun c7_ => ?_)
 ·
  replace c7_ := of_decide_eq_true c7_
  exfalso; revert h0; unfold addEX; split <;> (try split) <;> (try split) <;> omega
 replace c7_ := of_decide_eq_false c7_
 refine cont_false rfl ?_
 refine cont_skip ?_
 refine then_normal ?_
 refine cont_seq ?_
 refine cont_seq ?_
 refine cont_region 6 rfl ?_
 refine bS [0, 1, 0, 0, 1, 0] 6 0 [(1, iq id), (2, iq k), (3, .pointer (pB b1)), (6, .pointer (pB b2)), (35, .bool (decide ((n : Int) ≥ mo)))] ?_
 refine cont_done ?_
 refine then_normal ?_
 refine cont_split 35 (decide ((n : Int) ≥ mo)) rfl (fun c8_ => ?_) (fun c8_ => ?_)
 ·
  replace c8_ := of_decide_eq_true c8_
  exfalso; revert h0; unfold addEX; split <;> (try split) <;> (try split) <;> omega
 replace c8_ := of_decide_eq_false c8_
 refine cont_false rfl ?_
 refine cont_skip ?_
 refine then_normal ?_
 refine cont_seq ?_
 refine cont_region 4 rfl ?_
 refine bS [0, 1, 0, 0] 4 0 [(1, iq id), (2, iq k), (3, .pointer (pB b1)), (6, .pointer (pB b2)), (8, iq (n : Int))] ?_
 refine cont_done ?_
 refine then_normal ?_
 refine cont_seq ?_
 refine cont_block ?_
 refine cont_loop (α := Nat) (fun x_ : Nat => x_ ≤ n ∧ ∀ j, x_ ≤ j → j < n → id < (dget xs j).x0) (fun x_ : Nat => [(1, iq id), (2, iq k), (3, .pointer (pB b1)), (6, .pointer (pB b2)), (8, iq ((x_ : Nat) : Int))]) (fun x_ : Nat => [.cells b2 [iq 0, .slice none 0 0] 41 true, .cells b1 [iq mo, .slice A n cap] 41 true, .gen (rdE (A) g o n 2 (dvals X11.cells xs))]) (fun x_ : Nat => x_) n (⟨by omega, fun j h1_ h2_ => by omega⟩) (by kernel_rfl) (by kernel_rfl) ?_
 rintro p hinv9_
 replace hinv9_ : p ≤ n ∧ ∀ j, p ≤ j → j < n → id < (dget xs j).x0 := hinv9_
 refine cont_norm [(1, iq id), (2, iq k), (3, .pointer (pB b1)), (6, .pointer (pB b2)), (8, iq ((p : Nat) : Int))] _ (by kernel_rfl) rfl ?_
 obtain ⟨hp, hhi⟩ := hinv9_
 refine cont_seq ?_
 refine cont_seq ?_
 refine cont_region 13 rfl ?_
 refine bS [0, 0, 0] 3 10 [(1, iq id), (2, iq k), (3, .pointer (pB b1)), (6, .pointer (pB b2)), (8, iq ((p : Nat) : Int)), (42, .bool (decide (((p : Nat) : Int) > 0)))] ?_
 refine cont_split 42 (decide (((p : Nat) : Int) > 0)) rfl (fun c10_ => ?_) (fun c10_ => ?_)
 ·
  replace c10_ := of_decide_eq_true c10_
  refine bS [0, 1, 0, 0] 7 6 [(1, iq id), (2, iq k), (3, .pointer (pB b1)), (6, .pointer (pB b2)), (8, iq ((p : Nat) : Int)), (42, .bool true), (43, .pointer (some ⟨b1, 1, none⟩)), (44, .slice A n cap), (45, iq ((p : Nat) : Int)), (46, iq (IntKind.i64.wrap (((p : Nat) : Int) - 1)))] ?_
  refine cont_recast 46 (iq (IntKind.i64.wrap (((p : Nat) : Int) - 1))) (iq (((p : Nat) : Int) - 1)) rfl (wrapI (by omega) (by omega)) ?_
  refine pl_step 8 5 rfl rfl ?_
  refine cont_recast 44 (.slice A n cap) (.slice (some ⟨g, o, none⟩) n cap) rfl (by rw [hra (by omega)]) ?_
  refine sem_step 47 (Instr.indexAt 39 (.slice (some ⟨g, o, none⟩) n cap) (iq (((p : Nat) : Int) - 1))) (.pointer (some ⟨g, o + (Int.toNat (((p : Nat) : Int) - 1)) * 2, none⟩)) (by kernel_rfl) (fun w hT => run_indexAt (e := 57) (sz := 2) _ (by kernel_rfl) (by kernel_rfl) (by omega) (by omega) (by omega) w) ?_
  refine bS [0] 9 4 [(1, iq id), (2, iq k), (3, .pointer (pB b1)), (6, .pointer (pB b2)), (8, iq ((p : Nat) : Int)), (42, .bool true), (43, .pointer (some ⟨b1, 1, none⟩)), (44, .slice (some ⟨g, o, none⟩) n cap), (45, iq ((p : Nat) : Int)), (46, iq (((p : Nat) : Int) - 1)), (47, .pointer (some ⟨g, o + (Int.toNat (((p : Nat) : Int) - 1)) * 2, none⟩)), (48, .pointer (some ⟨g, o + (Int.toNat (((p : Nat) : Int) - 1)) * 2, none⟩))] ?_
  refine pl_step 10 3 rfl rfl ?_
  refine sem_step 49 (Instr.loadAt 3 (.pointer (some ⟨g, o + (Int.toNat (((p : Nat) : Int) - 1)) * 2, none⟩))) (iq ((dget xs (Int.toNat (((p : Nat) : Int) - 1))).x0)) (by kernel_rfl) (fun w hT => run_load1 (by kernel_rfl) (Rd.dcell1 X11.size (hT.ok 2 _ rfl) (by omega) 0 rfl)) ?_
  refine bS [0, 0, 0] 13 0 [(1, iq id), (2, iq k), (3, .pointer (pB b1)), (6, .pointer (pB b2)), (8, iq ((p : Nat) : Int)), (43, .pointer (some ⟨b1, 1, none⟩)), (44, .slice (some ⟨g, o, none⟩) n cap), (45, iq ((p : Nat) : Int)), (46, iq (((p : Nat) : Int) - 1)), (47, .pointer (some ⟨g, o + (Int.toNat (((p : Nat) : Int) - 1)) * 2, none⟩)), (48, .pointer (some ⟨g, o + (Int.toNat (((p : Nat) : Int) - 1)) * 2, none⟩)), (49, iq ((dget xs (Int.toNat (((p : Nat) : Int) - 1))).x0)), (50, iq id), (51, .bool (decide (((dget xs (Int.toNat (((p : Nat) : Int) - 1))).x0) > id))), (52, .bool (decide (((dget xs (Int.toNat (((p : Nat) : Int) - 1))).x0) > id)))] ?_
  refine cont_done ?_
  refine then_normal ?_
  refine cont_split 52 (decide (((dget xs (Int.toNat (((p : Nat) : Int) - 1))).x0) > id)) rfl (fun c11_ => ?_) (fun c11_ => ?_)
  ·
   refine cont_recast 51 (.bool (decide (((dget xs (Int.toNat (((p : Nat) : Int) - 1))).x0) > id))) (.bool true) rfl (congrArg Value.bool c11_) ?_
   replace c11_ := of_decide_eq_true c11_
   have hpe_ : (((p : Nat) : Int) - 1).toNat = p - 1 := by omega
   have hc_ := c11_
   rw [hpe_] at hc_
   have hgt_ : id < (dget xs (p - 1)).x0 := by omega
   refine cont_true rfl ?_
   refine cont_skip ?_
   refine then_normal ?_
   refine cont_block ?_
   refine cont_region 3 rfl ?_
   refine bS [0, 0] 2 1 [(1, iq id), (2, iq k), (3, .pointer (pB b1)), (6, .pointer (pB b2)), (43, .pointer (some ⟨b1, 1, none⟩)), (44, .slice (some ⟨g, o, none⟩) n cap), (45, iq ((p : Nat) : Int)), (46, iq (((p : Nat) : Int) - 1)), (47, .pointer (some ⟨g, o + (Int.toNat (((p : Nat) : Int) - 1)) * 2, none⟩)), (48, .pointer (some ⟨g, o + (Int.toNat (((p : Nat) : Int) - 1)) * 2, none⟩)), (49, iq ((dget xs (Int.toNat (((p : Nat) : Int) - 1))).x0)), (50, iq id), (51, .bool true), (54, iq (IntKind.i64.wrap (((p : Nat) : Int) - 1)))] ?_
   refine cont_recast 54 (iq (IntKind.i64.wrap (((p : Nat) : Int) - 1))) (iq (((p : Nat) : Int) - 1)) rfl (wrapI (by omega) (by omega)) ?_
   refine bS [0] 3 0 [(1, iq id), (2, iq k), (3, .pointer (pB b1)), (6, .pointer (pB b2)), (8, iq (((p : Nat) : Int) - 1)), (43, .pointer (some ⟨b1, 1, none⟩)), (44, .slice (some ⟨g, o, none⟩) n cap), (45, iq ((p : Nat) : Int)), (46, iq (((p : Nat) : Int) - 1)), (47, .pointer (some ⟨g, o + (Int.toNat (((p : Nat) : Int) - 1)) * 2, none⟩)), (48, .pointer (some ⟨g, o + (Int.toNat (((p : Nat) : Int) - 1)) * 2, none⟩)), (49, iq ((dget xs (Int.toNat (((p : Nat) : Int) - 1))).x0)), (50, iq id), (51, .bool true)] ?_
   refine cont_done ?_
   refine blk_normal ?_
   refine then_normal ?_
   refine cont_recast 8 (iq (((p : Nat) : Int) - 1)) (iq ((p - 1 : Nat) : Int)) rfl (congrArg (Value.int .i64) (by omega)) ?_
   refine cont_again (p - 1) (show (p - 1) ≤ n ∧ ∀ j, (p - 1) ≤ j → j < n → id < (dget xs j).x0 from ⟨by omega, fun j h1_ h2_ => by rcases Nat.lt_or_ge j p with h_ | h_; rw [show j = p - 1 by omega]; exact hgt_; exact hhi j h_ h2_⟩) (show (p - 1) < p from by omega) (by kernel_rfl) (by kernel_rfl)
  refine cont_recast 51 (.bool (decide (((dget xs (Int.toNat (((p : Nat) : Int) - 1))).x0) > id))) (.bool false) rfl (congrArg Value.bool c11_) ?_
  replace c11_ := of_decide_eq_false c11_
  have hpe_ : (((p : Nat) : Int) - 1).toNat = p - 1 := by omega
  have hc_ := c11_
  rw [hpe_] at hc_
  have hlo_ : p = 0 ∨ (dget xs (p - 1)).x0 ≤ id := .inr (by omega)
  refine cont_false rfl ?_
  refine cont_exit ?_
  refine then_exit ?_
  refine then_exit ?_
  refine blk_exit ?_
  refine then_normal ?_
  refine cont_seq ?_
  refine cont_region 1 rfl ?_
  refine bS [0] 1 0 [(1, iq id), (2, iq k), (3, .pointer (pB b1)), (6, .pointer (pB b2)), (8, iq ((p : Nat) : Int)), (9, .slice none 0 0)] ?_
  refine cont_done ?_
  refine then_normal ?_
  refine cont_seq ?_
  refine cont_region 7 rfl ?_
  refine bS [0, 0, 1, 0] 4 3 [(1, iq id), (2, iq k), (3, .pointer (pB b1)), (6, .pointer (pB b2)), (8, iq ((p : Nat) : Int)), (55, .slice none 0 0), (57, .slice A n cap), (58, iq ((p : Nat) : Int))] ?_
  refine pl_step 5 2 rfl rfl ?_
  refine sem_step 59 (Instr.sliceAt 39 (.slice A n cap) none (some (iq ((p : Nat) : Int))) none) (.slice A (p : Nat) cap) (by kernel_rfl) (fun w hT => run_sliceHiA (e := 57) (sz := 2) _ (by kernel_rfl) (by kernel_rfl) (by omega) (by omega) (by omega) w) ?_
  refine pl_step 6 1 rfl rfl ?_
  refine cont_nilrow 57 2 ?_
  refine sem_stepW (α := Option Addr × Nat × Nat) 60 (Builtin.append_ #[39, 39] 39 #[.slice none 0 0, .slice A (p : Nat) cap]) (fun x_ => .slice x_.1 (p : Nat) x_.2.2) (fun x_ => [.gen (rowE (x_.1) x_.2.1 (p : Nat) x_.2.2 57 2 (dvals X11.cells (xs.take (p : Nat))) true), .cells b2 [iq 0, .slice none 0 0] 41 true, .cells b1 [iq mo, .slice A n cap] 41 true, .gen (rdE (A) g o n 2 (dvals X11.cells xs))]) (fun _ => True) (by kernel_rfl) (fun w hT => append_own (n' := (p : Nat)) (z := .agg #[iq 0, iq 0]) hT (i := 0) (bytes := 16) rfl (by kernel_rfl) (by kernel_rfl) rfl (by decide) (by decide) (Rd.headD X11.size (by decide) (hT.ok 3 _ rfl) (by omega)) (dvals_one X11.one (xs.take (p : Nat))) (by omega) rfl (Nat.zero_add _).symm) ?_
  rintro ⟨A13, g13, cp13⟩ -
  refine cont_norm [(1, iq id), (2, iq k), (3, .pointer (pB b1)), (6, .pointer (pB b2)), (8, iq ((p : Nat) : Int)), (55, .slice none 0 0), (57, .slice A n cap), (58, iq ((p : Nat) : Int)), (59, .slice A (p : Nat) cap), (60, .slice A13 (p : Nat) cp13)] _ (by kernel_rfl) rfl ?_
  refine cont_fact (F := (0 < (p : Nat) → (A13 : Option Addr) = pB g13) ∧ (xs.take (p : Nat)).length = (p : Nat) ∧ (p : Nat) ≤ cp13 ∧ cp13 ≤ maxLen) (fun w hT => Row.factsD X11.size (by decide) (hT.ok 0 _ rfl)) (fun hr14_ => ?_)
  obtain ⟨hr14_a, hr14_l, hr14_c, hr14_m⟩ := hr14_
  unfold maxLen at hr14_m
  refine bS [0] 7 0 [(1, iq id), (2, iq k), (3, .pointer (pB b1)), (6, .pointer (pB b2)), (8, iq ((p : Nat) : Int)), (9, .slice A13 (p : Nat) cp13)] ?_
  refine cont_done ?_
  refine then_normal ?_
  refine cont_seq ?_
  refine cont_region 7 rfl ?_
  refine batch1 [0, 0, 0, 0, 0] 5 2 (fun b15 => [(3, .pointer (pB b1)), (6, .pointer (pB b2)), (8, iq ((p : Nat) : Int)), (61, .slice A13 (p : Nat) cp13), (65, .slice (pB b15) 1 1)]) (fun b15 => [.cells b15 [iq id, iq k] 57 true, .gen (rowE (A13) g13 (p : Nat) cp13 57 2 (dvals X11.cells (xs.take (p : Nat))) true), .cells b2 [iq 0, .slice none 0 0] 41 true, .cells b1 [iq mo, .slice A n cap] 41 true, .gen (rdE (A) g o n 2 (dvals X11.cells xs))]) rfl rfl [3, 6, 8, 61, 65] (fun _ => rfl) (fun b15 => by kernel_rfl) (fun b15 => by kernel_rfl) (fun b15 => ?_)
  refine pl_step 6 1 rfl rfl ?_
  refine sem_stepW (α := Option Addr × Nat × Nat) 66 (Builtin.append_ #[39, 39] 39 #[.slice A13 (p : Nat) cp13, .slice (pB b15) 1 1]) (fun x_ => .slice x_.1 ((p : Nat) + 1) x_.2.2) (fun x_ => [.cells b15 [iq id, iq k] 57 true, .gen (rowE (x_.1) x_.2.1 ((p : Nat) + 1) x_.2.2 57 2 (dvals X11.cells ((xs.take (p : Nat)) ++ [(⟨id, k⟩ : X11)])) true), .cells b2 [iq 0, .slice none 0 0] 41 true, .cells b1 [iq mo, .slice A n cap] 41 true, .gen (rdE (A) g o n 2 (dvals X11.cells xs))]) (fun _ => True) (by kernel_rfl) (fun w hT => append_own (n' := ((p : Nat) + 1)) (z := .agg #[iq 0, iq 0]) hT (i := 1) (bytes := 16) rfl (by kernel_rfl) (by kernel_rfl) rfl (by decide) (by decide) (Rd.ofCells (vals := dvals X11.cells [(⟨id, k⟩ : X11)]) (hT.ok 0 _ rfl) rfl rfl) (dvals_one X11.one [(⟨id, k⟩ : X11)]) (by omega) (dvals_append (xs.take (p : Nat)) [(⟨id, k⟩ : X11)]) rfl) ?_
  rintro ⟨A16, g16, cp16⟩ -
  refine cont_norm [(3, .pointer (pB b1)), (6, .pointer (pB b2)), (8, iq ((p : Nat) : Int)), (61, .slice A13 (p : Nat) cp13), (65, .slice (pB b15) 1 1), (66, .slice A16 ((p : Nat) + 1) cp16)] _ (by kernel_rfl) rfl ?_
  refine cont_fact (F := (0 < ((p : Nat) + 1) → (A16 : Option Addr) = pB g16) ∧ ((xs.take (p : Nat)) ++ [(⟨id, k⟩ : X11)]).length = ((p : Nat) + 1) ∧ ((p : Nat) + 1) ≤ cp16 ∧ cp16 ≤ maxLen) (fun w hT => Row.factsD X11.size (by decide) (hT.ok 1 _ rfl)) (fun hr17_ => ?_)
  obtain ⟨hr17_a, hr17_l, hr17_c, hr17_m⟩ := hr17_
  unfold maxLen at hr17_m
  refine bS [0] 7 0 [(3, .pointer (pB b1)), (6, .pointer (pB b2)), (8, iq ((p : Nat) : Int)), (9, .slice A16 ((p : Nat) + 1) cp16)] ?_
  refine cont_forget 0 rfl ?_
  refine cont_done ?_
  refine then_normal ?_
  refine cont_seq ?_
  refine cont_region 8 rfl ?_
  refine bS [0, 0, 2, 0] 4 4 [(3, .pointer (pB b1)), (6, .pointer (pB b2)), (67, .slice A16 ((p : Nat) + 1) cp16), (69, .slice A n cap), (70, iq ((p : Nat) : Int))] ?_
  refine pl_step 5 3 rfl rfl ?_
  refine cont_recast 69 (.slice A n cap) (.slice (some ⟨g, o, none⟩) n cap) rfl (by rw [hra (by omega)]) ?_
  refine sem_step 71 (Instr.sliceAt 39 (.slice (some ⟨g, o, none⟩) n cap) (some (iq ((p : Nat) : Int))) none none) (.slice (sliceA g o (p : Nat) cap 2) (n - (p : Nat)) (cap - (p : Nat))) (by kernel_rfl) (fun w hT => run_sliceLo (e := 57) (sz := 2) _ (by kernel_rfl) (by kernel_rfl) (by omega) (by omega) (by omega) (by omega) w) ?_
  refine pl_step 6 2 rfl rfl ?_
  refine sem_stepW (α := Option Addr × Nat × Nat) 72 (Builtin.append_ #[39, 39] 39 #[.slice A16 ((p : Nat) + 1) cp16, .slice (sliceA g o (p : Nat) cap 2) (n - (p : Nat)) (cap - (p : Nat))]) (fun x_ => .slice x_.1 (((p : Nat) + 1) + (n - (p : Nat))) x_.2.2) (fun x_ => [.gen (rowE (x_.1) x_.2.1 (((p : Nat) + 1) + (n - (p : Nat))) x_.2.2 57 2 (dvals X11.cells (((xs.take (p : Nat)) ++ [(⟨id, k⟩ : X11)]) ++ ((xs.drop (p : Nat)).take (n - (p : Nat))))) true), .cells b2 [iq 0, .slice none 0 0] 41 true, .cells b1 [iq mo, .slice A n cap] 41 true, .gen (rdE (A) g o n 2 (dvals X11.cells xs))]) (fun _ => True) (by kernel_rfl) (fun w hT => append_own (n' := (((p : Nat) + 1) + (n - (p : Nat)))) (z := .agg #[iq 0, iq 0]) hT (i := 0) (bytes := 16) rfl (by kernel_rfl) (by kernel_rfl) rfl (by decide) (by decide) (Rd.subD X11.size (by decide) (hT.ok 3 _ rfl) (by omega) (by omega)) (dvals_one X11.one ((xs.drop (p : Nat)).take (n - (p : Nat)))) (by omega) (dvals_append ((xs.take (p : Nat)) ++ [(⟨id, k⟩ : X11)]) ((xs.drop (p : Nat)).take (n - (p : Nat)))) rfl) ?_
  rintro ⟨A18, g18, cp18⟩ -
  refine cont_norm [(3, .pointer (pB b1)), (6, .pointer (pB b2)), (67, .slice A16 ((p : Nat) + 1) cp16), (69, .slice (some ⟨g, o, none⟩) n cap), (70, iq ((p : Nat) : Int)), (71, .slice (sliceA g o (p : Nat) cap 2) (n - (p : Nat)) (cap - (p : Nat))), (72, .slice A18 (((p : Nat) + 1) + (n - (p : Nat))) cp18)] _ (by kernel_rfl) rfl ?_
  refine cont_fact (F := (0 < (((p : Nat) + 1) + (n - (p : Nat))) → (A18 : Option Addr) = pB g18) ∧ (((xs.take (p : Nat)) ++ [(⟨id, k⟩ : X11)]) ++ ((xs.drop (p : Nat)).take (n - (p : Nat)))).length = (((p : Nat) + 1) + (n - (p : Nat))) ∧ (((p : Nat) + 1) + (n - (p : Nat))) ≤ cp18 ∧ cp18 ≤ maxLen) (fun w hT => Row.factsD X11.size (by decide) (hT.ok 0 _ rfl)) (fun hr19_ => ?_)
  obtain ⟨hr19_a, hr19_l, hr19_c, hr19_m⟩ := hr19_
  unfold maxLen at hr19_m
  refine batch0 [0, 2] 8 0 [(3, .pointer (pB b1)), (6, .pointer (pB b2))] [.gen (rowE (A18) g18 (((p : Nat) + 1) + (n - (p : Nat))) cp18 57 2 (dvals X11.cells (((xs.take (p : Nat)) ++ [(⟨id, k⟩ : X11)]) ++ ((xs.drop (p : Nat)).take (n - (p : Nat))))) true), .cells b2 [iq 0, .slice none 0 0] 41 true, .cells b1 [iq mo, .slice A18 (((p : Nat) + 1) + (n - (p : Nat))) cp18] 41 true, .gen (rdE (A) g o n 2 (dvals X11.cells xs))] rfl rfl (by kernel_rfl) (by kernel_rfl) ?_
  refine cont_done ?_
  refine then_normal ?_
  refine cont_seq ?_
  refine cont_region 3 rfl ?_
  refine cont_rowEqD (cel := X11.cells) (z := 2) 0 (((xs.take (p : Nat)) ++ [(⟨id, k⟩ : X11)]) ++ ((xs.drop (p : Nat)).take (n - (p : Nat)))) (addX xs id k p) rfl (by unfold addX; rw [show (xs.drop p).take (n - p) = xs.drop p from List.take_of_length_le (by rw [List.length_drop]; omega)]) ?_
  refine cont_norm [(3, .pointer (pB b1)), (6, .pointer (pB b2))] _ (by kernel_rfl) rfl ?_
  refine batch0 [2, 1, 0] 3 0 [(6, .pointer (pB b2)), (7, iq 0)] [.gen (rowE (A18) g18 (((p : Nat) + 1) + (n - (p : Nat))) cp18 57 2 (dvals X11.cells (addX xs id k p)) true), .cells b2 [iq mo, .slice A18 (((p : Nat) + 1) + (n - (p : Nat))) cp18] 41 true, .cells b1 [iq mo, .slice A18 (((p : Nat) + 1) + (n - (p : Nat))) cp18] 41 true, .gen (rdE (A) g o n 2 (dvals X11.cells xs))] rfl rfl (by kernel_rfl) (by kernel_rfl) ?_
  refine cont_forget 2 rfl ?_
  refine cont_done ?_
  refine then_normal ?_
  refine cont_ret ?_
  refine ret_two (.inl rfl) rfl 1 0 (.agg #[iq mo, .slice A18 (((p : Nat) + 1) + (n - (p : Nat))) cp18]) (iq 0) (by kernel_rfl) (by kernel_rfl) (by kernel_rfl) (by kernel_rfl) (fun w hT => ?_)
  replace hT := hT.erase 2 (fun e h hw => by cases h; first | rfl | cases hw)
  replace hT := hT.erase 1 (fun e h hw => by cases h; first | rfl | cases hw)
  exact ⟨p, _, _, _, _, rfl, ⟨by omega, hlo_, fun j h1_ h2_ => hhi j h1_ (by omega)⟩, hT⟩
 replace c10_ := of_decide_eq_false c10_
 have hlo_ : p = 0 ∨ (dget xs (p - 1)).x0 ≤ id := .inl (by omega)
 refine bS [0, 0, 0, 0, 0, 0, 0, 0, 0, 0] 13 0 [(1, iq id), (2, iq k), (3, .pointer (pB b1)), (6, .pointer (pB b2)), (8, iq ((p : Nat) : Int)), (43, undef), (44, undef), (45, undef), (46, undef), (47, undef), (48, undef), (49, undef), (50, undef), (51, undef), (52, .bool false)] ?_
 refine cont_done ?_
 refine then_normal ?_
 refine cont_false rfl ?_
 refine cont_exit ?_
 refine then_exit ?_
 refine then_exit ?_
 refine blk_exit ?_
 refine then_normal ?_
 refine cont_seq ?_
 refine cont_region 1 rfl ?_
 refine bS [0] 1 0 [(1, iq id), (2, iq k), (3, .pointer (pB b1)), (6, .pointer (pB b2)), (8, iq ((p : Nat) : Int)), (9, .slice none 0 0)] ?_
 refine cont_done ?_
 refine then_normal ?_
 refine cont_seq ?_
 refine cont_region 7 rfl ?_
 refine bS [0, 0, 1, 0] 4 3 [(1, iq id), (2, iq k), (3, .pointer (pB b1)), (6, .pointer (pB b2)), (8, iq ((p : Nat) : Int)), (55, .slice none 0 0), (57, .slice A n cap), (58, iq ((p : Nat) : Int))] ?_
 refine pl_step 5 2 rfl rfl ?_
 refine sem_step 59 (Instr.sliceAt 39 (.slice A n cap) none (some (iq ((p : Nat) : Int))) none) (.slice A (p : Nat) cap) (by kernel_rfl) (fun w hT => run_sliceHiA (e := 57) (sz := 2) _ (by kernel_rfl) (by kernel_rfl) (by omega) (by omega) (by omega) w) ?_
 refine pl_step 6 1 rfl rfl ?_
 refine cont_nilrow 57 2 ?_
 refine sem_stepW (α := Option Addr × Nat × Nat) 60 (Builtin.append_ #[39, 39] 39 #[.slice none 0 0, .slice A (p : Nat) cap]) (fun x_ => .slice x_.1 (p : Nat) x_.2.2) (fun x_ => [.gen (rowE (x_.1) x_.2.1 (p : Nat) x_.2.2 57 2 (dvals X11.cells (xs.take (p : Nat))) true), .cells b2 [iq 0, .slice none 0 0] 41 true, .cells b1 [iq mo, .slice A n cap] 41 true, .gen (rdE (A) g o n 2 (dvals X11.cells xs))]) (fun _ => True) (by kernel_rfl) (fun w hT => append_own (n' := (p : Nat)) (z := .agg #[iq 0, iq 0]) hT (i := 0) (bytes := 16) rfl (by kernel_rfl) (by kernel_rfl) rfl (by decide) (by decide) (Rd.headD X11.size (by decide) (hT.ok 3 _ rfl) (by omega)) (dvals_one X11.one (xs.take (p : Nat))) (by omega) rfl (Nat.zero_add _).symm) ?_
 rintro ⟨A21, g21, cp21⟩ -
 refine cont_norm [(1, iq id), (2, iq k), (3, .pointer (pB b1)), (6, .pointer (pB b2)), (8, iq ((p : Nat) : Int)), (55, .slice none 0 0), (57, .slice A n cap), (58, iq ((p : Nat) : Int)), (59, .slice A (p : Nat) cap), (60, .slice A21 (p : Nat) cp21)] _ (by kernel_rfl) rfl ?_
 refine cont_fact (F := (0 < (p : Nat) → (A21 : Option Addr) = pB g21) ∧ (xs.take (p : Nat)).length = (p : Nat) ∧ (p : Nat) ≤ cp21 ∧ cp21 ≤ maxLen) (fun w hT => Row.factsD X11.size (by decide) (hT.ok 0 _ rfl)) (fun hr22_ => ?_)
 obtain ⟨hr22_a, hr22_l, hr22_c, hr22_m⟩ := hr22_
 unfold maxLen at hr22_m
 refine bS [0] 7 0 [(1, iq id), (2, iq k), (3, .pointer (pB b1)), (6, .pointer (pB b2)), (8, iq ((p : Nat) : Int)), (9, .slice A21 (p : Nat) cp21)] ?_
 refine cont_done ?_
 refine then_normal ?_
 refine cont_seq ?_
 refine cont_region 7 rfl ?_
 refine batch1 [0, 0, 0, 0, 0] 5 2 (fun b23 => [(3, .pointer (pB b1)), (6, .pointer (pB b2)), (8, iq ((p : Nat) : Int)), (61, .slice A21 (p : Nat) cp21), (65, .slice (pB b23) 1 1)]) (fun b23 => [.cells b23 [iq id, iq k] 57 true, .gen (rowE (A21) g21 (p : Nat) cp21 57 2 (dvals X11.cells (xs.take (p : Nat))) true), .cells b2 [iq 0, .slice none 0 0] 41 true, .cells b1 [iq mo, .slice A n cap] 41 true, .gen (rdE (A) g o n 2 (dvals X11.cells xs))]) rfl rfl [3, 6, 8, 61, 65] (fun _ => rfl) (fun b23 => by kernel_rfl) (fun b23 => by kernel_rfl) (fun b23 => ?_)
 refine pl_step 6 1 rfl rfl ?_
 refine sem_stepW (α := Option Addr × Nat × Nat) 66 (Builtin.append_ #[39, 39] 39 #[.slice A21 (p : Nat) cp21, .slice (pB b23) 1 1]) (fun x_ => .slice x_.1 ((p : Nat) + 1) x_.2.2) (fun x_ => [.cells b23 [iq id, iq k] 57 true, .gen (rowE (x_.1) x_.2.1 ((p : Nat) + 1) x_.2.2 57 2 (dvals X11.cells ((xs.take (p : Nat)) ++ [(⟨id, k⟩ : X11)])) true), .cells b2 [iq 0, .slice none 0 0] 41 true, .cells b1 [iq mo, .slice A n cap] 41 true, .gen (rdE (A) g o n 2 (dvals X11.cells xs))]) (fun _ => True) (by kernel_rfl) (fun w hT => append_own (n' := ((p : Nat) + 1)) (z := .agg #[iq 0, iq 0]) hT (i := 1) (bytes := 16) rfl (by kernel_rfl) (by kernel_rfl) rfl (by decide) (by decide) (Rd.ofCells (vals := dvals X11.cells [(⟨id, k⟩ : X11)]) (hT.ok 0 _ rfl) rfl rfl) (dvals_one X11.one [(⟨id, k⟩ : X11)]) (by omega) (dvals_append (xs.take (p : Nat)) [(⟨id, k⟩ : X11)]) rfl) ?_
 rintro ⟨A24, g24, cp24⟩ -
 refine cont_norm [(3, .pointer (pB b1)), (6, .pointer (pB b2)), (8, iq ((p : Nat) : Int)), (61, .slice A21 (p : Nat) cp21), (65, .slice (pB b23) 1 1), (66, .slice A24 ((p : Nat) + 1) cp24)] _ (by kernel_rfl) rfl ?_
 refine cont_fact (F := (0 < ((p : Nat) + 1) → (A24 : Option Addr) = pB g24) ∧ ((xs.take (p : Nat)) ++ [(⟨id, k⟩ : X11)]).length = ((p : Nat) + 1) ∧ ((p : Nat) + 1) ≤ cp24 ∧ cp24 ≤ maxLen) (fun w hT => Row.factsD X11.size (by decide) (hT.ok 1 _ rfl)) (fun hr25_ => ?_)
 obtain ⟨hr25_a, hr25_l, hr25_c, hr25_m⟩ := hr25_
 unfold maxLen at hr25_m
 refine bS [0] 7 0 [(3, .pointer (pB b1)), (6, .pointer (pB b2)), (8, iq ((p : Nat) : Int)), (9, .slice A24 ((p : Nat) + 1) cp24)] ?_
 refine cont_forget 0 rfl ?_
 refine cont_done ?_
 refine then_normal ?_
 refine cont_seq ?_
 refine cont_region 8 rfl ?_
 refine bS [0, 0, 2, 0] 4 4 [(3, .pointer (pB b1)), (6, .pointer (pB b2)), (67, .slice A24 ((p : Nat) + 1) cp24), (69, .slice A n cap), (70, iq ((p : Nat) : Int))] ?_
 refine pl_step 5 3 rfl rfl ?_
 refine sem_step 71 (Instr.sliceAt 39 (.slice A n cap) (some (iq ((p : Nat) : Int))) none none) (.slice A n cap) (by kernel_rfl) (fun w hT => run_sliceLoZ (e := 57) (sz := 2) (by kernel_rfl) (by kernel_rfl) (by omega) (by omega) w) ?_
 refine pl_step 6 2 rfl rfl ?_
 refine sem_stepW (α := Option Addr × Nat × Nat) 72 (Builtin.append_ #[39, 39] 39 #[.slice A24 ((p : Nat) + 1) cp24, .slice A n cap]) (fun x_ => .slice x_.1 (((p : Nat) + 1) + n) x_.2.2) (fun x_ => [.gen (rowE (x_.1) x_.2.1 (((p : Nat) + 1) + n) x_.2.2 57 2 (dvals X11.cells (((xs.take (p : Nat)) ++ [(⟨id, k⟩ : X11)]) ++ xs)) true), .cells b2 [iq 0, .slice none 0 0] 41 true, .cells b1 [iq mo, .slice A n cap] 41 true, .gen (rdE (A) g o n 2 (dvals X11.cells xs))]) (fun _ => True) (by kernel_rfl) (fun w hT => append_own (n' := (((p : Nat) + 1) + n)) (z := .agg #[iq 0, iq 0]) hT (i := 0) (bytes := 16) rfl (by kernel_rfl) (by kernel_rfl) rfl (by decide) (by decide) (hT.ok 3 _ rfl) (dvals_one X11.one xs) (by omega) (dvals_append ((xs.take (p : Nat)) ++ [(⟨id, k⟩ : X11)]) xs) rfl) ?_
 rintro ⟨A26, g26, cp26⟩ -
 refine cont_norm [(3, .pointer (pB b1)), (6, .pointer (pB b2)), (67, .slice A24 ((p : Nat) + 1) cp24), (69, .slice A n cap), (70, iq ((p : Nat) : Int)), (71, .slice A n cap), (72, .slice A26 (((p : Nat) + 1) + n) cp26)] _ (by kernel_rfl) rfl ?_
 refine cont_fact (F := (0 < (((p : Nat) + 1) + n) → (A26 : Option Addr) = pB g26) ∧ (((xs.take (p : Nat)) ++ [(⟨id, k⟩ : X11)]) ++ xs).length = (((p : Nat) + 1) + n) ∧ (((p : Nat) + 1) + n) ≤ cp26 ∧ cp26 ≤ maxLen) (fun w hT => Row.factsD X11.size (by decide) (hT.ok 0 _ rfl)) (fun hr27_ => ?_)
 obtain ⟨hr27_a, hr27_l, hr27_c, hr27_m⟩ := hr27_
 unfold maxLen at hr27_m
 refine batch0 [0, 2] 8 0 [(3, .pointer (pB b1)), (6, .pointer (pB b2))] [.gen (rowE (A26) g26 (((p : Nat) + 1) + n) cp26 57 2 (dvals X11.cells (((xs.take (p : Nat)) ++ [(⟨id, k⟩ : X11)]) ++ xs)) true), .cells b2 [iq 0, .slice none 0 0] 41 true, .cells b1 [iq mo, .slice A26 (((p : Nat) + 1) + n) cp26] 41 true, .gen (rdE (A) g o n 2 (dvals X11.cells xs))] rfl rfl (by kernel_rfl) (by kernel_rfl) ?_
 refine cont_done ?_
 refine then_normal ?_
 refine cont_seq ?_
 refine cont_region 3 rfl ?_
 refine cont_rowEqD (cel := X11.cells) (z := 2) 0 (((xs.take (p : Nat)) ++ [(⟨id, k⟩ : X11)]) ++ xs) (addX xs id k p) rfl (by have h_ : p = 0 := (by omega); subst h_; rfl) ?_
 refine cont_norm [(3, .pointer (pB b1)), (6, .pointer (pB b2))] _ (by kernel_rfl) rfl ?_
 refine batch0 [2, 1, 0] 3 0 [(6, .pointer (pB b2)), (7, iq 0)] [.gen (rowE (A26) g26 (((p : Nat) + 1) + n) cp26 57 2 (dvals X11.cells (addX xs id k p)) true), .cells b2 [iq mo, .slice A26 (((p : Nat) + 1) + n) cp26] 41 true, .cells b1 [iq mo, .slice A26 (((p : Nat) + 1) + n) cp26] 41 true, .gen (rdE (A) g o n 2 (dvals X11.cells xs))] rfl rfl (by kernel_rfl) (by kernel_rfl) ?_
 refine cont_forget 2 rfl ?_
 refine cont_done ?_
 refine then_normal ?_
 refine cont_ret ?_
 refine ret_two (.inl rfl) rfl 1 0 (.agg #[iq mo, .slice A26 (((p : Nat) + 1) + n) cp26]) (iq 0) (by kernel_rfl) (by kernel_rfl) (by kernel_rfl) (by kernel_rfl) (fun w hT => ?_)
 replace hT := hT.erase 2 (fun e h hw => by cases h; first | rfl | cases hw)
 replace hT := hT.erase 1 (fun e h hw => by cases h; first | rfl | cases hw)
 exact ⟨p, _, _, _, _, rfl, ⟨by omega, hlo_, fun j h1_ h2_ => hhi j h1_ (by omega)⟩, hT⟩

end Go.Proofs.Ytekgdfaggagfmaa

