/- Contracts of functions of the given program, printed by a program of this project. -/
import Derived.Test.YtgmonhehilcegaaPeL2d
import Derived.Test.YtgmonhehilcegaaPeRq
import Derived.Test.YtgmonhehilcegaaProg
set_option linter.unusedVariables false
set_option linter.unusedSimpArgs false
namespace Go.Proofs.Ytgmonhehilcegaa
open Go Go.RowKit
set_option maxRecDepth 100000
set_option maxHeartbeats 8000000

theorem rectHullQ (A : Option Addr) (g o n cap : Nat) (xs : List Rect) (w : World) (hT0 : Tab w w [.gen (rdE (A) g o n 4 (rvals xs))]) (hn : n ≤ 1000000000000) :
    Calls Try.prog 92 #[.slice A n cap] w fun e w' => e = .returned (.agg #[.int .i64 ((hullP xs).x0), .int .i64 ((hullP xs).y0), .int .i64 ((hullP xs).x1), .int .i64 ((hullP xs).y1)]) ∧ Below w.heap.size w w' := by
 obtain ⟨hra, hrl⟩ := Rd.factsR (hT0.ok 0 _ rfl)
 refine enter 43 [(0, .slice A n cap)] [.gen (rdE (A) g o n 4 (rvals xs))] Try.func92 rfl Try.ntmps92 rfl (by kernel_rfl) hT0 ?_
 refine cont_seq ?_
 refine cont_region 1 rfl ?_
 refine batch1 [0] 1 0 (fun b1 => [(0, .slice A n cap), (2, .pointer (pB b1))]) (fun b1 => [.cells b1 [iq 0, iq 0, iq 0, iq 0] 28 true, .gen (rdE (A) g o n 4 (rvals xs))]) rfl rfl [0, 2] (fun _ => rfl) (fun b1 => by kernel_rfl) (fun b1 => by kernel_rfl) (fun b1 => ?_)
 refine cont_done ?_
 refine then_normal ?_
 refine cont_seq ?_
 refine cont_region 1 rfl ?_
 refine batch1 [0] 1 0 (fun b2 => [(0, .slice A n cap), (2, .pointer (pB b1)), (3, .pointer (pB b2))]) (fun b2 => [.cells b2 [iq 0, iq 0, iq 0, iq 0] 28 true, .cells b1 [iq 0, iq 0, iq 0, iq 0] 28 true, .gen (rdE (A) g o n 4 (rvals xs))]) rfl rfl [0, 2, 3] (fun _ => rfl) (fun b2 => by kernel_rfl) (fun b2 => by kernel_rfl) (fun b2 => ?_)
 refine cont_done ?_
 refine then_normal ?_
 refine cont_seq ?_
 refine cont_seq ?_
 refine cont_region 3 rfl ?_
 refine bS [0, 0, 0] 3 0 [(2, .pointer (pB b1)), (3, .pointer (pB b2)), (6, .slice A n cap), (7, iq (n : Int)), (8, iq 0)] ?_
 refine cont_done ?_
 refine then_normal ?_
 refine cont_block ?_
 refine cont_norm [(2, .pointer (pB b1)), (3, .pointer (pB b2)), (6, .slice A n cap), (7, iq (n : Int)), (8, iq 0)] [.cells b2 [iq ((hullP (xs.take 0)).x0), iq ((hullP (xs.take 0)).y0), iq ((hullP (xs.take 0)).x1), iq ((hullP (xs.take 0)).y1)] 28 true, .cells b1 [iq 0, iq 0, iq 0, iq 0] 28 true, .gen (rdE (A) g o n 4 (rvals xs))] (by kernel_rfl) (congrArg (fun c_ : List Value => ([.cells b2 c_ 28 true, .cells b1 [iq 0, iq 0, iq 0, iq 0] 28 true, .gen (rdE (A) g o n 4 (rvals xs))] : List Ent)) (rfl : cellsR zeroR = cellsR (hullP (xs.take 0)))) ?_
 refine cont_loop (α := Nat) (fun x_ : Nat => x_ ≤ n) (fun x_ : Nat => [(2, .pointer (pB b1)), (3, .pointer (pB b2)), (6, .slice A n cap), (7, iq (n : Int)), (8, iq (x_ : Int))]) (fun x_ : Nat => [.cells b2 [iq ((hullP (xs.take x_)).x0), iq ((hullP (xs.take x_)).y0), iq ((hullP (xs.take x_)).x1), iq ((hullP (xs.take x_)).y1)] 28 true, .cells b1 [iq 0, iq 0, iq 0, iq 0] 28 true, .gen (rdE (A) g o n 4 (rvals xs))]) (fun x_ : Nat => n - x_) 0 (by omega) (by kernel_rfl) (by kernel_rfl) ?_
 rintro i hinv3_
 replace hinv3_ : i ≤ n := hinv3_
 refine cont_norm [(2, .pointer (pB b1)), (3, .pointer (pB b2)), (6, .slice A n cap), (7, iq (n : Int)), (8, iq (i : Int))] [.cells b2 [iq ((hullP (xs.take i)).x0), iq ((hullP (xs.take i)).y0), iq ((hullP (xs.take i)).x1), iq ((hullP (xs.take i)).y1)] 28 true, .cells b1 [iq 0, iq 0, iq 0, iq 0] 28 true, .gen (rdE (A) g o n 4 (rvals xs))] (by kernel_rfl) rfl ?_
 have hi := hinv3_
 refine cont_seq ?_
 refine cont_region 1 rfl ?_
 refine bS [0] 1 0 [(2, .pointer (pB b1)), (3, .pointer (pB b2)), (6, .slice A n cap), (7, iq (n : Int)), (8, iq (i : Int)), (9, .bool (decide ((i : Int) < (n : Int))))] ?_
 refine cont_done ?_
 refine then_normal ?_
 refine cont_seq ?_
 refine cont_split 9 (decide ((i : Int) < (n : Int))) rfl (fun c4_ => ?_) (fun c4_ => ?_)
 ·
  replace c4_ := of_decide_eq_true c4_
  refine cont_true rfl ?_
  refine cont_skip ?_
  refine then_normal ?_
  refine cont_seq ?_
  refine cont_block ?_
  refine cont_seq ?_
  refine cont_region 4 rfl ?_
  refine pl_step 1 3 rfl rfl ?_
  refine cont_recast 6 (.slice A n cap) (.slice (some ⟨g, o, none⟩) n cap) rfl (by rw [hra (by omega)]) ?_
  refine sem_step 10 (Instr.indexAt 62 (.slice (some ⟨g, o, none⟩) n cap) (iq (i : Int))) (.pointer (some ⟨g, o + i * 4, none⟩)) (by kernel_rfl) (fun w hT => run_indexAt (e := 28) (sz := 4) _ (by kernel_rfl) (by kernel_rfl) (by omega) (by omega) (by omega) w) ?_
  refine pl_step 2 2 rfl rfl ?_
  refine sem_step 11 (Instr.loadAt 28 (.pointer (some ⟨g, o + i * 4, none⟩))) (.agg #[iq ((rget xs i).x0), iq ((rget xs i).y0), iq ((rget xs i).x1), iq ((rget xs i).y1)]) (by kernel_rfl) (fun w hT => run_loadN (m := 4) (cs := rcells (rget xs i)) (by kernel_rfl) (by kernel_rfl) rfl (Rd.rect (hT.ok 2 _ rfl) (by omega))) ?_
  refine batch1 [0, 0] 4 0 (fun b5 => [(2, .pointer (pB b1)), (3, .pointer (pB b2)), (5, .pointer (pB b5)), (6, .slice (some ⟨g, o, none⟩) n cap), (7, iq (n : Int)), (8, iq (i : Int))]) (fun b5 => [.cells b5 [iq ((rget xs i).x0), iq ((rget xs i).y0), iq ((rget xs i).x1), iq ((rget xs i).y1)] 28 true, .cells b2 [iq ((hullP (xs.take i)).x0), iq ((hullP (xs.take i)).y0), iq ((hullP (xs.take i)).x1), iq ((hullP (xs.take i)).y1)] 28 true, .cells b1 [iq 0, iq 0, iq 0, iq 0] 28 true, .gen (rdE (A) g o n 4 (rvals xs))]) rfl rfl [2, 3, 5, 6, 7, 8] (fun _ => rfl) (fun b5 => by kernel_rfl) (fun b5 => by kernel_rfl) (fun b5 => ?_)
  refine cont_done ?_
  refine then_normal ?_
  refine cont_seq ?_
  refine cont_block ?_
  refine cont_seq ?_
  refine cont_region 3 rfl ?_
  refine bS [0] 1 2 [(2, .pointer (pB b1)), (3, .pointer (pB b2)), (5, .pointer (pB b5)), (6, .slice (some ⟨g, o, none⟩) n cap), (7, iq (n : Int)), (8, iq (i : Int)), (13, .agg #[iq ((rget xs i).x0), iq ((rget xs i).y0), iq ((rget xs i).x1), iq ((rget xs i).y1)])] ?_
  refine pl_step 2 1 rfl rfl ?_
  refine call_pure (d := 14) (.bool (emptyB ((rget xs i).x0) ((rget xs i).y0) ((rget xs i).x1) ((rget xs i).y1))) (by kernel_rfl) (fun w hT => rectEmpty ((rget xs i).x0) ((rget xs i).y0) ((rget xs i).x1) ((rget xs i).y1) w) ?_
  refine bS [0] 3 0 [(2, .pointer (pB b1)), (3, .pointer (pB b2)), (5, .pointer (pB b5)), (6, .slice (some ⟨g, o, none⟩) n cap), (7, iq (n : Int)), (8, iq (i : Int)), (12, .bool (emptyB ((rget xs i).x0) ((rget xs i).y0) ((rget xs i).x1) ((rget xs i).y1)))] ?_
  refine cont_done ?_
  refine then_normal ?_
  refine cont_split 12 (emptyB ((rget xs i).x0) ((rget xs i).y0) ((rget xs i).x1) ((rget xs i).y1)) rfl (fun c6_ => ?_) (fun c6_ => ?_)
  ·
   refine cont_true rfl ?_
   refine cont_exit ?_
   refine blk_exit_ne rfl ?_
   refine then_exit ?_
   refine blk_exit ?_
   refine then_normal ?_
   refine cont_region 2 rfl ?_
   refine bS [0] 1 1 [(2, .pointer (pB b1)), (3, .pointer (pB b2)), (6, .slice (some ⟨g, o, none⟩) n cap), (7, iq (n : Int)), (41, iq (IntKind.i64.wrap ((i : Int) + 1)))] ?_
   refine cont_recast 41 (iq (IntKind.i64.wrap ((i : Int) + 1))) (iq ((i : Int) + 1)) rfl (wrapI (by omega) (by omega)) ?_
   refine cont_forget 0 rfl ?_
   refine bS [0] 2 0 [(2, .pointer (pB b1)), (3, .pointer (pB b2)), (6, .slice (some ⟨g, o, none⟩) n cap), (7, iq (n : Int)), (8, iq ((i : Int) + 1))] ?_
   refine cont_done ?_
   refine then_normal ?_
   refine cont_recast 6 (.slice (some ⟨g, o, none⟩) n cap) (.slice A n cap) rfl (by rw [hra (by omega)]) ?_
   refine cont_norm [(2, .pointer (pB b1)), (3, .pointer (pB b2)), (6, .slice A n cap), (7, iq (n : Int)), (8, iq ((i : Int) + 1))] [.cells b2 [iq ((hullP (xs.take (i + 1))).x0), iq ((hullP (xs.take (i + 1))).y0), iq ((hullP (xs.take (i + 1))).x1), iq ((hullP (xs.take (i + 1))).y1)] 28 true, .cells b1 [iq 0, iq 0, iq 0, iq 0] 28 true, .gen (rdE (A) g o n 4 (rvals xs))] (by kernel_rfl) (congrArg (fun c_ : List Value => ([.cells b2 c_ 28 true, .cells b1 [iq 0, iq 0, iq 0, iq 0] 28 true, .gen (rdE (A) g o n 4 (rvals xs))] : List Ent)) (cellsR_eq (hullP_skip (by omega) c6_))) ?_
   refine cont_again (i + 1) (show (i + 1) ≤ n from (by omega)) (show n - (i + 1) < n - i from by omega) (by kernel_rfl) (by kernel_rfl)
  refine cont_false rfl ?_
  refine cont_seq ?_
  refine cont_region 4 rfl ?_
  refine bS [1, 0] 2 2 [(2, .pointer (pB b1)), (3, .pointer (pB b2)), (5, .pointer (pB b5)), (6, .slice (some ⟨g, o, none⟩) n cap), (7, iq (n : Int)), (8, iq (i : Int)), (16, .agg #[iq ((hullP (xs.take i)).x0), iq ((hullP (xs.take i)).y0), iq ((hullP (xs.take i)).x1), iq ((hullP (xs.take i)).y1)]), (17, .agg #[iq 0, iq 0, iq 0, iq 0])] ?_
  refine pl_step 3 1 rfl rfl ?_
  refine sem_step 18 (bopS .eql 28 (.tmp 16) (.tmp 17) (.agg #[iq ((hullP (xs.take i)).x0), iq ((hullP (xs.take i)).y0), iq ((hullP (xs.take i)).x1), iq ((hullP (xs.take i)).y1)]) (.agg #[iq 0, iq 0, iq 0, iq 0])) (.bool (eqInts [(hullP (xs.take i)).x0, (hullP (xs.take i)).y0, (hullP (xs.take i)).x1, (hullP (xs.take i)).y1] [0, 0, 0, 0])) (by kernel_rfl) (fun w hT => run_eqS [(hullP (xs.take i)).x0, (hullP (xs.take i)).y0, (hullP (xs.take i)).x1, (hullP (xs.take i)).y1] [0, 0, 0, 0] (by kernel_rfl) (by kernel_rfl) (by kernel_rfl) (by kernel_rfl) rfl rfl w) ?_
  refine bS [0] 4 0 [(2, .pointer (pB b1)), (3, .pointer (pB b2)), (5, .pointer (pB b5)), (6, .slice (some ⟨g, o, none⟩) n cap), (7, iq (n : Int)), (8, iq (i : Int)), (15, .bool (eqInts [(hullP (xs.take i)).x0, (hullP (xs.take i)).y0, (hullP (xs.take i)).x1, (hullP (xs.take i)).y1] [0, 0, 0, 0]))] ?_
  refine cont_done ?_
  refine then_normal ?_
  refine cont_split 15 (eqInts [(hullP (xs.take i)).x0, (hullP (xs.take i)).y0, (hullP (xs.take i)).x1, (hullP (xs.take i)).y1] [0, 0, 0, 0]) rfl (fun c7_ => ?_) (fun c7_ => ?_)
  ·
   refine cont_true rfl ?_
   refine cont_region 2 rfl ?_
   refine batch0 [0, 1] 2 0 [(2, .pointer (pB b1)), (3, .pointer (pB b2)), (5, .pointer (pB b5)), (6, .slice (some ⟨g, o, none⟩) n cap), (7, iq (n : Int)), (8, iq (i : Int))] [.cells b5 [iq ((rget xs i).x0), iq ((rget xs i).y0), iq ((rget xs i).x1), iq ((rget xs i).y1)] 28 true, .cells b2 [iq ((rget xs i).x0), iq ((rget xs i).y0), iq ((rget xs i).x1), iq ((rget xs i).y1)] 28 true, .cells b1 [iq 0, iq 0, iq 0, iq 0] 28 true, .gen (rdE (A) g o n 4 (rvals xs))] rfl rfl (by kernel_rfl) (by kernel_rfl) ?_
   refine cont_done ?_
   refine blk_normal ?_
   refine then_normal ?_
   refine cont_region 22 rfl ?_
   refine batch0 [0, 1, 0, 0, 0, 0, 1, 0, 0, 0, 0, 1, 0, 0, 0, 0, 1, 0, 0, 0, 0, 1] 22 0 [(2, .pointer (pB b1)), (3, .pointer (pB b2)), (6, .slice (some ⟨g, o, none⟩) n cap), (7, iq (n : Int)), (8, iq (i : Int))] [.cells b5 [iq ((rget xs i).x0), iq ((rget xs i).y0), iq ((rget xs i).x1), iq ((rget xs i).y1)] 28 true, .cells b2 [iq (mn ((rget xs i).x0) ((rget xs i).x0)), iq (mn ((rget xs i).y0) ((rget xs i).y0)), iq (mx ((rget xs i).x1) ((rget xs i).x1)), iq (mx ((rget xs i).y1) ((rget xs i).y1))] 28 true, .cells b1 [iq 0, iq 0, iq 0, iq 0] 28 true, .gen (rdE (A) g o n 4 (rvals xs))] rfl rfl (by kernel_rfl) (by kernel_rfl) ?_
   refine cont_forget 0 rfl ?_
   refine cont_done ?_
   refine blk_normal ?_
   refine then_normal ?_
   refine cont_region 2 rfl ?_
   refine bS [0] 1 1 [(2, .pointer (pB b1)), (3, .pointer (pB b2)), (6, .slice (some ⟨g, o, none⟩) n cap), (7, iq (n : Int)), (41, iq (IntKind.i64.wrap ((i : Int) + 1)))] ?_
   refine cont_recast 41 (iq (IntKind.i64.wrap ((i : Int) + 1))) (iq ((i : Int) + 1)) rfl (wrapI (by omega) (by omega)) ?_
   refine bS [0] 2 0 [(2, .pointer (pB b1)), (3, .pointer (pB b2)), (6, .slice (some ⟨g, o, none⟩) n cap), (7, iq (n : Int)), (8, iq ((i : Int) + 1))] ?_
   refine cont_done ?_
   refine then_normal ?_
   refine cont_recast 6 (.slice (some ⟨g, o, none⟩) n cap) (.slice A n cap) rfl (by rw [hra (by omega)]) ?_
   refine cont_norm [(2, .pointer (pB b1)), (3, .pointer (pB b2)), (6, .slice A n cap), (7, iq (n : Int)), (8, iq ((i : Int) + 1))] [.cells b2 [iq ((hullP (xs.take (i + 1))).x0), iq ((hullP (xs.take (i + 1))).y0), iq ((hullP (xs.take (i + 1))).x1), iq ((hullP (xs.take (i + 1))).y1)] 28 true, .cells b1 [iq 0, iq 0, iq 0, iq 0] 28 true, .gen (rdE (A) g o n 4 (rvals xs))] (by kernel_rfl) (congrArg (fun c_ : List Value => ([.cells b2 c_ 28 true, .cells b1 [iq 0, iq 0, iq 0, iq 0] 28 true, .gen (rdE (A) g o n 4 (rvals xs))] : List Ent)) ((joinV _ _).trans (cellsR_eq (hullP_first (by omega) c6_ (of_decide_eq_true (eqInts_zero c7_)))))) ?_
   refine cont_again (i + 1) (show (i + 1) ≤ n from (by omega)) (show n - (i + 1) < n - i from by omega) (by kernel_rfl) (by kernel_rfl)
  refine cont_false rfl ?_
  refine cont_skip ?_
  refine blk_normal ?_
  refine then_normal ?_
  refine cont_region 22 rfl ?_
  refine batch0 [0, 1, 0, 0, 0, 0, 1, 0, 0, 0, 0, 1, 0, 0, 0, 0, 1, 0, 0, 0, 0, 1] 22 0 [(2, .pointer (pB b1)), (3, .pointer (pB b2)), (6, .slice (some ⟨g, o, none⟩) n cap), (7, iq (n : Int)), (8, iq (i : Int))] [.cells b5 [iq ((rget xs i).x0), iq ((rget xs i).y0), iq ((rget xs i).x1), iq ((rget xs i).y1)] 28 true, .cells b2 [iq (mn ((hullP (xs.take i)).x0) ((rget xs i).x0)), iq (mn ((hullP (xs.take i)).y0) ((rget xs i).y0)), iq (mx ((hullP (xs.take i)).x1) ((rget xs i).x1)), iq (mx ((hullP (xs.take i)).y1) ((rget xs i).y1))] 28 true, .cells b1 [iq 0, iq 0, iq 0, iq 0] 28 true, .gen (rdE (A) g o n 4 (rvals xs))] rfl rfl (by kernel_rfl) (by kernel_rfl) ?_
  refine cont_forget 0 rfl ?_
  refine cont_done ?_
  refine blk_normal ?_
  refine then_normal ?_
  refine cont_region 2 rfl ?_
  refine bS [0] 1 1 [(2, .pointer (pB b1)), (3, .pointer (pB b2)), (6, .slice (some ⟨g, o, none⟩) n cap), (7, iq (n : Int)), (41, iq (IntKind.i64.wrap ((i : Int) + 1)))] ?_
  refine cont_recast 41 (iq (IntKind.i64.wrap ((i : Int) + 1))) (iq ((i : Int) + 1)) rfl (wrapI (by omega) (by omega)) ?_
  refine bS [0] 2 0 [(2, .pointer (pB b1)), (3, .pointer (pB b2)), (6, .slice (some ⟨g, o, none⟩) n cap), (7, iq (n : Int)), (8, iq ((i : Int) + 1))] ?_
  refine cont_done ?_
  refine then_normal ?_
  refine cont_recast 6 (.slice (some ⟨g, o, none⟩) n cap) (.slice A n cap) rfl (by rw [hra (by omega)]) ?_
  refine cont_norm [(2, .pointer (pB b1)), (3, .pointer (pB b2)), (6, .slice A n cap), (7, iq (n : Int)), (8, iq ((i : Int) + 1))] [.cells b2 [iq ((hullP (xs.take (i + 1))).x0), iq ((hullP (xs.take (i + 1))).y0), iq ((hullP (xs.take (i + 1))).x1), iq ((hullP (xs.take (i + 1))).y1)] 28 true, .cells b1 [iq 0, iq 0, iq 0, iq 0] 28 true, .gen (rdE (A) g o n 4 (rvals xs))] (by kernel_rfl) (congrArg (fun c_ : List Value => ([.cells b2 c_ 28 true, .cells b1 [iq 0, iq 0, iq 0, iq 0] 28 true, .gen (rdE (A) g o n 4 (rvals xs))] : List Ent)) ((joinV _ _).trans (cellsR_eq (hullP_join (by omega) c6_ (of_decide_eq_false (eqInts_zero c7_)))))) ?_
  refine cont_again (i + 1) (show (i + 1) ≤ n from (by omega)) (show n - (i + 1) < n - i from by omega) (by kernel_rfl) (by kernel_rfl)
 replace c4_ := of_decide_eq_false c4_
 refine cont_false rfl ?_
 refine cont_exit ?_
 refine then_exit ?_
 refine then_exit ?_
 refine blk_exit ?_
 refine then_normal ?_
 refine cont_seq ?_
 refine cont_region 2 rfl ?_
 refine batch0 [0, 1] 2 0 [(2, .pointer (pB b1))] [.cells b2 [iq ((hullP (xs.take i)).x0), iq ((hullP (xs.take i)).y0), iq ((hullP (xs.take i)).x1), iq ((hullP (xs.take i)).y1)] 28 true, .cells b1 [iq ((hullP (xs.take i)).x0), iq ((hullP (xs.take i)).y0), iq ((hullP (xs.take i)).x1), iq ((hullP (xs.take i)).y1)] 28 true, .gen (rdE (A) g o n 4 (rvals xs))] rfl rfl (by kernel_rfl) (by kernel_rfl) ?_
 refine cont_forget 0 rfl ?_
 refine cont_done ?_
 refine then_normal ?_
 refine cont_ret ?_
 refine ret_one (.inl rfl) rfl 0 (.agg #[iq ((hullP (xs.take i)).x0), iq ((hullP (xs.take i)).y0), iq ((hullP (xs.take i)).x1), iq ((hullP (xs.take i)).y1)]) (by kernel_rfl) (by kernel_rfl) (fun w hT => ?_)
 rw [show i = n by omega, List.take_of_length_le (show xs.length ≤ n by omega)]
 exact ⟨rfl, hT.post rfl⟩

theorem regKeep (A : Option Addr) (g o n cap : Nat) (xs : List Rect) (m : Int) (w : World) (hT0 : Tab w w [.gen (rdE (A) g o n 4 (rvals xs))]) (hn : n ≤ 1000000000000) :
    Calls Try.prog 59 #[.slice A n cap, .int .i64 m] w fun e w' => ∃ (A_ : Option Addr) (g_ k_ cp_ : Nat), e = .returned (.slice A_ k_ cp_) ∧ Tab w w' [.gen (rowE (A_) g_ k_ cp_ 28 4 (rvals (keepL hullP xs m)) true)] := by
 obtain ⟨hra, hrl⟩ := Rd.factsR (hT0.ok 0 _ rfl)
 refine enter 18 [(0, .slice A n cap), (1, iq m)] [.gen (rdE (A) g o n 4 (rvals xs))] Try.func59 rfl Try.ntmps59 rfl (by kernel_rfl) hT0 ?_
 refine cont_seq ?_
 refine cont_region 1 rfl ?_
 refine bS [0] 1 0 [(0, .slice A n cap), (1, iq m)] ?_
 refine cont_done ?_
 refine then_normal ?_
 refine cont_seq ?_
 refine cont_block ?_
 refine cont_seq ?_
 refine cont_region 5 rfl ?_
 refine bS [0, 0, 0, 0, 0] 5 0 [(0, .slice A n cap), (1, iq m), (5, .bool (decide ((n : Int) ≤ m)))] ?_
 refine cont_done ?_
 refine then_normal ?_
 refine cont_split 5 (decide ((n : Int) ≤ m)) rfl (fun c1_ => ?_) (fun c1_ => ?_)
 ·
  replace c1_ := of_decide_eq_true c1_
  refine cont_true rfl ?_
  refine cont_seq ?_
  refine cont_region 3 rfl ?_
  refine bS [0] 1 2 [(10, .slice A n cap)] ?_
  refine pl_step 2 1 rfl rfl ?_
  refine call_gen (d := 11) (α := Option Addr × Nat × Nat × Nat) (fun x_ => .slice x_.1 x_.2.2.1 x_.2.2.2) (fun x_ => [.gen (rowE (x_.1) x_.2.1 x_.2.2.1 x_.2.2.2 28 4 (rvals xs) true), .gen (rdE (A) g o n 4 (rvals xs))]) (fun x_ => True) (by kernel_rfl) (fun w hT => (cloneR A g o n cap xs w (hT.viewRo (.cons (i := 0) rfl Vw.rd .nil) rfl) (by omega)).mono fun e w' ⟨A2, g3, k4, cp5, he_, ht_⟩ => ⟨(A2, g3, k4, cp5), he_, trivial, hT.news ht_ rfl⟩) ?_
  rintro ⟨A2, g3, k4, cp5⟩ hf6_
  refine cont_norm [(10, .slice A n cap), (11, .slice A2 k4 cp5)] [.gen (rowE (A2) g3 k4 cp5 28 4 (rvals xs) true), .gen (rdE (A) g o n 4 (rvals xs))] (by kernel_rfl) rfl ?_
  refine cont_fact (F := (0 < k4 → (A2 : Option Addr) = pB g3) ∧ xs.length = k4 ∧ k4 ≤ cp5 ∧ cp5 ≤ maxLen) (fun w hT => Row.factsR (hT.ok 0 _ rfl)) (fun hr7_ => ?_)
  obtain ⟨hr7_a, hr7_l, hr7_c, hr7_m⟩ := hr7_
  unfold maxLen at hr7_m
  refine bS [0] 3 0 [(4, .slice A2 k4 cp5)] ?_
  refine cont_done ?_
  refine then_normal ?_
  refine cont_ret ?_
  refine blk_ret ?_
  refine then_ret ?_
  refine ret_one (.inl rfl) rfl 0 (.slice A2 k4 cp5) (by kernel_rfl) (by kernel_rfl) (fun w hT => ?_)
  replace hT := hT.erase 1 (fun e h hw => by cases h; first | rfl | cases hw)
  rw [keepL_all (by omega)]
  exact ⟨_, _, _, _, rfl, hT⟩
 replace c1_ := of_decide_eq_false c1_
 refine cont_false rfl ?_
 refine cont_seq ?_
 refine cont_region 3 rfl ?_
 refine bS [0, 0, 0] 3 0 [(0, .slice A n cap), (12, .bool (decide (m < 1)))] ?_
 refine cont_done ?_
 refine then_normal ?_
 refine cont_split 12 (decide (m < 1)) rfl (fun c8_ => ?_) (fun c8_ => ?_)
 ·
  replace c8_ := of_decide_eq_true c8_
  refine cont_true rfl ?_
  refine cont_seq ?_
  refine cont_region 1 rfl ?_
  refine bS [0] 1 0 [(4, .slice none 0 0)] ?_
  refine cont_done ?_
  refine then_normal ?_
  refine cont_ret ?_
  refine blk_ret ?_
  refine then_ret ?_
  refine ret_one (.inl rfl) rfl 0 (.slice none 0 0) (by kernel_rfl) (by kernel_rfl) (fun w hT => ?_)
  replace hT := hT.erase 0 (fun e h hw => by cases h; first | rfl | cases hw)
  rw [keepL_none (by omega) (by omega)]
  exact ⟨none, 0, 0, 0, rfl, hT.nilR _ _⟩
 replace c8_ := of_decide_eq_false c8_
 refine cont_false rfl ?_
 refine cont_skip ?_
 refine blk_normal ?_
 refine then_normal ?_
 refine cont_seq ?_
 refine cont_region 4 rfl ?_
 refine bS [0] 1 3 [(15, .slice A n cap)] ?_
 refine pl_step 2 2 rfl rfl ?_
 refine call_pure (d := 16) (.agg #[iq ((hullP xs).x0), iq ((hullP xs).y0), iq ((hullP xs).x1), iq ((hullP xs).y1)]) (by kernel_rfl) (fun w hT => rectHullQ A g o n cap xs w (hT.viewRo (.cons (i := 0) rfl Vw.rd .nil) rfl) (by omega)) ?_
 refine batch1 [0] 3 1 (fun b9 => [(17, .slice (pB b9) 1 1)]) (fun b9 => [.cells b9 [iq ((hullP xs).x0), iq ((hullP xs).y0), iq ((hullP xs).x1), iq ((hullP xs).y1)] 28 true, .gen (rdE (A) g o n 4 (rvals xs))]) rfl rfl [17] (fun _ => rfl) (fun b9 => by kernel_rfl) (fun b9 => by kernel_rfl) (fun b9 => ?_)
 refine cont_asRow 0 1 4 rfl (vals := rvals [(⟨(hullP xs).x0, (hullP xs).y0, (hullP xs).x1, (hullP xs).y1⟩ : Rect)]) rfl rfl (by decide) ?_
 refine cont_norm [(17, .slice (pB b9) 1 1)] [.gen (rowE (pB b9) b9 1 1 28 4 (rvals [(⟨(hullP xs).x0, (hullP xs).y0, (hullP xs).x1, (hullP xs).y1⟩ : Rect)]) true), .gen (rdE (A) g o n 4 (rvals xs))] (by kernel_rfl) rfl ?_
 refine bS [0] 4 0 [(4, .slice (pB b9) 1 1)] ?_
 refine cont_done ?_
 refine then_normal ?_
 refine cont_ret ?_
 refine ret_one (.inl rfl) rfl 0 (.slice (pB b9) 1 1) (by kernel_rfl) (by kernel_rfl) (fun w hT => ?_)
 replace hT := hT.erase 1 (fun e h hw => by cases h; first | rfl | cases hw)
 rw [keepL_one (by omega) (by omega)]
 exact ⟨_, _, _, _, rfl, hT⟩

end Go.Proofs.Ytgmonhehilcegaa

