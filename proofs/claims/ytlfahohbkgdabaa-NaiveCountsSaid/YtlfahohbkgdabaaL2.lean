/- Contracts of functions of the given program, printed by a program of this project. -/
import Derived.Test.YtlfahohbkgdabaaL1
import Derived.Test.YtlfahohbkgdabaaRs
import Derived.Test.YtlfahohbkgdabaaRt
import Derived.Test.YtlfahohbkgdabaaProg
set_option linter.unusedVariables false
set_option linter.unusedSimpArgs false
namespace Go.Proofs.Ytlfahohbkgdabaa
open Go Go.RowKit
set_option maxRecDepth 100000
set_option maxHeartbeats 8000000

theorem sideY (a b c d : Int) (w : World) :
    Calls Try.prog 106 #[.agg #[.int .i64 a, .int .i64 b, .int .i64 c, .int .i64 d]] w fun e w' => e = .returned (.tuple #[.int .i64 b, .int .i64 d]) ∧ Below w.heap.size w w' := by
 refine enter 8 [(0, .agg #[iq a, iq b, iq c, iq d])] [] Try.func106 rfl Try.ntmps106 rfl (by kernel_rfl) (Tab.start w) ?_
 refine cont_seq ?_
 refine cont_region 3 rfl ?_
 refine batch1 [0, 0, 0] 3 0 (fun b1 => [(1, .pointer (pB b1))]) (fun b1 => [.cells b1 [iq a, iq b, iq c, iq d] 53 true]) rfl rfl [1] (fun _ => rfl) (fun b1 => by kernel_rfl) (fun b1 => by kernel_rfl) (fun b1 => ?_)
 refine cont_done ?_
 refine then_normal ?_
 refine cont_seq ?_
 refine drawn_enter 6 [] rfl (by kernel_rfl) ?_
 refine takes 0 [] [(0, 0), (2, 0), (1, 0), (3, 0), (4, 0), (5, 0)] 0 [5, 4, 3, 1, 2, 0] [(2, iq b), (3, iq d)] (by kernel_rfl) (pok_then pok_body) (by kernel_rfl) rfl rfl (by kernel_rfl) (by kernel_rfl) ?_
 refine drawn_done (by kernel_rfl) ?_
 refine then_normal ?_
 refine cont_ret ?_
 refine ret_two (.inl rfl) rfl 0 0 (iq b) (iq d) (by kernel_rfl) (by kernel_rfl) (by kernel_rfl) (by kernel_rfl) (fun w hT => ?_)
 exact ⟨rfl, hT.post rfl⟩

theorem sideX (a b c d : Int) (w : World) :
    Calls Try.prog 119 #[.agg #[.int .i64 a, .int .i64 b, .int .i64 c, .int .i64 d]] w fun e w' => e = .returned (.tuple #[.int .i64 a, .int .i64 c]) ∧ Below w.heap.size w w' := by
 refine enter 8 [(0, .agg #[iq a, iq b, iq c, iq d])] [] Try.func119 rfl Try.ntmps119 rfl (by kernel_rfl) (Tab.start w) ?_
 refine cont_seq ?_
 refine cont_region 3 rfl ?_
 refine batch1 [0, 0, 0] 3 0 (fun b1 => [(1, .pointer (pB b1))]) (fun b1 => [.cells b1 [iq a, iq b, iq c, iq d] 53 true]) rfl rfl [1] (fun _ => rfl) (fun b1 => by kernel_rfl) (fun b1 => by kernel_rfl) (fun b1 => ?_)
 refine cont_done ?_
 refine then_normal ?_
 refine cont_seq ?_
 refine drawn_enter 6 [] rfl (by kernel_rfl) ?_
 refine takes 0 [] [(0, 0), (2, 0), (1, 0), (3, 0), (4, 0), (5, 0)] 0 [5, 4, 3, 1, 2, 0] [(2, iq a), (3, iq c)] (by kernel_rfl) (pok_then pok_body) (by kernel_rfl) rfl rfl (by kernel_rfl) (by kernel_rfl) ?_
 refine drawn_done (by kernel_rfl) ?_
 refine then_normal ?_
 refine cont_ret ?_
 refine ret_two (.inl rfl) rfl 0 0 (iq a) (iq c) (by kernel_rfl) (by kernel_rfl) (by kernel_rfl) (by kernel_rfl) (fun w hT => ?_)
 exact ⟨rfl, hT.post rfl⟩

theorem regEdges (fk : FuncId) (p q : Rect → Int) (bl : Nat) (A : Option Addr) (g o n cap : Nat) (xs : List Rect) (A' : Option Addr) (g' o' n' cap' : Nat) (xs' : List Rect) (w : World) (hT0 : Tab w w [.ro bl [.slice A n cap, .slice A' n' cap'] 58, .gen (rdE (A) g o n 4 (rvals xs)), .gen (rdE (A') g' o' n' 4 (rvals xs'))]) (hE : Enters Try.prog fk) (hf : ∀ (r : Rect) (w : World), Calls Try.prog fk #[.agg #[.int .i64 r.x0, .int .i64 r.y0, .int .i64 r.x1, .int .i64 r.y1]] w fun e w' => e = .returned (.tuple #[.int .i64 (p r), .int .i64 (q r)]) ∧ Below w.heap.size w w') (hn : n + n' ≤ 262144) :
    Calls Try.prog 105 #[.func (.func fk) #[] #[], .slice (some ⟨bl, 0, none⟩) 2 2] w fun e w' => ∃ (A_ : Option Addr) (g_ k_ cp_ : Nat), e = .returned (.slice A_ k_ cp_) ∧ Tab w w' [.gen (rowE (A_) g_ k_ cp_ 3 1 (ivals .i64 (gridL (evG p q xs ++ evG p q xs'))) true)] := by
 obtain ⟨hra, hrl⟩ := Rd.factsR (hT0.ok 1 _ rfl)
 obtain ⟨hra', hrl'⟩ := Rd.factsR (hT0.ok 2 _ rfl)
 refine enter 41 [(0, .func (.func fk) #[] #[]), (1, .slice (pB bl) 2 2)] [.ro bl [.slice A n cap, .slice A' n' cap'] 58, .gen (rdE (A) g o n 4 (rvals xs)), .gen (rdE (A') g' o' n' 4 (rvals xs'))] Try.func105 rfl Try.ntmps105 rfl (by kernel_rfl) hT0 ?_
 refine cont_seq ?_
 refine cont_region 1 rfl ?_
 refine bS [0] 1 0 [(0, .func (.func fk) #[] #[]), (1, .slice (pB bl) 2 2)] ?_
 refine cont_done ?_
 refine then_normal ?_
 refine cont_seq ?_
 refine cont_region 1 rfl ?_
 refine bS [0] 1 0 [(0, .func (.func fk) #[] #[]), (1, .slice (pB bl) 2 2), (5, .slice none 0 0)] ?_
 refine cont_done ?_
 refine then_normal ?_
 refine cont_seq ?_
 refine cont_seq ?_
 refine cont_region 3 rfl ?_
 refine bS [0, 0, 0] 3 0 [(0, .func (.func fk) #[] #[]), (5, .slice none 0 0), (12, .slice (pB bl) 2 2), (13, iq 2), (14, iq 0)] ?_
 refine cont_done ?_
 refine then_normal ?_
 refine cont_block ?_
 refine cont_rounds 3 ?_
 refine cont_round 3 2 rfl ?_
 refine cont_seq ?_
 refine cont_region 1 rfl ?_
 refine bS [0] 1 0 [(0, .func (.func fk) #[] #[]), (5, .slice none 0 0), (12, .slice (pB bl) 2 2), (13, iq 2), (14, iq 0), (15, .bool true)] ?_
 refine cont_done ?_
 refine then_normal ?_
 refine cont_seq ?_
 refine cont_true rfl ?_
 refine cont_skip ?_
 refine then_normal ?_
 refine cont_seq ?_
 refine cont_block ?_
 refine cont_seq ?_
 refine cont_region 3 rfl ?_
 refine bS [0, 0, 0] 3 0 [(0, .func (.func fk) #[] #[]), (5, .slice none 0 0), (7, .slice A n cap), (12, .slice (pB bl) 2 2), (13, iq 2), (14, iq 0)] ?_
 refine cont_done ?_
 refine then_normal ?_
 refine cont_seq ?_
 refine cont_region 3 rfl ?_
 refine bS [0, 0, 0] 3 0 [(0, .func (.func fk) #[] #[]), (5, .slice none 0 0), (12, .slice (pB bl) 2 2), (13, iq 2), (14, iq 0), (18, .slice A n cap), (19, iq (n : Int)), (20, iq 0)] ?_
 refine cont_done ?_
 refine then_normal ?_
 refine cont_block ?_
 refine cont_nilrow 3 1 ?_
 refine cont_norm [(0, .func (.func fk) #[] #[]), (5, .slice none 0 0), (12, .slice (pB bl) 2 2), (13, iq 2), (14, iq 0), (18, .slice A n cap), (19, iq (n : Int)), (20, iq 0)] _ (by kernel_rfl) rfl ?_
 refine cont_rowEq (k := .i64) 0 ([]) ([] ++ evG p q (xs.take 0)) rfl (evG_zero _) ?_
 refine cont_loop (α := Nat × Nat × Option Addr × Nat × Nat) (fun x_ : Nat × Nat × Option Addr × Nat × Nat => x_.1 ≤ n ∧ x_.2.1 = 0 + 2 * x_.1) (fun x_ : Nat × Nat × Option Addr × Nat × Nat => [(0, .func (.func fk) #[] #[]), (5, .slice x_.2.2.1 x_.2.1 x_.2.2.2.2), (12, .slice (pB bl) 2 2), (13, iq 2), (14, iq 0), (18, .slice A n cap), (19, iq (n : Int)), (20, iq (x_.1 : Int))]) (fun x_ : Nat × Nat × Option Addr × Nat × Nat => [.gen (rowE (x_.2.2.1) x_.2.2.2.1 x_.2.1 x_.2.2.2.2 3 1 (ivals .i64 ([] ++ evG p q (xs.take x_.1))) true), .ro bl [.slice A n cap, .slice A' n' cap'] 58, .gen (rdE (A) g o n 4 (rvals xs)), .gen (rdE (A') g' o' n' 4 (rvals xs'))]) (fun x_ : Nat × Nat × Option Addr × Nat × Nat => n - x_.1) (0, 0, none, 0, 0) (show (0) ≤ n ∧ (0) = 0 + 2 * (0) from ⟨by omega, by omega⟩) (by kernel_rfl) (by kernel_rfl) ?_
 rintro ⟨i, k, Aq, gq, cq⟩ hinv2_
 replace hinv2_ : i ≤ n ∧ k = 0 + 2 * i := hinv2_
 refine cont_norm [(0, .func (.func fk) #[] #[]), (5, .slice Aq k cq), (12, .slice (pB bl) 2 2), (13, iq 2), (14, iq 0), (18, .slice A n cap), (19, iq (n : Int)), (20, iq (i : Int))] _ (by kernel_rfl) rfl ?_
 obtain ⟨hi, hk⟩ := hinv2_
 refine cont_seq ?_
 refine cont_region 1 rfl ?_
 refine bS [0] 1 0 [(0, .func (.func fk) #[] #[]), (5, .slice Aq k cq), (12, .slice (pB bl) 2 2), (13, iq 2), (14, iq 0), (18, .slice A n cap), (19, iq (n : Int)), (20, iq (i : Int)), (21, .bool (decide ((i : Int) < (n : Int))))] ?_
 refine cont_done ?_
 refine then_normal ?_
 refine cont_seq ?_
 refine cont_split 21 (decide ((i : Int) < (n : Int))) rfl (fun c3_ => ?_) (fun c3_ => ?_)
 ·
  replace c3_ := of_decide_eq_true c3_
  refine cont_true rfl ?_
  refine cont_skip ?_
  refine then_normal ?_
  refine cont_seq ?_
  refine cont_block ?_
  refine cont_seq ?_
  refine cont_region 4 rfl ?_
  refine pl_step 1 3 rfl rfl ?_
  refine cont_recast 18 (.slice A n cap) (.slice (some ⟨g, o, none⟩) n cap) rfl (by rw [hra (by omega)]) ?_
  refine sem_step 22 (Instr.indexAt 58 (.slice (some ⟨g, o, none⟩) n cap) (iq (i : Int))) (.pointer (some ⟨g, o + i * 4, none⟩)) (by kernel_rfl) (fun w hT => run_indexAt (e := 53) (sz := 4) _ (by kernel_rfl) (by kernel_rfl) (by omega) (by omega) (by omega) w) ?_
  refine pl_step 2 2 rfl rfl ?_
  refine sem_step 23 (Instr.loadAt 53 (.pointer (some ⟨g, o + i * 4, none⟩))) (.agg #[iq ((rget xs i).x0), iq ((rget xs i).y0), iq ((rget xs i).x1), iq ((rget xs i).y1)]) (by kernel_rfl) (fun w hT => run_loadN (m := 4) (cs := rcells (rget xs i)) (by kernel_rfl) (by kernel_rfl) rfl (Rd.rect (hT.ok 2 _ rfl) (by omega))) ?_
  refine batch1 [0, 0] 4 0 (fun b4 => [(0, .func (.func fk) #[] #[]), (5, .slice Aq k cq), (9, .pointer (pB b4)), (12, .slice (pB bl) 2 2), (13, iq 2), (14, iq 0), (18, .slice (some ⟨g, o, none⟩) n cap), (19, iq (n : Int)), (20, iq (i : Int))]) (fun b4 => [.cells b4 [iq ((rget xs i).x0), iq ((rget xs i).y0), iq ((rget xs i).x1), iq ((rget xs i).y1)] 53 true, .gen (rowE (Aq) gq k cq 3 1 (ivals .i64 ([] ++ evG p q (xs.take i))) true), .ro bl [.slice A n cap, .slice A' n' cap'] 58, .gen (rdE (A) g o n 4 (rvals xs)), .gen (rdE (A') g' o' n' 4 (rvals xs'))]) rfl rfl [0, 5, 9, 12, 13, 14, 18, 19, 20] (fun _ => rfl) (fun b4 => by kernel_rfl) (fun b4 => by kernel_rfl) (fun b4 => ?_)
  refine cont_done ?_
  refine then_normal ?_
  refine cont_seq ?_
  refine cont_region 8 rfl ?_
  refine bS [0, 0] 2 6 [(0, .func (.func fk) #[] #[]), (5, .slice Aq k cq), (12, .slice (pB bl) 2 2), (13, iq 2), (14, iq 0), (18, .slice (some ⟨g, o, none⟩) n cap), (19, iq (n : Int)), (20, iq (i : Int)), (25, .func (.func fk) #[] #[]), (26, .agg #[iq ((rget xs i).x0), iq ((rget xs i).y0), iq ((rget xs i).x1), iq ((rget xs i).y1)])] ?_
  refine cont_forget 0 rfl ?_
  refine pl_step 3 5 rfl rfl ?_
  refine call_pureF (d := 27) (.tuple #[iq (p (rget xs i)), iq (q (rget xs i))]) (by kernel_rfl) hE (fun w hT => hf (rget xs i) w) ?_
  refine bS [0, 0, 0, 0, 0] 8 0 [(0, .func (.func fk) #[] #[]), (5, .slice Aq k cq), (10, iq (p (rget xs i))), (11, iq (q (rget xs i))), (12, .slice (pB bl) 2 2), (13, iq 2), (14, iq 0), (18, .slice (some ⟨g, o, none⟩) n cap), (19, iq (n : Int)), (20, iq (i : Int))] ?_
  refine cont_done ?_
  refine then_normal ?_
  refine cont_region 6 rfl ?_
  refine batch1 [0, 0, 0, 0] 4 2 (fun b5 => [(0, .func (.func fk) #[] #[]), (12, .slice (pB bl) 2 2), (13, iq 2), (14, iq 0), (18, .slice (some ⟨g, o, none⟩) n cap), (19, iq (n : Int)), (20, iq (i : Int)), (30, .slice Aq k cq), (33, .slice (pB b5) 2 2)]) (fun b5 => [.cells b5 [iq (p (rget xs i)), iq (q (rget xs i))] 3 true, .gen (rowE (Aq) gq k cq 3 1 (ivals .i64 ([] ++ evG p q (xs.take i))) true), .ro bl [.slice A n cap, .slice A' n' cap'] 58, .gen (rdE (A) g o n 4 (rvals xs)), .gen (rdE (A') g' o' n' 4 (rvals xs'))]) rfl rfl [0, 12, 13, 14, 18, 19, 20, 30, 33] (fun _ => rfl) (fun b5 => by kernel_rfl) (fun b5 => by kernel_rfl) (fun b5 => ?_)
  refine pl_step 5 1 rfl rfl ?_
  refine sem_stepW (α := Option Addr × Nat × Nat) 34 (Builtin.append_ #[34, 34] 34 #[.slice Aq k cq, .slice (pB b5) 2 2]) (fun x_ => .slice x_.1 (k + 2) x_.2.2) (fun x_ => [.cells b5 [iq (p (rget xs i)), iq (q (rget xs i))] 3 true, .gen (rowE (x_.1) x_.2.1 (k + 2) x_.2.2 3 1 (ivals .i64 (([] ++ evG p q (xs.take i)) ++ [p (rget xs i), q (rget xs i)])) true), .ro bl [.slice A n cap, .slice A' n' cap'] 58, .gen (rdE (A) g o n 4 (rvals xs)), .gen (rdE (A') g' o' n' 4 (rvals xs'))]) (fun _ => True) (by kernel_rfl) (fun w hT => append_own (n' := (k + 2)) (z := iq 0) hT (i := 1) (bytes := 8) rfl (by kernel_rfl) (by kernel_rfl) rfl (by decide) (by decide) (Rd.ofCells (vals := ivals .i64 [p (rget xs i), q (rget xs i)]) (hT.ok 0 _ rfl) rfl rfl) (ivals_one .i64 [p (rget xs i), q (rget xs i)]) (by omega) (ivals_append .i64 ([] ++ evG p q (xs.take i)) [p (rget xs i), q (rget xs i)]) rfl) ?_
  rintro ⟨A6, g6, cp6⟩ -
  refine cont_norm [(0, .func (.func fk) #[] #[]), (12, .slice (pB bl) 2 2), (13, iq 2), (14, iq 0), (18, .slice (some ⟨g, o, none⟩) n cap), (19, iq (n : Int)), (20, iq (i : Int)), (30, .slice Aq k cq), (33, .slice (pB b5) 2 2), (34, .slice A6 (k + 2) cp6)] _ (by kernel_rfl) rfl ?_
  refine cont_fact (F := (0 < (k + 2) → (A6 : Option Addr) = pB g6) ∧ (([] ++ evG p q (xs.take i)) ++ [p (rget xs i), q (rget xs i)]).length = (k + 2) ∧ (k + 2) ≤ cp6 ∧ cp6 ≤ maxLen) (fun w hT => Row.facts (hT.ok 1 _ rfl)) (fun hr7_ => ?_)
  obtain ⟨hr7_a, hr7_l, hr7_c, hr7_m⟩ := hr7_
  unfold maxLen at hr7_m
  refine bS [0] 6 0 [(0, .func (.func fk) #[] #[]), (5, .slice A6 (k + 2) cp6), (12, .slice (pB bl) 2 2), (13, iq 2), (14, iq 0), (18, .slice (some ⟨g, o, none⟩) n cap), (19, iq (n : Int)), (20, iq (i : Int))] ?_
  refine cont_forget 0 rfl ?_
  refine cont_done ?_
  refine blk_normal ?_
  refine then_normal ?_
  refine cont_region 2 rfl ?_
  refine bS [0] 1 1 [(0, .func (.func fk) #[] #[]), (5, .slice A6 (k + 2) cp6), (12, .slice (pB bl) 2 2), (13, iq 2), (14, iq 0), (18, .slice (some ⟨g, o, none⟩) n cap), (19, iq (n : Int)), (35, iq (IntKind.i64.wrap ((i : Int) + 1)))] ?_
  refine cont_recast 35 (iq (IntKind.i64.wrap ((i : Int) + 1))) (iq ((i : Int) + 1)) rfl (wrapI (by omega) (by omega)) ?_
  refine bS [0] 2 0 [(0, .func (.func fk) #[] #[]), (5, .slice A6 (k + 2) cp6), (12, .slice (pB bl) 2 2), (13, iq 2), (14, iq 0), (18, .slice (some ⟨g, o, none⟩) n cap), (19, iq (n : Int)), (20, iq ((i : Int) + 1))] ?_
  refine cont_done ?_
  refine then_normal ?_
  refine cont_recast 18 (.slice (some ⟨g, o, none⟩) n cap) (.slice A n cap) rfl (by rw [hra (by omega)]) ?_
  refine cont_rowEq (k := .i64) 0 (([] ++ evG p q (xs.take i)) ++ [p (rget xs i), q (rget xs i)]) ([] ++ evG p q (xs.take (i + 1))) rfl (evG_put [] (by omega)) ?_
  refine cont_again (i + 1, (k + 2), A6, g6, cp6) (show (i + 1) ≤ n ∧ ((k + 2)) = 0 + 2 * (i + 1) from ⟨by omega, by omega⟩) (show n - (i + 1) < n - i from by omega) (by kernel_rfl) (by kernel_rfl)
 replace c3_ := of_decide_eq_false c3_
 refine cont_false rfl ?_
 refine cont_exit ?_
 refine then_exit ?_
 refine then_exit ?_
 refine blk_exit ?_
 refine blk_normal ?_
 refine then_normal ?_
 refine cont_region 2 rfl ?_
 refine bS [0, 0] 2 0 [(0, .func (.func fk) #[] #[]), (5, .slice Aq k cq), (12, .slice (pB bl) 2 2), (13, iq 2), (14, iq 1)] ?_
 refine cont_done ?_
 refine then_normal ?_
 refine cont_round 2 1 rfl ?_
 refine cont_seq ?_
 refine cont_region 1 rfl ?_
 refine bS [0] 1 0 [(0, .func (.func fk) #[] #[]), (5, .slice Aq k cq), (12, .slice (pB bl) 2 2), (13, iq 2), (14, iq 1), (15, .bool true)] ?_
 refine cont_done ?_
 refine then_normal ?_
 refine cont_seq ?_
 refine cont_true rfl ?_
 refine cont_skip ?_
 refine then_normal ?_
 refine cont_seq ?_
 refine cont_block ?_
 refine cont_seq ?_
 refine cont_region 3 rfl ?_
 refine bS [0, 1, 0] 3 0 [(0, .func (.func fk) #[] #[]), (5, .slice Aq k cq), (7, .slice A' n' cap'), (12, .slice (pB bl) 2 2), (13, iq 2), (14, iq 1)] ?_
 refine cont_done ?_
 refine then_normal ?_
 refine cont_seq ?_
 refine cont_region 3 rfl ?_
 refine bS [0, 0, 0] 3 0 [(0, .func (.func fk) #[] #[]), (5, .slice Aq k cq), (12, .slice (pB bl) 2 2), (13, iq 2), (14, iq 1), (18, .slice A' n' cap'), (19, iq ((n' : Nat) : Int)), (20, iq 0)] ?_
 refine cont_done ?_
 refine then_normal ?_
 refine cont_block ?_
 refine cont_rowEq (k := .i64) 0 ([] ++ evG p q (xs.take i)) ([] ++ evG p q (xs.take n)) rfl (by rw [show i = n by omega]) ?_
 refine cont_rowEq (k := .i64) 0 ([] ++ evG p q (xs.take n)) (([] ++ evG p q (xs.take n)) ++ evG p q (xs'.take 0)) rfl (evG_zero _) ?_
 refine cont_loop (α := Nat × Nat × Option Addr × Nat × Nat) (fun x_ : Nat × Nat × Option Addr × Nat × Nat => x_.1 ≤ n' ∧ x_.2.1 = 2 * n + 2 * x_.1) (fun x_ : Nat × Nat × Option Addr × Nat × Nat => [(0, .func (.func fk) #[] #[]), (5, .slice x_.2.2.1 x_.2.1 x_.2.2.2.2), (12, .slice (pB bl) 2 2), (13, iq 2), (14, iq 1), (18, .slice A' n' cap'), (19, iq ((n' : Nat) : Int)), (20, iq (x_.1 : Int))]) (fun x_ : Nat × Nat × Option Addr × Nat × Nat => [.gen (rowE (x_.2.2.1) x_.2.2.2.1 x_.2.1 x_.2.2.2.2 3 1 (ivals .i64 (([] ++ evG p q (xs.take n)) ++ evG p q (xs'.take x_.1))) true), .ro bl [.slice A n cap, .slice A' n' cap'] 58, .gen (rdE (A) g o n 4 (rvals xs)), .gen (rdE (A') g' o' n' 4 (rvals xs'))]) (fun x_ : Nat × Nat × Option Addr × Nat × Nat => n' - x_.1) (0, k, Aq, gq, cq) (show (0) ≤ n' ∧ (k) = 2 * n + 2 * (0) from ⟨by omega, by omega⟩) (by kernel_rfl) (by kernel_rfl) ?_
 rintro ⟨i', k', Aq', gq', cq'⟩ hinv8_
 replace hinv8_ : i' ≤ n' ∧ k' = 2 * n + 2 * i' := hinv8_
 refine cont_norm [(0, .func (.func fk) #[] #[]), (5, .slice Aq' k' cq'), (12, .slice (pB bl) 2 2), (13, iq 2), (14, iq 1), (18, .slice A' n' cap'), (19, iq ((n' : Nat) : Int)), (20, iq (i' : Int))] _ (by kernel_rfl) rfl ?_
 obtain ⟨hi', hk'⟩ := hinv8_
 refine cont_seq ?_
 refine cont_region 1 rfl ?_
 refine bS [0] 1 0 [(0, .func (.func fk) #[] #[]), (5, .slice Aq' k' cq'), (12, .slice (pB bl) 2 2), (13, iq 2), (14, iq 1), (18, .slice A' n' cap'), (19, iq ((n' : Nat) : Int)), (20, iq (i' : Int)), (21, .bool (decide ((i' : Int) < ((n' : Nat) : Int))))] ?_
 refine cont_done ?_
 refine then_normal ?_
 refine cont_seq ?_
 refine cont_split 21 (decide ((i' : Int) < ((n' : Nat) : Int))) rfl (fun c9_ => ?_) (fun c9_ => ?_)
 ·
  replace c9_ := of_decide_eq_true c9_
  refine cont_true rfl ?_
  refine cont_skip ?_
  refine then_normal ?_
  refine cont_seq ?_
  refine cont_block ?_
  refine cont_seq ?_
  refine cont_region 4 rfl ?_
  refine pl_step 1 3 rfl rfl ?_
  refine cont_recast 18 (.slice A' n' cap') (.slice (some ⟨g', o', none⟩) n' cap') rfl (by rw [hra' (by omega)]) ?_
  refine sem_step 22 (Instr.indexAt 58 (.slice (some ⟨g', o', none⟩) n' cap') (iq (i' : Int))) (.pointer (some ⟨g', o' + i' * 4, none⟩)) (by kernel_rfl) (fun w hT => run_indexAt (e := 53) (sz := 4) _ (by kernel_rfl) (by kernel_rfl) (by omega) (by omega) (by omega) w) ?_
  refine pl_step 2 2 rfl rfl ?_
  refine sem_step 23 (Instr.loadAt 53 (.pointer (some ⟨g', o' + i' * 4, none⟩))) (.agg #[iq ((rget xs' i').x0), iq ((rget xs' i').y0), iq ((rget xs' i').x1), iq ((rget xs' i').y1)]) (by kernel_rfl) (fun w hT => run_loadN (m := 4) (cs := rcells (rget xs' i')) (by kernel_rfl) (by kernel_rfl) rfl (Rd.rect (hT.ok 3 _ rfl) (by omega))) ?_
  refine batch1 [0, 0] 4 0 (fun b10 => [(0, .func (.func fk) #[] #[]), (5, .slice Aq' k' cq'), (9, .pointer (pB b10)), (12, .slice (pB bl) 2 2), (13, iq 2), (14, iq 1), (18, .slice (some ⟨g', o', none⟩) n' cap'), (19, iq ((n' : Nat) : Int)), (20, iq (i' : Int))]) (fun b10 => [.cells b10 [iq ((rget xs' i').x0), iq ((rget xs' i').y0), iq ((rget xs' i').x1), iq ((rget xs' i').y1)] 53 true, .gen (rowE (Aq') gq' k' cq' 3 1 (ivals .i64 (([] ++ evG p q (xs.take n)) ++ evG p q (xs'.take i'))) true), .ro bl [.slice A n cap, .slice A' n' cap'] 58, .gen (rdE (A) g o n 4 (rvals xs)), .gen (rdE (A') g' o' n' 4 (rvals xs'))]) rfl rfl [0, 5, 9, 12, 13, 14, 18, 19, 20] (fun _ => rfl) (fun b10 => by kernel_rfl) (fun b10 => by kernel_rfl) (fun b10 => ?_)
  refine cont_done ?_
  refine then_normal ?_
  refine cont_seq ?_
  refine cont_region 8 rfl ?_
  refine bS [0, 0] 2 6 [(0, .func (.func fk) #[] #[]), (5, .slice Aq' k' cq'), (12, .slice (pB bl) 2 2), (13, iq 2), (14, iq 1), (18, .slice (some ⟨g', o', none⟩) n' cap'), (19, iq ((n' : Nat) : Int)), (20, iq (i' : Int)), (25, .func (.func fk) #[] #[]), (26, .agg #[iq ((rget xs' i').x0), iq ((rget xs' i').y0), iq ((rget xs' i').x1), iq ((rget xs' i').y1)])] ?_
  refine cont_forget 0 rfl ?_
  refine pl_step 3 5 rfl rfl ?_
  refine call_pureF (d := 27) (.tuple #[iq (p (rget xs' i')), iq (q (rget xs' i'))]) (by kernel_rfl) hE (fun w hT => hf (rget xs' i') w) ?_
  refine bS [0, 0, 0, 0, 0] 8 0 [(0, .func (.func fk) #[] #[]), (5, .slice Aq' k' cq'), (10, iq (p (rget xs' i'))), (11, iq (q (rget xs' i'))), (12, .slice (pB bl) 2 2), (13, iq 2), (14, iq 1), (18, .slice (some ⟨g', o', none⟩) n' cap'), (19, iq ((n' : Nat) : Int)), (20, iq (i' : Int))] ?_
  refine cont_done ?_
  refine then_normal ?_
  refine cont_region 6 rfl ?_
  refine batch1 [0, 0, 0, 0] 4 2 (fun b11 => [(0, .func (.func fk) #[] #[]), (12, .slice (pB bl) 2 2), (13, iq 2), (14, iq 1), (18, .slice (some ⟨g', o', none⟩) n' cap'), (19, iq ((n' : Nat) : Int)), (20, iq (i' : Int)), (30, .slice Aq' k' cq'), (33, .slice (pB b11) 2 2)]) (fun b11 => [.cells b11 [iq (p (rget xs' i')), iq (q (rget xs' i'))] 3 true, .gen (rowE (Aq') gq' k' cq' 3 1 (ivals .i64 (([] ++ evG p q (xs.take n)) ++ evG p q (xs'.take i'))) true), .ro bl [.slice A n cap, .slice A' n' cap'] 58, .gen (rdE (A) g o n 4 (rvals xs)), .gen (rdE (A') g' o' n' 4 (rvals xs'))]) rfl rfl [0, 12, 13, 14, 18, 19, 20, 30, 33] (fun _ => rfl) (fun b11 => by kernel_rfl) (fun b11 => by kernel_rfl) (fun b11 => ?_)
  refine pl_step 5 1 rfl rfl ?_
  refine sem_stepW (α := Option Addr × Nat × Nat) 34 (Builtin.append_ #[34, 34] 34 #[.slice Aq' k' cq', .slice (pB b11) 2 2]) (fun x_ => .slice x_.1 (k' + 2) x_.2.2) (fun x_ => [.cells b11 [iq (p (rget xs' i')), iq (q (rget xs' i'))] 3 true, .gen (rowE (x_.1) x_.2.1 (k' + 2) x_.2.2 3 1 (ivals .i64 ((([] ++ evG p q (xs.take n)) ++ evG p q (xs'.take i')) ++ [p (rget xs' i'), q (rget xs' i')])) true), .ro bl [.slice A n cap, .slice A' n' cap'] 58, .gen (rdE (A) g o n 4 (rvals xs)), .gen (rdE (A') g' o' n' 4 (rvals xs'))]) (fun _ => True) (by kernel_rfl) (fun w hT => append_own (n' := (k' + 2)) (z := iq 0) hT (i := 1) (bytes := 8) rfl (by kernel_rfl) (by kernel_rfl) rfl (by decide) (by decide) (Rd.ofCells (vals := ivals .i64 [p (rget xs' i'), q (rget xs' i')]) (hT.ok 0 _ rfl) rfl rfl) (ivals_one .i64 [p (rget xs' i'), q (rget xs' i')]) (by omega) (ivals_append .i64 (([] ++ evG p q (xs.take n)) ++ evG p q (xs'.take i')) [p (rget xs' i'), q (rget xs' i')]) rfl) ?_
  rintro ⟨A12, g12, cp12⟩ -
  refine cont_norm [(0, .func (.func fk) #[] #[]), (12, .slice (pB bl) 2 2), (13, iq 2), (14, iq 1), (18, .slice (some ⟨g', o', none⟩) n' cap'), (19, iq ((n' : Nat) : Int)), (20, iq (i' : Int)), (30, .slice Aq' k' cq'), (33, .slice (pB b11) 2 2), (34, .slice A12 (k' + 2) cp12)] _ (by kernel_rfl) rfl ?_
  refine cont_fact (F := (0 < (k' + 2) → (A12 : Option Addr) = pB g12) ∧ ((([] ++ evG p q (xs.take n)) ++ evG p q (xs'.take i')) ++ [p (rget xs' i'), q (rget xs' i')]).length = (k' + 2) ∧ (k' + 2) ≤ cp12 ∧ cp12 ≤ maxLen) (fun w hT => Row.facts (hT.ok 1 _ rfl)) (fun hr13_ => ?_)
  obtain ⟨hr13_a, hr13_l, hr13_c, hr13_m⟩ := hr13_
  unfold maxLen at hr13_m
  refine bS [0] 6 0 [(0, .func (.func fk) #[] #[]), (5, .slice A12 (k' + 2) cp12), (12, .slice (pB bl) 2 2), (13, iq 2), (14, iq 1), (18, .slice (some ⟨g', o', none⟩) n' cap'), (19, iq ((n' : Nat) : Int)), (20, iq (i' : Int))] ?_
  refine cont_forget 0 rfl ?_
  refine cont_done ?_
  refine blk_normal ?_
  refine then_normal ?_
  refine cont_region 2 rfl ?_
  refine bS [0] 1 1 [(0, .func (.func fk) #[] #[]), (5, .slice A12 (k' + 2) cp12), (12, .slice (pB bl) 2 2), (13, iq 2), (14, iq 1), (18, .slice (some ⟨g', o', none⟩) n' cap'), (19, iq ((n' : Nat) : Int)), (35, iq (IntKind.i64.wrap ((i' : Int) + 1)))] ?_
  refine cont_recast 35 (iq (IntKind.i64.wrap ((i' : Int) + 1))) (iq ((i' : Int) + 1)) rfl (wrapI (by omega) (by omega)) ?_
  refine bS [0] 2 0 [(0, .func (.func fk) #[] #[]), (5, .slice A12 (k' + 2) cp12), (12, .slice (pB bl) 2 2), (13, iq 2), (14, iq 1), (18, .slice (some ⟨g', o', none⟩) n' cap'), (19, iq ((n' : Nat) : Int)), (20, iq ((i' : Int) + 1))] ?_
  refine cont_done ?_
  refine then_normal ?_
  refine cont_recast 18 (.slice (some ⟨g', o', none⟩) n' cap') (.slice A' n' cap') rfl (by rw [hra' (by omega)]) ?_
  refine cont_rowEq (k := .i64) 0 ((([] ++ evG p q (xs.take n)) ++ evG p q (xs'.take i')) ++ [p (rget xs' i'), q (rget xs' i')]) (([] ++ evG p q (xs.take n)) ++ evG p q (xs'.take (i' + 1))) rfl (evG_put ([] ++ evG p q (xs.take n)) (by omega)) ?_
  refine cont_again (i' + 1, (k' + 2), A12, g12, cp12) (show (i' + 1) ≤ n' ∧ ((k' + 2)) = 2 * n + 2 * (i' + 1) from ⟨by omega, by omega⟩) (show n' - (i' + 1) < n' - i' from by omega) (by kernel_rfl) (by kernel_rfl)
 replace c9_ := of_decide_eq_false c9_
 refine cont_false rfl ?_
 refine cont_exit ?_
 refine then_exit ?_
 refine then_exit ?_
 refine blk_exit ?_
 refine blk_normal ?_
 refine then_normal ?_
 refine cont_region 2 rfl ?_
 refine bS [0, 0] 2 0 [(0, .func (.func fk) #[] #[]), (5, .slice Aq' k' cq'), (12, .slice (pB bl) 2 2), (13, iq 2), (14, iq 2)] ?_
 refine cont_done ?_
 refine then_normal ?_
 refine cont_round 1 0 rfl ?_
 refine cont_seq ?_
 refine cont_region 1 rfl ?_
 refine bS [0] 1 0 [(0, .func (.func fk) #[] #[]), (5, .slice Aq' k' cq'), (12, .slice (pB bl) 2 2), (13, iq 2), (14, iq 2), (15, .bool false)] ?_
 refine cont_done ?_
 refine then_normal ?_
 refine cont_seq ?_
 refine cont_false rfl ?_
 refine cont_exit ?_
 refine then_exit ?_
 refine then_exit ?_
 refine blk_exit ?_
 refine then_normal ?_
 refine cont_seq ?_
 refine cont_region 2 rfl ?_
 refine cont_rowEq (k := .i64) 0 (([] ++ evG p q (xs.take n)) ++ evG p q (xs'.take i')) (evG p q xs ++ evG p q xs') rfl (by rw [show i' = n' by omega, List.take_of_length_le (show xs.length ≤ n by omega), List.take_of_length_le (show xs'.length ≤ n' by omega)]; rfl) ?_
 refine bS [0] 1 1 [(5, .slice Aq' k' cq'), (37, .slice Aq' k' cq')] ?_
 refine pl_step 2 0 rfl rfl ?_
 refine call_gen (d := 38) (α := Unit) (fun _ => .tuple #[]) (fun _ => [.gen (rowE (Aq') gq' k' cq' 3 1 (ivals .i64 (sortL (evG p q xs ++ evG p q xs'))) true), .ro bl [.slice A n cap, .slice A' n' cap'] 58, .gen (rdE (A) g o n 4 (rvals xs)), .gen (rdE (A') g' o' n' 4 (rvals xs'))]) (fun _ => True) (by kernel_rfl) (fun w hT => (sortRow Aq' gq' k' cq' (evG p q xs ++ evG p q xs') w (hT.view (.cons (i := 0) rfl Vw.row .nil) (by decide)) (by omega)).mono fun e w' ⟨he_, ht_⟩ => ⟨(), he_, trivial, hT.merge (N := []) (s := [0]) ht_ (.cons (i := 0) rfl Mg.row .nil) (by decide) (fun i e h => by simp at h)⟩) (fun _ _ => ?_)
 refine cont_done ?_
 refine then_normal ?_
 refine cont_seq ?_
 refine cont_region 3 rfl ?_
 refine bS [0] 1 2 [(39, .slice Aq' k' cq')] ?_
 refine pl_step 2 1 rfl rfl ?_
 refine call_gen (d := 40) (α := Unit) (fun _ => .slice Aq' ((Lib.compact (sortL (evG p q xs ++ evG p q xs'))).length) cq') (fun _ => [.gen (rowE (Aq') gq' ((Lib.compact (sortL (evG p q xs ++ evG p q xs'))).length) cq' 3 1 (ivals .i64 (Lib.compact (sortL (evG p q xs ++ evG p q xs')))) true), .ro bl [.slice A n cap, .slice A' n' cap'] 58, .gen (rdE (A) g o n 4 (rvals xs)), .gen (rdE (A') g' o' n' 4 (rvals xs'))]) (fun _ => True) (by kernel_rfl) (fun w hT => (compactRow Aq' gq' k' cq' (sortL (evG p q xs ++ evG p q xs')) w (hT.view (.cons (i := 0) rfl Vw.row .nil) (by decide))).mono fun e w' ⟨he_, ht_⟩ => ⟨(), he_, trivial, hT.merge (N := []) (s := [0]) ht_ (.cons (i := 0) rfl Mg.row .nil) (by decide) (fun i e h => by simp at h)⟩) (fun _ _ => ?_)
 refine bS [0] 3 0 [(4, .slice Aq' ((Lib.compact (sortL (evG p q xs ++ evG p q xs'))).length) cq')] ?_
 refine cont_done ?_
 refine then_normal ?_
 refine cont_ret ?_
 refine ret_one (.inl rfl) rfl 0 (.slice Aq' ((Lib.compact (sortL (evG p q xs ++ evG p q xs'))).length) cq') (by kernel_rfl) (by kernel_rfl) (fun w hT => ?_)
 replace hT := hT.erase 3 (fun e h hw => by cases h; first | rfl | cases hw)
 replace hT := hT.erase 2 (fun e h hw => by cases h; first | rfl | cases hw)
 replace hT := hT.erase 1 (fun e h hw => by cases h; first | rfl | cases hw)
 exact ⟨_, _, _, _, rfl, hT⟩

theorem regAcross (A : Option Addr) (g o n cap : Nat) (xs : List Rect) (y : Int) (w : World) (hT0 : Tab w w [.gen (rdE (A) g o n 4 (rvals xs))]) (hn : n ≤ 262144) :
    Calls Try.prog 118 #[.slice A n cap, .int .i64 y] w fun e w' => ∃ (A_ : Option Addr) (g_ k_ cp_ : Nat), e = .returned (.slice A_ k_ cp_) ∧ Tab w w' [.gen (rowE (A_) g_ k_ cp_ 53 4 (rvals (acrossL xs y)) true)] := by
 obtain ⟨hra, hrl⟩ := Rd.factsR (hT0.ok 0 _ rfl)
 refine enter 37 [(0, .slice A n cap), (1, iq y)] [.gen (rdE (A) g o n 4 (rvals xs))] Try.func118 rfl Try.ntmps118 rfl (by kernel_rfl) hT0 ?_
 refine cont_seq ?_
 refine cont_region 1 rfl ?_
 refine bS [0] 1 0 [(0, .slice A n cap), (1, iq y)] ?_
 refine cont_done ?_
 refine then_normal ?_
 refine cont_seq ?_
 refine cont_region 1 rfl ?_
 refine bS [0] 1 0 [(0, .slice A n cap), (1, iq y), (5, .slice none 0 0)] ?_
 refine cont_done ?_
 refine then_normal ?_
 refine cont_seq ?_
 refine cont_seq ?_
 refine cont_region 3 rfl ?_
 refine bS [0, 0, 0] 3 0 [(1, iq y), (5, .slice none 0 0), (8, .slice A n cap), (9, iq (n : Int)), (10, iq 0)] ?_
 refine cont_done ?_
 refine then_normal ?_
 refine cont_block ?_
 refine cont_nilrow 53 4 ?_
 refine cont_norm [(1, iq y), (5, .slice none 0 0), (8, .slice A n cap), (9, iq (n : Int)), (10, iq 0)] _ (by kernel_rfl) rfl ?_
 refine cont_rowEqR 0 ([]) (acrossL (xs.take 0) y) rfl (by simp [acrossL]) ?_
 refine cont_loop (α := Nat × Nat × Option Addr × Nat × Nat) (fun x_ : Nat × Nat × Option Addr × Nat × Nat => x_.1 ≤ n ∧ x_.2.1 ≤ x_.1) (fun x_ : Nat × Nat × Option Addr × Nat × Nat => [(1, iq y), (5, .slice x_.2.2.1 x_.2.1 x_.2.2.2.2), (8, .slice A n cap), (9, iq (n : Int)), (10, iq (x_.1 : Int))]) (fun x_ : Nat × Nat × Option Addr × Nat × Nat => [.gen (rowE (x_.2.2.1) x_.2.2.2.1 x_.2.1 x_.2.2.2.2 53 4 (rvals (acrossL (xs.take x_.1) y)) true), .gen (rdE (A) g o n 4 (rvals xs))]) (fun x_ : Nat × Nat × Option Addr × Nat × Nat => n - x_.1) (0, 0, none, 0, 0) (show (0) ≤ n ∧ (0) ≤ (0) from ⟨by omega, by omega⟩) (by kernel_rfl) (by kernel_rfl) ?_
 rintro ⟨i, k, Aq, gq, cq⟩ hinv2_
 replace hinv2_ : i ≤ n ∧ k ≤ i := hinv2_
 refine cont_norm [(1, iq y), (5, .slice Aq k cq), (8, .slice A n cap), (9, iq (n : Int)), (10, iq (i : Int))] _ (by kernel_rfl) rfl ?_
 obtain ⟨hi, hk⟩ := hinv2_
 refine cont_seq ?_
 refine cont_region 1 rfl ?_
 refine bS [0] 1 0 [(1, iq y), (5, .slice Aq k cq), (8, .slice A n cap), (9, iq (n : Int)), (10, iq (i : Int)), (11, .bool (decide ((i : Int) < (n : Int))))] ?_
 refine cont_done ?_
 refine then_normal ?_
 refine cont_seq ?_
 refine cont_split 11 (decide ((i : Int) < (n : Int))) rfl (fun c3_ => ?_) (fun c3_ => ?_)
 ·
  replace c3_ := of_decide_eq_true c3_
  refine cont_true rfl ?_
  refine cont_skip ?_
  refine then_normal ?_
  refine cont_seq ?_
  refine cont_block ?_
  refine cont_seq ?_
  refine cont_region 4 rfl ?_
  refine pl_step 1 3 rfl rfl ?_
  refine cont_recast 8 (.slice A n cap) (.slice (some ⟨g, o, none⟩) n cap) rfl (by rw [hra (by omega)]) ?_
  refine sem_step 12 (Instr.indexAt 58 (.slice (some ⟨g, o, none⟩) n cap) (iq (i : Int))) (.pointer (some ⟨g, o + i * 4, none⟩)) (by kernel_rfl) (fun w hT => run_indexAt (e := 53) (sz := 4) _ (by kernel_rfl) (by kernel_rfl) (by omega) (by omega) (by omega) w) ?_
  refine pl_step 2 2 rfl rfl ?_
  refine sem_step 13 (Instr.loadAt 53 (.pointer (some ⟨g, o + i * 4, none⟩))) (.agg #[iq ((rget xs i).x0), iq ((rget xs i).y0), iq ((rget xs i).x1), iq ((rget xs i).y1)]) (by kernel_rfl) (fun w hT => run_loadN (m := 4) (cs := rcells (rget xs i)) (by kernel_rfl) (by kernel_rfl) rfl (Rd.rect (hT.ok 1 _ rfl) (by omega))) ?_
  refine batch1 [0, 0] 4 0 (fun b4 => [(1, iq y), (5, .slice Aq k cq), (7, .pointer (pB b4)), (8, .slice (some ⟨g, o, none⟩) n cap), (9, iq (n : Int)), (10, iq (i : Int))]) (fun b4 => [.cells b4 [iq ((rget xs i).x0), iq ((rget xs i).y0), iq ((rget xs i).x1), iq ((rget xs i).y1)] 53 true, .gen (rowE (Aq) gq k cq 53 4 (rvals (acrossL (xs.take i) y)) true), .gen (rdE (A) g o n 4 (rvals xs))]) rfl rfl [1, 5, 7, 8, 9, 10] (fun _ => rfl) (fun b4 => by kernel_rfl) (fun b4 => by kernel_rfl) (fun b4 => ?_)
  refine cont_done ?_
  refine then_normal ?_
  refine cont_seq ?_
  refine cont_region 17 rfl ?_
  refine bS [0, 0, 0, 0, 0] 5 12 [(1, iq y), (5, .slice Aq k cq), (7, .pointer (pB b4)), (8, .slice (some ⟨g, o, none⟩) n cap), (9, iq (n : Int)), (10, iq (i : Int)), (18, .bool (decide (((rget xs i).y0) ≤ y)))] ?_
  refine cont_split 18 (decide (((rget xs i).y0) ≤ y)) rfl (fun c5_ => ?_) (fun c5_ => ?_)
  ·
   replace c5_ := of_decide_eq_true c5_
   refine bS [0, 0, 0, 0, 0, 0] 11 6 [(1, iq y), (5, .slice Aq k cq), (7, .pointer (pB b4)), (8, .slice (some ⟨g, o, none⟩) n cap), (9, iq (n : Int)), (10, iq (i : Int)), (19, iq y), (20, .pointer (some ⟨b4, 3, none⟩)), (21, iq ((rget xs i).y1)), (22, .bool (decide (y < ((rget xs i).y1)))), (24, .bool (decide (y < ((rget xs i).y1))))] ?_
   refine cont_split 24 (decide (y < ((rget xs i).y1))) rfl (fun c6_ => ?_) (fun c6_ => ?_)
   ·
    refine cont_recast 22 (.bool (decide (y < ((rget xs i).y1)))) (.bool true) rfl (congrArg Value.bool c6_) ?_
    replace c6_ := of_decide_eq_true c6_
    refine bS [0, 0, 0, 0, 0, 0] 17 0 [(1, iq y), (5, .slice Aq k cq), (7, .pointer (pB b4)), (8, .slice (some ⟨g, o, none⟩) n cap), (9, iq (n : Int)), (10, iq (i : Int)), (19, iq y), (20, .pointer (some ⟨b4, 3, none⟩)), (21, iq ((rget xs i).y1)), (22, .bool true), (25, .pointer (pB b4)), (26, iq ((rget xs i).x0)), (27, .pointer (some ⟨b4, 2, none⟩)), (28, iq ((rget xs i).x1)), (29, .bool (decide (((rget xs i).x0) < ((rget xs i).x1)))), (30, .bool (decide (((rget xs i).x0) < ((rget xs i).x1))))] ?_
    refine cont_done ?_
    refine then_normal ?_
    refine cont_split 30 (decide (((rget xs i).x0) < ((rget xs i).x1))) rfl (fun c7_ => ?_) (fun c7_ => ?_)
    ·
     refine cont_recast 29 (.bool (decide (((rget xs i).x0) < ((rget xs i).x1)))) (.bool true) rfl (congrArg Value.bool c7_) ?_
     replace c7_ := of_decide_eq_true c7_
     refine cont_true rfl ?_
     refine cont_region 5 rfl ?_
     refine batch1 [0, 0, 0] 3 2 (fun b8 => [(1, iq y), (8, .slice (some ⟨g, o, none⟩) n cap), (9, iq (n : Int)), (10, iq (i : Int)), (19, iq y), (20, .pointer (some ⟨b4, 3, none⟩)), (21, iq ((rget xs i).y1)), (22, .bool true), (25, .pointer (pB b4)), (26, iq ((rget xs i).x0)), (27, .pointer (some ⟨b4, 2, none⟩)), (28, iq ((rget xs i).x1)), (29, .bool true), (31, .slice Aq k cq), (33, .slice (pB b8) 1 1)]) (fun b8 => [.cells b8 [iq ((rget xs i).x0), iq ((rget xs i).y0), iq ((rget xs i).x1), iq ((rget xs i).y1)] 53 true, .cells b4 [iq ((rget xs i).x0), iq ((rget xs i).y0), iq ((rget xs i).x1), iq ((rget xs i).y1)] 53 true, .gen (rowE (Aq) gq k cq 53 4 (rvals (acrossL (xs.take i) y)) true), .gen (rdE (A) g o n 4 (rvals xs))]) rfl rfl [1, 8, 9, 10, 19, 20, 21, 22, 25, 26, 27, 28, 29, 31, 33] (fun _ => rfl) (fun b8 => by kernel_rfl) (fun b8 => by kernel_rfl) (fun b8 => ?_)
     refine pl_step 4 1 rfl rfl ?_
     refine sem_stepW (α := Option Addr × Nat × Nat) 34 (Builtin.append_ #[58, 58] 58 #[.slice Aq k cq, .slice (pB b8) 1 1]) (fun x_ => .slice x_.1 (k + 1) x_.2.2) (fun x_ => [.cells b8 [iq ((rget xs i).x0), iq ((rget xs i).y0), iq ((rget xs i).x1), iq ((rget xs i).y1)] 53 true, .cells b4 [iq ((rget xs i).x0), iq ((rget xs i).y0), iq ((rget xs i).x1), iq ((rget xs i).y1)] 53 true, .gen (rowE (x_.1) x_.2.1 (k + 1) x_.2.2 53 4 (rvals ((acrossL (xs.take i) y) ++ [(⟨(rget xs i).x0, (rget xs i).y0, (rget xs i).x1, (rget xs i).y1⟩ : Rect)])) true), .gen (rdE (A) g o n 4 (rvals xs))]) (fun _ => True) (by kernel_rfl) (fun w hT => append_own (n' := (k + 1)) (z := .agg #[iq 0, iq 0, iq 0, iq 0]) hT (i := 2) (bytes := 32) rfl (by kernel_rfl) (by kernel_rfl) rfl (by decide) (by decide) (Rd.ofCells (vals := rvals [(⟨(rget xs i).x0, (rget xs i).y0, (rget xs i).x1, (rget xs i).y1⟩ : Rect)]) (hT.ok 0 _ rfl) rfl rfl) (rvals_one [(⟨(rget xs i).x0, (rget xs i).y0, (rget xs i).x1, (rget xs i).y1⟩ : Rect)]) (by omega) (rvals_append (acrossL (xs.take i) y) [(⟨(rget xs i).x0, (rget xs i).y0, (rget xs i).x1, (rget xs i).y1⟩ : Rect)]) rfl) ?_
     rintro ⟨A9, g9, cp9⟩ -
     refine cont_norm [(1, iq y), (8, .slice (some ⟨g, o, none⟩) n cap), (9, iq (n : Int)), (10, iq (i : Int)), (19, iq y), (20, .pointer (some ⟨b4, 3, none⟩)), (21, iq ((rget xs i).y1)), (22, .bool true), (25, .pointer (pB b4)), (26, iq ((rget xs i).x0)), (27, .pointer (some ⟨b4, 2, none⟩)), (28, iq ((rget xs i).x1)), (29, .bool true), (31, .slice Aq k cq), (33, .slice (pB b8) 1 1), (34, .slice A9 (k + 1) cp9)] _ (by kernel_rfl) rfl ?_
     refine cont_fact (F := (0 < (k + 1) → (A9 : Option Addr) = pB g9) ∧ ((acrossL (xs.take i) y) ++ [(⟨(rget xs i).x0, (rget xs i).y0, (rget xs i).x1, (rget xs i).y1⟩ : Rect)]).length = (k + 1) ∧ (k + 1) ≤ cp9 ∧ cp9 ≤ maxLen) (fun w hT => Row.factsR (hT.ok 2 _ rfl)) (fun hr10_ => ?_)
     obtain ⟨hr10_a, hr10_l, hr10_c, hr10_m⟩ := hr10_
     unfold maxLen at hr10_m
     refine bS [0] 5 0 [(1, iq y), (5, .slice A9 (k + 1) cp9), (8, .slice (some ⟨g, o, none⟩) n cap), (9, iq (n : Int)), (10, iq (i : Int)), (19, iq y), (20, .pointer (some ⟨b4, 3, none⟩)), (21, iq ((rget xs i).y1)), (22, .bool true), (25, .pointer (pB b4)), (26, iq ((rget xs i).x0)), (27, .pointer (some ⟨b4, 2, none⟩)), (28, iq ((rget xs i).x1)), (29, .bool true)] ?_
     refine cont_forget 0 rfl ?_
     refine cont_done ?_
     refine blk_normal ?_
     refine then_normal ?_
     refine cont_region 2 rfl ?_
     refine bS [0] 1 1 [(1, iq y), (5, .slice A9 (k + 1) cp9), (8, .slice (some ⟨g, o, none⟩) n cap), (9, iq (n : Int)), (19, iq y), (20, .pointer (some ⟨b4, 3, none⟩)), (21, iq ((rget xs i).y1)), (22, .bool true), (25, .pointer (pB b4)), (26, iq ((rget xs i).x0)), (27, .pointer (some ⟨b4, 2, none⟩)), (28, iq ((rget xs i).x1)), (29, .bool true), (35, iq (IntKind.i64.wrap ((i : Int) + 1)))] ?_
     refine cont_recast 35 (iq (IntKind.i64.wrap ((i : Int) + 1))) (iq ((i : Int) + 1)) rfl (wrapI (by omega) (by omega)) ?_
     refine bS [0] 2 0 [(1, iq y), (5, .slice A9 (k + 1) cp9), (8, .slice (some ⟨g, o, none⟩) n cap), (9, iq (n : Int)), (10, iq ((i : Int) + 1)), (19, iq y), (20, .pointer (some ⟨b4, 3, none⟩)), (21, iq ((rget xs i).y1)), (22, .bool true), (25, .pointer (pB b4)), (26, iq ((rget xs i).x0)), (27, .pointer (some ⟨b4, 2, none⟩)), (28, iq ((rget xs i).x1)), (29, .bool true)] ?_
     refine cont_done ?_
     refine then_normal ?_
     refine cont_recast 8 (.slice (some ⟨g, o, none⟩) n cap) (.slice A n cap) rfl (by rw [hra (by omega)]) ?_
     refine cont_forget 0 rfl ?_
     refine cont_rowEqR 0 ((acrossL (xs.take i) y) ++ [(⟨(rget xs i).x0, (rget xs i).y0, (rget xs i).x1, (rget xs i).y1⟩ : Rect)]) (acrossL (xs.take (i + 1)) y) rfl (across_put (by omega) (by omega)) ?_
     refine cont_again (i + 1, (k + 1), A9, g9, cp9) (show (i + 1) ≤ n ∧ ((k + 1)) ≤ (i + 1) from ⟨by omega, by omega⟩) (show n - (i + 1) < n - i from by omega) (by kernel_rfl) (by kernel_rfl)
    refine cont_recast 29 (.bool (decide (((rget xs i).x0) < ((rget xs i).x1)))) (.bool false) rfl (congrArg Value.bool c7_) ?_
    replace c7_ := of_decide_eq_false c7_
    refine cont_false rfl ?_
    refine cont_skip ?_
    refine blk_normal ?_
    refine then_normal ?_
    refine cont_region 2 rfl ?_
    refine bS [0] 1 1 [(1, iq y), (5, .slice Aq k cq), (8, .slice (some ⟨g, o, none⟩) n cap), (9, iq (n : Int)), (19, iq y), (20, .pointer (some ⟨b4, 3, none⟩)), (21, iq ((rget xs i).y1)), (22, .bool true), (25, .pointer (pB b4)), (26, iq ((rget xs i).x0)), (27, .pointer (some ⟨b4, 2, none⟩)), (28, iq ((rget xs i).x1)), (29, .bool false), (35, iq (IntKind.i64.wrap ((i : Int) + 1)))] ?_
    refine cont_recast 35 (iq (IntKind.i64.wrap ((i : Int) + 1))) (iq ((i : Int) + 1)) rfl (wrapI (by omega) (by omega)) ?_
    refine bS [0] 2 0 [(1, iq y), (5, .slice Aq k cq), (8, .slice (some ⟨g, o, none⟩) n cap), (9, iq (n : Int)), (10, iq ((i : Int) + 1)), (19, iq y), (20, .pointer (some ⟨b4, 3, none⟩)), (21, iq ((rget xs i).y1)), (22, .bool true), (25, .pointer (pB b4)), (26, iq ((rget xs i).x0)), (27, .pointer (some ⟨b4, 2, none⟩)), (28, iq ((rget xs i).x1)), (29, .bool false)] ?_
    refine cont_done ?_
    refine then_normal ?_
    refine cont_recast 8 (.slice (some ⟨g, o, none⟩) n cap) (.slice A n cap) rfl (by rw [hra (by omega)]) ?_
    refine cont_forget 0 rfl ?_
    refine cont_rowEqR 0 (acrossL (xs.take i) y) (acrossL (xs.take (i + 1)) y) rfl (across_skip (by omega) (by omega)) ?_
    refine cont_again (i + 1, k, Aq, gq, cq) (show (i + 1) ≤ n ∧ (k) ≤ (i + 1) from ⟨by omega, by omega⟩) (show n - (i + 1) < n - i from by omega) (by kernel_rfl) (by kernel_rfl)
   refine cont_recast 22 (.bool (decide (y < ((rget xs i).y1)))) (.bool false) rfl (congrArg Value.bool c6_) ?_
   replace c6_ := of_decide_eq_false c6_
   refine bS [0, 0, 0, 0, 0, 0] 17 0 [(1, iq y), (5, .slice Aq k cq), (7, .pointer (pB b4)), (8, .slice (some ⟨g, o, none⟩) n cap), (9, iq (n : Int)), (10, iq (i : Int)), (19, iq y), (20, .pointer (some ⟨b4, 3, none⟩)), (21, iq ((rget xs i).y1)), (22, .bool false), (25, undef), (26, undef), (27, undef), (28, undef), (29, undef), (30, .bool false)] ?_
   refine cont_done ?_
   refine then_normal ?_
   refine cont_false rfl ?_
   refine cont_skip ?_
   refine blk_normal ?_
   refine then_normal ?_
   refine cont_region 2 rfl ?_
   refine bS [0] 1 1 [(1, iq y), (5, .slice Aq k cq), (8, .slice (some ⟨g, o, none⟩) n cap), (9, iq (n : Int)), (19, iq y), (20, .pointer (some ⟨b4, 3, none⟩)), (21, iq ((rget xs i).y1)), (22, .bool false), (25, undef), (26, undef), (27, undef), (28, undef), (29, undef), (35, iq (IntKind.i64.wrap ((i : Int) + 1)))] ?_
   refine cont_recast 35 (iq (IntKind.i64.wrap ((i : Int) + 1))) (iq ((i : Int) + 1)) rfl (wrapI (by omega) (by omega)) ?_
   refine bS [0] 2 0 [(1, iq y), (5, .slice Aq k cq), (8, .slice (some ⟨g, o, none⟩) n cap), (9, iq (n : Int)), (10, iq ((i : Int) + 1)), (19, iq y), (20, .pointer (some ⟨b4, 3, none⟩)), (21, iq ((rget xs i).y1)), (22, .bool false), (25, undef), (26, undef), (27, undef), (28, undef), (29, undef)] ?_
   refine cont_done ?_
   refine then_normal ?_
   refine cont_recast 8 (.slice (some ⟨g, o, none⟩) n cap) (.slice A n cap) rfl (by rw [hra (by omega)]) ?_
   refine cont_forget 0 rfl ?_
   refine cont_rowEqR 0 (acrossL (xs.take i) y) (acrossL (xs.take (i + 1)) y) rfl (across_skip (by omega) (by omega)) ?_
   refine cont_again (i + 1, k, Aq, gq, cq) (show (i + 1) ≤ n ∧ (k) ≤ (i + 1) from ⟨by omega, by omega⟩) (show n - (i + 1) < n - i from by omega) (by kernel_rfl) (by kernel_rfl)
  replace c5_ := of_decide_eq_false c5_
  refine bS [0, 0, 0, 0, 0, 0, 0, 0, 0, 0, 0, 0] 17 0 [(1, iq y), (5, .slice Aq k cq), (7, .pointer (pB b4)), (8, .slice (some ⟨g, o, none⟩) n cap), (9, iq (n : Int)), (10, iq (i : Int)), (19, undef), (20, undef), (21, undef), (22, undef), (25, undef), (26, undef), (27, undef), (28, undef), (29, undef), (30, .bool false)] ?_
  refine cont_done ?_
  refine then_normal ?_
  refine cont_false rfl ?_
  refine cont_skip ?_
  refine blk_normal ?_
  refine then_normal ?_
  refine cont_region 2 rfl ?_
  refine bS [0] 1 1 [(1, iq y), (5, .slice Aq k cq), (8, .slice (some ⟨g, o, none⟩) n cap), (9, iq (n : Int)), (19, undef), (20, undef), (21, undef), (22, undef), (25, undef), (26, undef), (27, undef), (28, undef), (29, undef), (35, iq (IntKind.i64.wrap ((i : Int) + 1)))] ?_
  refine cont_recast 35 (iq (IntKind.i64.wrap ((i : Int) + 1))) (iq ((i : Int) + 1)) rfl (wrapI (by omega) (by omega)) ?_
  refine cont_forget 0 rfl ?_
  refine bS [0] 2 0 [(1, iq y), (5, .slice Aq k cq), (8, .slice (some ⟨g, o, none⟩) n cap), (9, iq (n : Int)), (10, iq ((i : Int) + 1)), (19, undef), (20, undef), (21, undef), (22, undef), (25, undef), (26, undef), (27, undef), (28, undef), (29, undef)] ?_
  refine cont_done ?_
  refine then_normal ?_
  refine cont_recast 8 (.slice (some ⟨g, o, none⟩) n cap) (.slice A n cap) rfl (by rw [hra (by omega)]) ?_
  refine cont_rowEqR 0 (acrossL (xs.take i) y) (acrossL (xs.take (i + 1)) y) rfl (across_skip (by omega) (by omega)) ?_
  refine cont_again (i + 1, k, Aq, gq, cq) (show (i + 1) ≤ n ∧ (k) ≤ (i + 1) from ⟨by omega, by omega⟩) (show n - (i + 1) < n - i from by omega) (by kernel_rfl) (by kernel_rfl)
 replace c3_ := of_decide_eq_false c3_
 refine cont_false rfl ?_
 refine cont_exit ?_
 refine then_exit ?_
 refine then_exit ?_
 refine blk_exit ?_
 refine then_normal ?_
 refine cont_seq ?_
 refine cont_region 2 rfl ?_
 refine bS [0, 0] 2 0 [(4, .slice Aq k cq)] ?_
 refine cont_done ?_
 refine then_normal ?_
 refine cont_ret ?_
 refine ret_one (.inl rfl) rfl 0 (.slice Aq k cq) (by kernel_rfl) (by kernel_rfl) (fun w hT => ?_)
 replace hT := hT.erase 1 (fun e h hw => by cases h; first | rfl | cases hw)
 rw [show i = n by omega, List.take_of_length_le (show xs.length ≤ n by omega)] at hT
 exact ⟨_, _, _, _, rfl, hT⟩

theorem idxFuncR0 (A : Option Addr) (g o n cap : Nat) (xs : List Rect) (fk : FuncId) (p : Rect → Bool) (w : World) (hT0 : Tab w w [.gen (rdE (A) g o n 4 (rvals xs))]) (hE : Enters Try.prog fk) (hf : ∀ (r : Rect) (w : World), Calls Try.prog fk #[.agg #[.int .i64 r.x0, .int .i64 r.y0, .int .i64 r.x1, .int .i64 r.y1]] w fun e w' => e = .returned (.bool (p r)) ∧ Below w.heap.size w w') (hn : n ≤ 1000000000000) :
    Calls Try.prog 109 #[.slice A n cap, .func (.func fk) #[] #[]] w fun e w' => e = .returned (.int .i64 (idxR p xs)) ∧ Below w.heap.size w w' := by
 obtain ⟨hra, hrl⟩ := Rd.factsR (hT0.ok 0 _ rfl)
 refine enter 19 [(0, .slice A n cap), (1, .func (.func fk) #[] #[])] [.gen (rdE (A) g o n 4 (rvals xs))] Try.func109 rfl Try.ntmps109 rfl (by kernel_rfl) hT0 ?_
 refine cont_seq ?_
 refine cont_region 1 rfl ?_
 refine bS [0] 1 0 [(0, .slice A n cap), (1, .func (.func fk) #[] #[])] ?_
 refine cont_done ?_
 refine then_normal ?_
 refine cont_seq ?_
 refine cont_seq ?_
 refine cont_region 3 rfl ?_
 refine bS [0, 0, 0] 3 0 [(0, .slice A n cap), (1, .func (.func fk) #[] #[]), (7, iq (n : Int)), (8, iq 0)] ?_
 refine cont_done ?_
 refine then_normal ?_
 refine cont_block ?_
 refine cont_loop (α := Nat) (fun x_ : Nat => x_ ≤ n ∧ ∀ j, j < x_ → p (rget xs j) = false) (fun x_ : Nat => [(0, .slice A n cap), (1, .func (.func fk) #[] #[]), (7, iq (n : Int)), (8, iq (x_ : Int))]) (fun x_ : Nat => [.gen (rdE (A) g o n 4 (rvals xs))]) (fun x_ : Nat => n - x_) 0 (⟨by omega, fun j hj => by omega⟩) (by kernel_rfl) (by kernel_rfl) ?_
 rintro i hinv1_
 replace hinv1_ : i ≤ n ∧ ∀ j, j < i → p (rget xs j) = false := hinv1_
 refine cont_norm [(0, .slice A n cap), (1, .func (.func fk) #[] #[]), (7, iq (n : Int)), (8, iq (i : Int))] _ (by kernel_rfl) rfl ?_
 obtain ⟨hi, hns⟩ := hinv1_
 refine cont_seq ?_
 refine cont_region 1 rfl ?_
 refine bS [0] 1 0 [(0, .slice A n cap), (1, .func (.func fk) #[] #[]), (7, iq (n : Int)), (8, iq (i : Int)), (9, .bool (decide ((i : Int) < (n : Int))))] ?_
 refine cont_done ?_
 refine then_normal ?_
 refine cont_seq ?_
 refine cont_split 9 (decide ((i : Int) < (n : Int))) rfl (fun c2_ => ?_) (fun c2_ => ?_)
 ·
  replace c2_ := of_decide_eq_true c2_
  refine cont_true rfl ?_
  refine cont_skip ?_
  refine then_normal ?_
  refine cont_seq ?_
  refine cont_block ?_
  refine cont_seq ?_
  refine cont_region 2 rfl ?_
  refine bS [0, 0] 2 0 [(0, .slice A n cap), (1, .func (.func fk) #[] #[]), (5, iq (i : Int)), (7, iq (n : Int)), (8, iq (i : Int))] ?_
  refine cont_done ?_
  refine then_normal ?_
  refine cont_seq ?_
  refine cont_region 6 rfl ?_
  refine bS [0, 0, 0] 3 3 [(0, .slice A n cap), (1, .func (.func fk) #[] #[]), (5, iq (i : Int)), (7, iq (n : Int)), (8, iq (i : Int)), (11, .func (.func fk) #[] #[]), (12, .slice A n cap), (13, iq (i : Int))] ?_
  refine pl_step 4 2 rfl rfl ?_
  refine cont_recast 12 (.slice A n cap) (.slice (some ⟨g, o, none⟩) n cap) rfl (by rw [hra (by omega)]) ?_
  refine sem_step 14 (Instr.indexAt 58 (.slice (some ⟨g, o, none⟩) n cap) (iq (i : Int))) (.pointer (some ⟨g, o + i * 4, none⟩)) (by kernel_rfl) (fun w hT => run_indexAt (e := 53) (sz := 4) _ (by kernel_rfl) (by kernel_rfl) (by omega) (by omega) (by omega) w) ?_
  refine pl_step 5 1 rfl rfl ?_
  refine sem_step 15 (Instr.loadAt 53 (.pointer (some ⟨g, o + i * 4, none⟩))) (.agg #[iq ((rget xs i).x0), iq ((rget xs i).y0), iq ((rget xs i).x1), iq ((rget xs i).y1)]) (by kernel_rfl) (fun w hT => run_loadN (m := 4) (cs := rcells (rget xs i)) (by kernel_rfl) (by kernel_rfl) rfl (Rd.rect (hT.ok 0 _ rfl) (by omega))) ?_
  refine pl_step 6 0 rfl rfl ?_
  refine call_pureF (d := 16) (.bool (p (rget xs i))) (by kernel_rfl) hE (fun w hT => hf (rget xs i) w) ?_
  refine cont_done ?_
  refine then_normal ?_
  refine cont_split 16 (p (rget xs i)) rfl (fun c3_ => ?_) (fun c3_ => ?_)
  ·
   refine cont_true rfl ?_
   refine cont_seq ?_
   refine cont_region 2 rfl ?_
   refine bS [0, 0] 2 0 [(4, iq (i : Int))] ?_
   refine cont_done ?_
   refine then_normal ?_
   refine cont_ret ?_
   refine blk_ret ?_
   refine then_ret ?_
   refine then_ret ?_
   refine blk_ret ?_
   refine then_ret ?_
   refine ret_one (.inl rfl) rfl 0 (iq (i : Int)) (by kernel_rfl) (by kernel_rfl) (fun w hT => ?_)
   exact ⟨ret_int (idxR_some (by omega) hns ‹_›).symm, hT.post rfl⟩
  refine cont_false rfl ?_
  refine cont_skip ?_
  refine blk_normal ?_
  refine then_normal ?_
  refine cont_region 2 rfl ?_
  refine bS [0] 1 1 [(0, .slice A n cap), (1, .func (.func fk) #[] #[]), (7, iq (n : Int)), (18, iq (IntKind.i64.wrap ((i : Int) + 1)))] ?_
  refine cont_recast 18 (iq (IntKind.i64.wrap ((i : Int) + 1))) (iq ((i : Int) + 1)) rfl (wrapI (by omega) (by omega)) ?_
  refine bS [0] 2 0 [(0, .slice A n cap), (1, .func (.func fk) #[] #[]), (7, iq (n : Int)), (8, iq ((i : Int) + 1))] ?_
  refine cont_done ?_
  refine then_normal ?_
  refine cont_again (i + 1) (show (i + 1) ≤ n ∧ ∀ j, j < (i + 1) → p (rget xs j) = false from ⟨by omega, fun j hj => by rcases Nat.lt_succ_iff_lt_or_eq.1 hj with h_ | h_; exact hns j h_; subst h_; assumption⟩) (show n - (i + 1) < n - i from by omega) (by kernel_rfl) (by kernel_rfl)
 replace c2_ := of_decide_eq_false c2_
 refine cont_false rfl ?_
 refine cont_exit ?_
 refine then_exit ?_
 refine then_exit ?_
 refine blk_exit ?_
 refine then_normal ?_
 refine cont_seq ?_
 refine cont_region 1 rfl ?_
 refine bS [0] 1 0 [(4, iq (-1))] ?_
 refine cont_done ?_
 refine then_normal ?_
 refine cont_ret ?_
 refine ret_one (.inl rfl) rfl 0 (iq (-1)) (by kernel_rfl) (by kernel_rfl) (fun w hT => ?_)
 exact ⟨ret_int (idxR_none (fun j hj => hns j (by omega))).symm, hT.post rfl⟩

theorem conFuncR0 (A : Option Addr) (g o n cap : Nat) (xs : List Rect) (fk : FuncId) (p : Rect → Bool) (w : World) (hT0 : Tab w w [.gen (rdE (A) g o n 4 (rvals xs))]) (hE : Enters Try.prog fk) (hf : ∀ (r : Rect) (w : World), Calls Try.prog fk #[.agg #[.int .i64 r.x0, .int .i64 r.y0, .int .i64 r.x1, .int .i64 r.y1]] w fun e w' => e = .returned (.bool (p r)) ∧ Below w.heap.size w w') (hn : n ≤ 1000000000000) :
    Calls Try.prog 128 #[.slice A n cap, .func (.func fk) #[] #[]] w fun e w' => e = .returned (.bool (xs.any p)) ∧ Below w.heap.size w w' := by
 obtain ⟨hra, hrl⟩ := Rd.factsR (hT0.ok 0 _ rfl)
 refine enter 9 [(0, .slice A n cap), (1, .func (.func fk) #[] #[])] [.gen (rdE (A) g o n 4 (rvals xs))] Try.func128 rfl Try.ntmps128 rfl (by kernel_rfl) hT0 ?_
 refine cont_seq ?_
 refine cont_region 1 rfl ?_
 refine bS [0] 1 0 [(0, .slice A n cap), (1, .func (.func fk) #[] #[])] ?_
 refine cont_done ?_
 refine then_normal ?_
 refine cont_seq ?_
 refine cont_region 5 rfl ?_
 refine bS [0, 0] 2 3 [(5, .slice A n cap), (6, .func (.func fk) #[] #[])] ?_
 refine pl_step 3 2 rfl rfl ?_
 refine call_pure (d := 7) (iq (idxR p xs)) (by kernel_rfl) (fun w hT => idxFuncR0 A g o n cap xs fk p w (hT.viewRo (.cons (i := 0) rfl Vw.rd .nil) rfl) hE hf (by omega)) ?_
 refine bS [0, 0] 5 0 [(4, .bool (decide ((idxR p xs) ≥ 0)))] ?_
 refine cont_done ?_
 refine then_normal ?_
 refine cont_ret ?_
 refine ret_one (.inl rfl) rfl 0 (.bool (decide ((idxR p xs) ≥ 0))) (by kernel_rfl) (by kernel_rfl) (fun w hT => ?_)
 exact ⟨ret_bool (idxR_ge p xs), hT.post rfl⟩

theorem idxFuncR1 (A : Option Addr) (g o n cap : Nat) (xs : List Rect) (fk : FuncId) (p : Rect → Bool) (bc1 : Nat) (cc1 : Int) (w : World) (hT0 : Tab w w [.gen (rdE (A) g o n 4 (rvals xs)), .ro bc1 [.int .i64 cc1] 3]) (hE : Enters Try.prog fk) (hf : ∀ (r : Rect) (w : World), Tab w w [.ro bc1 [.int .i64 cc1] 3] → Calls Try.prog fk #[.agg #[.int .i64 r.x0, .int .i64 r.y0, .int .i64 r.x1, .int .i64 r.y1], .pointer (some ⟨bc1, 0, none⟩)] w fun e w' => e = .returned (.bool (p r)) ∧ Below w.heap.size w w') (hn : n ≤ 1000000000000) :
    Calls Try.prog 109 #[.slice A n cap, .func (.func fk) #[] #[.pointer (some ⟨bc1, 0, none⟩)]] w fun e w' => e = .returned (.int .i64 (idxR p xs)) ∧ Below w.heap.size w w' := by
 obtain ⟨hra, hrl⟩ := Rd.factsR (hT0.ok 0 _ rfl)
 refine enter 19 [(0, .slice A n cap), (1, .func (.func fk) #[] #[.pointer (pB bc1)])] [.gen (rdE (A) g o n 4 (rvals xs)), .ro bc1 [iq cc1] 3] Try.func109 rfl Try.ntmps109 rfl (by kernel_rfl) hT0 ?_
 refine cont_seq ?_
 refine cont_region 1 rfl ?_
 refine bS [0] 1 0 [(0, .slice A n cap), (1, .func (.func fk) #[] #[.pointer (pB bc1)])] ?_
 refine cont_done ?_
 refine then_normal ?_
 refine cont_seq ?_
 refine cont_seq ?_
 refine cont_region 3 rfl ?_
 refine bS [0, 0, 0] 3 0 [(0, .slice A n cap), (1, .func (.func fk) #[] #[.pointer (pB bc1)]), (7, iq (n : Int)), (8, iq 0)] ?_
 refine cont_done ?_
 refine then_normal ?_
 refine cont_block ?_
 refine cont_loop (α := Nat) (fun x_ : Nat => x_ ≤ n ∧ ∀ j, j < x_ → p (rget xs j) = false) (fun x_ : Nat => [(0, .slice A n cap), (1, .func (.func fk) #[] #[.pointer (pB bc1)]), (7, iq (n : Int)), (8, iq (x_ : Int))]) (fun x_ : Nat => [.gen (rdE (A) g o n 4 (rvals xs)), .ro bc1 [iq cc1] 3]) (fun x_ : Nat => n - x_) 0 (⟨by omega, fun j hj => by omega⟩) (by kernel_rfl) (by kernel_rfl) ?_
 rintro i hinv1_
 replace hinv1_ : i ≤ n ∧ ∀ j, j < i → p (rget xs j) = false := hinv1_
 refine cont_norm [(0, .slice A n cap), (1, .func (.func fk) #[] #[.pointer (pB bc1)]), (7, iq (n : Int)), (8, iq (i : Int))] _ (by kernel_rfl) rfl ?_
 obtain ⟨hi, hns⟩ := hinv1_
 refine cont_seq ?_
 refine cont_region 1 rfl ?_
 refine bS [0] 1 0 [(0, .slice A n cap), (1, .func (.func fk) #[] #[.pointer (pB bc1)]), (7, iq (n : Int)), (8, iq (i : Int)), (9, .bool (decide ((i : Int) < (n : Int))))] ?_
 refine cont_done ?_
 refine then_normal ?_
 refine cont_seq ?_
 refine cont_split 9 (decide ((i : Int) < (n : Int))) rfl (fun c2_ => ?_) (fun c2_ => ?_)
 ·
  replace c2_ := of_decide_eq_true c2_
  refine cont_true rfl ?_
  refine cont_skip ?_
  refine then_normal ?_
  refine cont_seq ?_
  refine cont_block ?_
  refine cont_seq ?_
  refine cont_region 2 rfl ?_
  refine bS [0, 0] 2 0 [(0, .slice A n cap), (1, .func (.func fk) #[] #[.pointer (pB bc1)]), (5, iq (i : Int)), (7, iq (n : Int)), (8, iq (i : Int))] ?_
  refine cont_done ?_
  refine then_normal ?_
  refine cont_seq ?_
  refine cont_region 6 rfl ?_
  refine bS [0, 0, 0] 3 3 [(0, .slice A n cap), (1, .func (.func fk) #[] #[.pointer (pB bc1)]), (5, iq (i : Int)), (7, iq (n : Int)), (8, iq (i : Int)), (11, .func (.func fk) #[] #[.pointer (pB bc1)]), (12, .slice A n cap), (13, iq (i : Int))] ?_
  refine pl_step 4 2 rfl rfl ?_
  refine cont_recast 12 (.slice A n cap) (.slice (some ⟨g, o, none⟩) n cap) rfl (by rw [hra (by omega)]) ?_
  refine sem_step 14 (Instr.indexAt 58 (.slice (some ⟨g, o, none⟩) n cap) (iq (i : Int))) (.pointer (some ⟨g, o + i * 4, none⟩)) (by kernel_rfl) (fun w hT => run_indexAt (e := 53) (sz := 4) _ (by kernel_rfl) (by kernel_rfl) (by omega) (by omega) (by omega) w) ?_
  refine pl_step 5 1 rfl rfl ?_
  refine sem_step 15 (Instr.loadAt 53 (.pointer (some ⟨g, o + i * 4, none⟩))) (.agg #[iq ((rget xs i).x0), iq ((rget xs i).y0), iq ((rget xs i).x1), iq ((rget xs i).y1)]) (by kernel_rfl) (fun w hT => run_loadN (m := 4) (cs := rcells (rget xs i)) (by kernel_rfl) (by kernel_rfl) rfl (Rd.rect (hT.ok 0 _ rfl) (by omega))) ?_
  refine pl_step 6 0 rfl rfl ?_
  refine call_pureF (d := 16) (.bool (p (rget xs i))) (by kernel_rfl) hE (fun w hT => hf (rget xs i) w (hT.viewRo (.cons (i := 1) rfl Vw.ro .nil) rfl)) ?_
  refine cont_done ?_
  refine then_normal ?_
  refine cont_split 16 (p (rget xs i)) rfl (fun c3_ => ?_) (fun c3_ => ?_)
  ·
   refine cont_true rfl ?_
   refine cont_seq ?_
   refine cont_region 2 rfl ?_
   refine bS [0, 0] 2 0 [(4, iq (i : Int))] ?_
   refine cont_done ?_
   refine then_normal ?_
   refine cont_ret ?_
   refine blk_ret ?_
   refine then_ret ?_
   refine then_ret ?_
   refine blk_ret ?_
   refine then_ret ?_
   refine ret_one (.inl rfl) rfl 0 (iq (i : Int)) (by kernel_rfl) (by kernel_rfl) (fun w hT => ?_)
   exact ⟨ret_int (idxR_some (by omega) hns ‹_›).symm, hT.post rfl⟩
  refine cont_false rfl ?_
  refine cont_skip ?_
  refine blk_normal ?_
  refine then_normal ?_
  refine cont_region 2 rfl ?_
  refine bS [0] 1 1 [(0, .slice A n cap), (1, .func (.func fk) #[] #[.pointer (pB bc1)]), (7, iq (n : Int)), (18, iq (IntKind.i64.wrap ((i : Int) + 1)))] ?_
  refine cont_recast 18 (iq (IntKind.i64.wrap ((i : Int) + 1))) (iq ((i : Int) + 1)) rfl (wrapI (by omega) (by omega)) ?_
  refine bS [0] 2 0 [(0, .slice A n cap), (1, .func (.func fk) #[] #[.pointer (pB bc1)]), (7, iq (n : Int)), (8, iq ((i : Int) + 1))] ?_
  refine cont_done ?_
  refine then_normal ?_
  refine cont_again (i + 1) (show (i + 1) ≤ n ∧ ∀ j, j < (i + 1) → p (rget xs j) = false from ⟨by omega, fun j hj => by rcases Nat.lt_succ_iff_lt_or_eq.1 hj with h_ | h_; exact hns j h_; subst h_; assumption⟩) (show n - (i + 1) < n - i from by omega) (by kernel_rfl) (by kernel_rfl)
 replace c2_ := of_decide_eq_false c2_
 refine cont_false rfl ?_
 refine cont_exit ?_
 refine then_exit ?_
 refine then_exit ?_
 refine blk_exit ?_
 refine then_normal ?_
 refine cont_seq ?_
 refine cont_region 1 rfl ?_
 refine bS [0] 1 0 [(4, iq (-1))] ?_
 refine cont_done ?_
 refine then_normal ?_
 refine cont_ret ?_
 refine ret_one (.inl rfl) rfl 0 (iq (-1)) (by kernel_rfl) (by kernel_rfl) (fun w hT => ?_)
 exact ⟨ret_int (idxR_none (fun j hj => hns j (by omega))).symm, hT.post rfl⟩

theorem conFuncR1 (A : Option Addr) (g o n cap : Nat) (xs : List Rect) (fk : FuncId) (p : Rect → Bool) (bc1 : Nat) (cc1 : Int) (w : World) (hT0 : Tab w w [.gen (rdE (A) g o n 4 (rvals xs)), .ro bc1 [.int .i64 cc1] 3]) (hE : Enters Try.prog fk) (hf : ∀ (r : Rect) (w : World), Tab w w [.ro bc1 [.int .i64 cc1] 3] → Calls Try.prog fk #[.agg #[.int .i64 r.x0, .int .i64 r.y0, .int .i64 r.x1, .int .i64 r.y1], .pointer (some ⟨bc1, 0, none⟩)] w fun e w' => e = .returned (.bool (p r)) ∧ Below w.heap.size w w') (hn : n ≤ 1000000000000) :
    Calls Try.prog 128 #[.slice A n cap, .func (.func fk) #[] #[.pointer (some ⟨bc1, 0, none⟩)]] w fun e w' => e = .returned (.bool (xs.any p)) ∧ Below w.heap.size w w' := by
 obtain ⟨hra, hrl⟩ := Rd.factsR (hT0.ok 0 _ rfl)
 refine enter 9 [(0, .slice A n cap), (1, .func (.func fk) #[] #[.pointer (pB bc1)])] [.gen (rdE (A) g o n 4 (rvals xs)), .ro bc1 [iq cc1] 3] Try.func128 rfl Try.ntmps128 rfl (by kernel_rfl) hT0 ?_
 refine cont_seq ?_
 refine cont_region 1 rfl ?_
 refine bS [0] 1 0 [(0, .slice A n cap), (1, .func (.func fk) #[] #[.pointer (pB bc1)])] ?_
 refine cont_done ?_
 refine then_normal ?_
 refine cont_seq ?_
 refine cont_region 5 rfl ?_
 refine bS [0, 0] 2 3 [(5, .slice A n cap), (6, .func (.func fk) #[] #[.pointer (pB bc1)])] ?_
 refine pl_step 3 2 rfl rfl ?_
 refine call_pure (d := 7) (iq (idxR p xs)) (by kernel_rfl) (fun w hT => idxFuncR1 A g o n cap xs fk p bc1 cc1 w (hT.viewRo (.cons (i := 0) rfl Vw.rd (.cons (i := 1) rfl Vw.ro .nil)) rfl) hE hf (by omega)) ?_
 refine bS [0, 0] 5 0 [(4, .bool (decide ((idxR p xs) ≥ 0)))] ?_
 refine cont_done ?_
 refine then_normal ?_
 refine cont_ret ?_
 refine ret_one (.inl rfl) rfl 0 (.bool (decide ((idxR p xs) ≥ 0))) (by kernel_rfl) (by kernel_rfl) (fun w hT => ?_)
 exact ⟨ret_bool (idxR_ge p xs), hT.post rfl⟩

theorem idxFuncR2 (A : Option Addr) (g o n cap : Nat) (xs : List Rect) (fk : FuncId) (p : Rect → Bool) (bc1 : Nat) (cc1 : Int) (bc2 : Nat) (cc2 : Int) (w : World) (hT0 : Tab w w [.gen (rdE (A) g o n 4 (rvals xs)), .ro bc1 [.int .i64 cc1] 3, .ro bc2 [.int .i64 cc2] 3]) (hE : Enters Try.prog fk) (hf : ∀ (r : Rect) (w : World), Tab w w [.ro bc1 [.int .i64 cc1] 3, .ro bc2 [.int .i64 cc2] 3] → Calls Try.prog fk #[.agg #[.int .i64 r.x0, .int .i64 r.y0, .int .i64 r.x1, .int .i64 r.y1], .pointer (some ⟨bc1, 0, none⟩), .pointer (some ⟨bc2, 0, none⟩)] w fun e w' => e = .returned (.bool (p r)) ∧ Below w.heap.size w w') (hn : n ≤ 1000000000000) :
    Calls Try.prog 109 #[.slice A n cap, .func (.func fk) #[] #[.pointer (some ⟨bc1, 0, none⟩), .pointer (some ⟨bc2, 0, none⟩)]] w fun e w' => e = .returned (.int .i64 (idxR p xs)) ∧ Below w.heap.size w w' := by
 obtain ⟨hra, hrl⟩ := Rd.factsR (hT0.ok 0 _ rfl)
 refine enter 19 [(0, .slice A n cap), (1, .func (.func fk) #[] #[.pointer (pB bc1), .pointer (pB bc2)])] [.gen (rdE (A) g o n 4 (rvals xs)), .ro bc1 [iq cc1] 3, .ro bc2 [iq cc2] 3] Try.func109 rfl Try.ntmps109 rfl (by kernel_rfl) hT0 ?_
 refine cont_seq ?_
 refine cont_region 1 rfl ?_
 refine bS [0] 1 0 [(0, .slice A n cap), (1, .func (.func fk) #[] #[.pointer (pB bc1), .pointer (pB bc2)])] ?_
 refine cont_done ?_
 refine then_normal ?_
 refine cont_seq ?_
 refine cont_seq ?_
 refine cont_region 3 rfl ?_
 refine bS [0, 0, 0] 3 0 [(0, .slice A n cap), (1, .func (.func fk) #[] #[.pointer (pB bc1), .pointer (pB bc2)]), (7, iq (n : Int)), (8, iq 0)] ?_
 refine cont_done ?_
 refine then_normal ?_
 refine cont_block ?_
 refine cont_loop (α := Nat) (fun x_ : Nat => x_ ≤ n ∧ ∀ j, j < x_ → p (rget xs j) = false) (fun x_ : Nat => [(0, .slice A n cap), (1, .func (.func fk) #[] #[.pointer (pB bc1), .pointer (pB bc2)]), (7, iq (n : Int)), (8, iq (x_ : Int))]) (fun x_ : Nat => [.gen (rdE (A) g o n 4 (rvals xs)), .ro bc1 [iq cc1] 3, .ro bc2 [iq cc2] 3]) (fun x_ : Nat => n - x_) 0 (⟨by omega, fun j hj => by omega⟩) (by kernel_rfl) (by kernel_rfl) ?_
 rintro i hinv1_
 replace hinv1_ : i ≤ n ∧ ∀ j, j < i → p (rget xs j) = false := hinv1_
 refine cont_norm [(0, .slice A n cap), (1, .func (.func fk) #[] #[.pointer (pB bc1), .pointer (pB bc2)]), (7, iq (n : Int)), (8, iq (i : Int))] _ (by kernel_rfl) rfl ?_
 obtain ⟨hi, hns⟩ := hinv1_
 refine cont_seq ?_
 refine cont_region 1 rfl ?_
 refine bS [0] 1 0 [(0, .slice A n cap), (1, .func (.func fk) #[] #[.pointer (pB bc1), .pointer (pB bc2)]), (7, iq (n : Int)), (8, iq (i : Int)), (9, .bool (decide ((i : Int) < (n : Int))))] ?_
 refine cont_done ?_
 refine then_normal ?_
 refine cont_seq ?_
 refine cont_split 9 (decide ((i : Int) < (n : Int))) rfl (fun c2_ => ?_) (fun c2_ => ?_)
 ·
  replace c2_ := of_decide_eq_true c2_
  refine cont_true rfl ?_
  refine cont_skip ?_
  refine then_normal ?_
  refine cont_seq ?_
  refine cont_block ?_
  refine cont_seq ?_
  refine cont_region 2 rfl ?_
  refine bS [0, 0] 2 0 [(0, .slice A n cap), (1, .func (.func fk) #[] #[.pointer (pB bc1), .pointer (pB bc2)]), (5, iq (i : Int)), (7, iq (n : Int)), (8, iq (i : Int))] ?_
  refine cont_done ?_
  refine then_normal ?_
  refine cont_seq ?_
  refine cont_region 6 rfl ?_
  refine bS [0, 0, 0] 3 3 [(0, .slice A n cap), (1, .func (.func fk) #[] #[.pointer (pB bc1), .pointer (pB bc2)]), (5, iq (i : Int)), (7, iq (n : Int)), (8, iq (i : Int)), (11, .func (.func fk) #[] #[.pointer (pB bc1), .pointer (pB bc2)]), (12, .slice A n cap), (13, iq (i : Int))] ?_
  refine pl_step 4 2 rfl rfl ?_
  refine cont_recast 12 (.slice A n cap) (.slice (some ⟨g, o, none⟩) n cap) rfl (by rw [hra (by omega)]) ?_
  refine sem_step 14 (Instr.indexAt 58 (.slice (some ⟨g, o, none⟩) n cap) (iq (i : Int))) (.pointer (some ⟨g, o + i * 4, none⟩)) (by kernel_rfl) (fun w hT => run_indexAt (e := 53) (sz := 4) _ (by kernel_rfl) (by kernel_rfl) (by omega) (by omega) (by omega) w) ?_
  refine pl_step 5 1 rfl rfl ?_
  refine sem_step 15 (Instr.loadAt 53 (.pointer (some ⟨g, o + i * 4, none⟩))) (.agg #[iq ((rget xs i).x0), iq ((rget xs i).y0), iq ((rget xs i).x1), iq ((rget xs i).y1)]) (by kernel_rfl) (fun w hT => run_loadN (m := 4) (cs := rcells (rget xs i)) (by kernel_rfl) (by kernel_rfl) rfl (Rd.rect (hT.ok 0 _ rfl) (by omega))) ?_
  refine pl_step 6 0 rfl rfl ?_
  refine call_pureF (d := 16) (.bool (p (rget xs i))) (by kernel_rfl) hE (fun w hT => hf (rget xs i) w (hT.viewRo (.cons (i := 1) rfl Vw.ro (.cons (i := 2) rfl Vw.ro .nil)) rfl)) ?_
  refine cont_done ?_
  refine then_normal ?_
  refine cont_split 16 (p (rget xs i)) rfl (fun c3_ => ?_) (fun c3_ => ?_)
  ·
   refine cont_true rfl ?_
   refine cont_seq ?_
   refine cont_region 2 rfl ?_
   refine bS [0, 0] 2 0 [(4, iq (i : Int))] ?_
   refine cont_done ?_
   refine then_normal ?_
   refine cont_ret ?_
   refine blk_ret ?_
   refine then_ret ?_
   refine then_ret ?_
   refine blk_ret ?_
   refine then_ret ?_
   refine ret_one (.inl rfl) rfl 0 (iq (i : Int)) (by kernel_rfl) (by kernel_rfl) (fun w hT => ?_)
   exact ⟨ret_int (idxR_some (by omega) hns ‹_›).symm, hT.post rfl⟩
  refine cont_false rfl ?_
  refine cont_skip ?_
  refine blk_normal ?_
  refine then_normal ?_
  refine cont_region 2 rfl ?_
  refine bS [0] 1 1 [(0, .slice A n cap), (1, .func (.func fk) #[] #[.pointer (pB bc1), .pointer (pB bc2)]), (7, iq (n : Int)), (18, iq (IntKind.i64.wrap ((i : Int) + 1)))] ?_
  refine cont_recast 18 (iq (IntKind.i64.wrap ((i : Int) + 1))) (iq ((i : Int) + 1)) rfl (wrapI (by omega) (by omega)) ?_
  refine bS [0] 2 0 [(0, .slice A n cap), (1, .func (.func fk) #[] #[.pointer (pB bc1), .pointer (pB bc2)]), (7, iq (n : Int)), (8, iq ((i : Int) + 1))] ?_
  refine cont_done ?_
  refine then_normal ?_
  refine cont_again (i + 1) (show (i + 1) ≤ n ∧ ∀ j, j < (i + 1) → p (rget xs j) = false from ⟨by omega, fun j hj => by rcases Nat.lt_succ_iff_lt_or_eq.1 hj with h_ | h_; exact hns j h_; subst h_; assumption⟩) (show n - (i + 1) < n - i from by omega) (by kernel_rfl) (by kernel_rfl)
 replace c2_ := of_decide_eq_false c2_
 refine cont_false rfl ?_
 refine cont_exit ?_
 refine then_exit ?_
 refine then_exit ?_
 refine blk_exit ?_
 refine then_normal ?_
 refine cont_seq ?_
 refine cont_region 1 rfl ?_
 refine bS [0] 1 0 [(4, iq (-1))] ?_
 refine cont_done ?_
 refine then_normal ?_
 refine cont_ret ?_
 refine ret_one (.inl rfl) rfl 0 (iq (-1)) (by kernel_rfl) (by kernel_rfl) (fun w hT => ?_)
 exact ⟨ret_int (idxR_none (fun j hj => hns j (by omega))).symm, hT.post rfl⟩

theorem conFuncR2 (A : Option Addr) (g o n cap : Nat) (xs : List Rect) (fk : FuncId) (p : Rect → Bool) (bc1 : Nat) (cc1 : Int) (bc2 : Nat) (cc2 : Int) (w : World) (hT0 : Tab w w [.gen (rdE (A) g o n 4 (rvals xs)), .ro bc1 [.int .i64 cc1] 3, .ro bc2 [.int .i64 cc2] 3]) (hE : Enters Try.prog fk) (hf : ∀ (r : Rect) (w : World), Tab w w [.ro bc1 [.int .i64 cc1] 3, .ro bc2 [.int .i64 cc2] 3] → Calls Try.prog fk #[.agg #[.int .i64 r.x0, .int .i64 r.y0, .int .i64 r.x1, .int .i64 r.y1], .pointer (some ⟨bc1, 0, none⟩), .pointer (some ⟨bc2, 0, none⟩)] w fun e w' => e = .returned (.bool (p r)) ∧ Below w.heap.size w w') (hn : n ≤ 1000000000000) :
    Calls Try.prog 128 #[.slice A n cap, .func (.func fk) #[] #[.pointer (some ⟨bc1, 0, none⟩), .pointer (some ⟨bc2, 0, none⟩)]] w fun e w' => e = .returned (.bool (xs.any p)) ∧ Below w.heap.size w w' := by
 obtain ⟨hra, hrl⟩ := Rd.factsR (hT0.ok 0 _ rfl)
 refine enter 9 [(0, .slice A n cap), (1, .func (.func fk) #[] #[.pointer (pB bc1), .pointer (pB bc2)])] [.gen (rdE (A) g o n 4 (rvals xs)), .ro bc1 [iq cc1] 3, .ro bc2 [iq cc2] 3] Try.func128 rfl Try.ntmps128 rfl (by kernel_rfl) hT0 ?_
 refine cont_seq ?_
 refine cont_region 1 rfl ?_
 refine bS [0] 1 0 [(0, .slice A n cap), (1, .func (.func fk) #[] #[.pointer (pB bc1), .pointer (pB bc2)])] ?_
 refine cont_done ?_
 refine then_normal ?_
 refine cont_seq ?_
 refine cont_region 5 rfl ?_
 refine bS [0, 0] 2 3 [(5, .slice A n cap), (6, .func (.func fk) #[] #[.pointer (pB bc1), .pointer (pB bc2)])] ?_
 refine pl_step 3 2 rfl rfl ?_
 refine call_pure (d := 7) (iq (idxR p xs)) (by kernel_rfl) (fun w hT => idxFuncR2 A g o n cap xs fk p bc1 cc1 bc2 cc2 w (hT.viewRo (.cons (i := 0) rfl Vw.rd (.cons (i := 1) rfl Vw.ro (.cons (i := 2) rfl Vw.ro .nil))) rfl) hE hf (by omega)) ?_
 refine bS [0, 0] 5 0 [(4, .bool (decide ((idxR p xs) ≥ 0)))] ?_
 refine cont_done ?_
 refine then_normal ?_
 refine cont_ret ?_
 refine ret_one (.inl rfl) rfl 0 (.bool (decide ((idxR p xs) ≥ 0))) (by kernel_rfl) (by kernel_rfl) (fun w hT => ?_)
 exact ⟨ret_bool (idxR_ge p xs), hT.post rfl⟩

theorem has1 (a b c d : Int) (bc1 : Nat) (cc1 : Int) (w : World) (hT0 : Tab w w [.ro bc1 [.int .i64 cc1] 3]) :
    Calls Try.prog 129 #[.agg #[.int .i64 a, .int .i64 b, .int .i64 c, .int .i64 d], .pointer (some ⟨bc1, 0, none⟩)] w fun e w' => e = .returned (.bool (decide (a ≤ cc1) && decide (cc1 < c))) ∧ Below w.heap.size w w' := by
 refine enter 14 [(0, .agg #[iq a, iq b, iq c, iq d]), (1, .pointer (pB bc1))] [.ro bc1 [iq cc1] 3] Try.func129 rfl Try.ntmps129 rfl (by kernel_rfl) hT0 ?_
 refine cont_seq ?_
 refine cont_region 2 rfl ?_
 refine batch1 [0, 0] 2 0 (fun b1 => [(1, .pointer (pB bc1)), (2, .pointer (pB b1))]) (fun b1 => [.cells b1 [iq a, iq b, iq c, iq d] 53 true, .ro bc1 [iq cc1] 3]) rfl rfl [1, 2] (fun _ => rfl) (fun b1 => by kernel_rfl) (fun b1 => by kernel_rfl) (fun b1 => ?_)
 refine cont_done ?_
 refine then_normal ?_
 refine cont_seq ?_
 refine cont_region 11 rfl ?_
 refine bS [0, 0, 1, 0, 0] 5 6 [(1, .pointer (pB bc1)), (2, .pointer (pB b1)), (8, .bool (decide (a ≤ cc1)))] ?_
 refine cont_split 8 (decide (a ≤ cc1)) rfl (fun c2_ => ?_) (fun c2_ => ?_)
 ·
  replace c2_ := of_decide_eq_true c2_
  refine bS [1, 0, 0, 0, 0, 0] 11 0 [(3, .bool (decide (cc1 < c)))] ?_
  refine cont_forget 0 rfl ?_
  refine cont_done ?_
  refine then_normal ?_
  refine cont_ret ?_
  refine ret_one (.inl rfl) rfl 0 (.bool (decide (cc1 < c))) (by kernel_rfl) (by kernel_rfl) (fun w hT => ?_)
  exact ⟨ret_bool (by simp [*] <;> omega), hT.post rfl⟩
 replace c2_ := of_decide_eq_false c2_
 refine bS [0, 0, 0, 0, 0, 0] 11 0 [(3, .bool false)] ?_
 refine cont_forget 0 rfl ?_
 refine cont_done ?_
 refine then_normal ?_
 refine cont_ret ?_
 refine ret_one (.inl rfl) rfl 0 (.bool false) (by kernel_rfl) (by kernel_rfl) (fun w hT => ?_)
 exact ⟨ret_bool (by simp [*] <;> omega), hT.post rfl⟩

theorem regHasX (A : Option Addr) (g o n cap : Nat) (xs : List Rect) (x : Int) (w : World) (hT0 : Tab w w [.gen (rdE (A) g o n 4 (rvals xs))]) (hn : n ≤ 1000000000000) :
    Calls Try.prog 120 #[.slice A n cap, .int .i64 x] w fun e w' => e = .returned (.bool (hasXL xs x)) ∧ Below w.heap.size w w' := by
 obtain ⟨hra, hrl⟩ := Rd.factsR (hT0.ok 0 _ rfl)
 refine enter 8 [(0, .slice A n cap), (1, iq x)] [.gen (rdE (A) g o n 4 (rvals xs))] Try.func120 rfl Try.ntmps120 rfl (by kernel_rfl) hT0 ?_
 refine cont_seq ?_
 refine cont_region 2 rfl ?_
 refine batch1 [0, 0] 2 0 (fun b1 => [(0, .slice A n cap), (3, .pointer (pB b1))]) (fun b1 => [.cells b1 [iq x] 3 true, .gen (rdE (A) g o n 4 (rvals xs))]) rfl rfl [0, 3] (fun _ => rfl) (fun b1 => by kernel_rfl) (fun b1 => by kernel_rfl) (fun b1 => ?_)
 refine cont_done ?_
 refine then_normal ?_
 refine cont_seq ?_
 refine cont_region 4 rfl ?_
 refine bS [0, 0] 2 2 [(5, .slice A n cap), (6, .func (.func 129) #[] #[.pointer (pB b1)])] ?_
 refine pl_step 3 1 rfl rfl ?_
 refine call_pure (d := 7) (.bool (xs.any (fun r : Rect => decide (r.x0 ≤ x) && decide (x < r.x1)))) (by kernel_rfl) (fun w hT => conFuncR1 A g o n cap xs 129 (fun r : Rect => decide (r.x0 ≤ x) && decide (x < r.x1)) b1 x w (hT.viewRo (.cons (i := 1) rfl Vw.rd (.cons (i := 0) rfl Vw.roc .nil)) rfl) (fun _ => by kernel_rfl) (fun r w hT => has1 r.x0 r.y0 r.x1 r.y1 b1 x w hT) (by omega)) ?_
 refine bS [0] 4 0 [(4, .bool (xs.any (fun r : Rect => decide (r.x0 ≤ x) && decide (x < r.x1))))] ?_
 refine cont_forget 0 rfl ?_
 refine cont_done ?_
 refine then_normal ?_
 refine cont_ret ?_
 refine ret_one (.inl rfl) rfl 0 (.bool (xs.any (fun r : Rect => decide (r.x0 ≤ x) && decide (x < r.x1)))) (by kernel_rfl) (by kernel_rfl) (fun w hT => ?_)
 exact ⟨rfl, hT.post rfl⟩

end Go.Proofs.Ytlfahohbkgdabaa
