/- Contracts of functions of the given program, printed by a program of this project. -/
import Derived.Test.YtlfahohbkgdabaaPdG3
import Derived.Test.YtlfahohbkgdabaaPdG1
import Derived.Test.YtlfahohbkgdabaaProg
import Derived.Test.YtlfahohbkgdabaaPdG2
set_option linter.unusedVariables false
set_option linter.unusedSimpArgs false
namespace Go.Proofs.Ytlfahohbkgdabaa
open Go Go.RowKit
set_option maxRecDepth 100000
set_option maxHeartbeats 8000000

theorem refSmallQ (r : Rect) (w : World) (hr : R64 r) :
    Calls Try.prog 41 #[.agg #[.int .i64 r.x0, .int .i64 r.y0, .int .i64 r.x1, .int .i64 r.y1]] w fun e w' => e = .returned (.agg #[.int .i64 ((smallR r).x0), .int .i64 ((smallR r).y0), .int .i64 ((smallR r).x1), .int .i64 ((smallR r).y1)]) ∧ Below w.heap.size w w' := by
 obtain ⟨⟨h0, h0'⟩, ⟨h1, h1'⟩, ⟨h2, h2'⟩, ⟨h3, h3'⟩⟩ := hr
 refine enter 26 [(0, .agg #[iq r.x0, iq r.y0, iq r.x1, iq r.y1])] [] Try.func41 rfl Try.ntmps41 rfl (by kernel_rfl) (Tab.start w) ?_
 refine cont_seq ?_
 refine cont_region 2 rfl ?_
 refine batch2 [0, 0] 2 0 (fun b1 b2 => [(1, .pointer (pB b1)), (2, .pointer (pB b2))]) (fun b1 b2 => [.cells b2 [iq 0, iq 0, iq 0, iq 0] 53 true, .cells b1 [iq r.x0, iq r.y0, iq r.x1, iq r.y1] 53 true]) rfl rfl [1, 2] (fun _ _ => rfl) (fun b1 b2 => by kernel_rfl) (fun b1 b2 => by kernel_rfl) (fun b1 b2 => ?_)
 refine cont_done ?_
 refine then_normal ?_
 refine cont_seq ?_
 refine cont_region 5 rfl ?_
 refine bS [0, 1] 2 3 [(1, .pointer (pB b1)), (2, .pointer (pB b2)), (6, iq r.x0)] ?_
 refine pl_step 3 2 rfl rfl ?_
 refine call_pure (d := 7) (iq (aroundI r.x0 24)) (by kernel_rfl) (fun w hT => refAround r.x0 24 w (by omega) (by omega)) ?_
 have hq3_ := aroundI_range r.x0 (m := 24) (by omega)
 refine bS [0] 4 1 [(1, .pointer (pB b1)), (2, .pointer (pB b2)), (8, iq (IntKind.i64.wrap ((aroundI r.x0 24) - 4)))] ?_
 refine cont_recast 8 (iq (IntKind.i64.wrap ((aroundI r.x0 24) - 4))) (iq ((aroundI r.x0 24) - 4)) rfl (wrapI (by omega) (by omega)) ?_
 refine bS [0] 5 0 [(1, .pointer (pB b1)), (2, .pointer (pB b2)), (3, iq ((aroundI r.x0 24) - 4))] ?_
 refine cont_done ?_
 refine then_normal ?_
 refine cont_seq ?_
 refine cont_region 5 rfl ?_
 refine bS [0, 1] 2 3 [(1, .pointer (pB b1)), (2, .pointer (pB b2)), (3, iq ((aroundI r.x0 24) - 4)), (10, iq r.y0)] ?_
 refine pl_step 3 2 rfl rfl ?_
 refine call_pure (d := 11) (iq (aroundI r.y0 24)) (by kernel_rfl) (fun w hT => refAround r.y0 24 w (by omega) (by omega)) ?_
 have hq4_ := aroundI_range r.y0 (m := 24) (by omega)
 refine bS [0] 4 1 [(1, .pointer (pB b1)), (2, .pointer (pB b2)), (3, iq ((aroundI r.x0 24) - 4)), (12, iq (IntKind.i64.wrap ((aroundI r.y0 24) - 4)))] ?_
 refine cont_recast 12 (iq (IntKind.i64.wrap ((aroundI r.y0 24) - 4))) (iq ((aroundI r.y0 24) - 4)) rfl (wrapI (by omega) (by omega)) ?_
 refine bS [0] 5 0 [(1, .pointer (pB b1)), (2, .pointer (pB b2)), (3, iq ((aroundI r.x0 24) - 4)), (4, iq ((aroundI r.y0 24) - 4))] ?_
 refine cont_done ?_
 refine then_normal ?_
 refine cont_seq ?_
 refine drawn_enter 14 [0] rfl (by kernel_rfl) ?_
 refine takes 0 [0] [(0, 0), (1, 0), (2, 0), (3, 0), (7, 0), (8, 0), (4, 1), (9, 1)] 6 [9, 4, 8, 7, 3, 2, 1, 0] [(2, .pointer (pB b2)), (13, iq ((aroundI r.x0 24) - 4)), (14, iq ((aroundI r.y0 24) - 4)), (15, iq ((aroundI r.x0 24) - 4)), (17, iq r.x1), (20, iq ((aroundI r.y0 24) - 4)), (22, iq r.y1)] (by kernel_rfl) (pok_then pok_body) (by kernel_rfl) rfl rfl (by kernel_rfl) (by kernel_rfl) ?_
 refine drawn_one 5 5 rfl (by kernel_rfl) ?_
 refine call_pure (d := 18) (iq (aroundI r.x1 13)) (by kernel_rfl) (fun w hT => refAround r.x1 13 w (by omega) (by omega)) ?_
 have hq5_ := aroundI_range r.x1 (m := 13) (by omega)
 refine drawn_next 0 [0] (by kernel_rfl) ?_
 refine takes 0 [0] [(6, 0)] 4 [6, 5, 9, 4, 8, 7, 3, 2, 1, 0] [(2, .pointer (pB b2)), (13, iq ((aroundI r.x0 24) - 4)), (14, iq ((aroundI r.y0 24) - 4)), (19, iq (IntKind.i64.wrap (((aroundI r.x0 24) - 4) + (aroundI r.x1 13)))), (20, iq ((aroundI r.y0 24) - 4)), (22, iq r.y1)] (by kernel_rfl) (pok_then pok_body) (by kernel_rfl) rfl rfl (by kernel_rfl) (by kernel_rfl) ?_
 refine cont_recast 19 (iq (IntKind.i64.wrap (((aroundI r.x0 24) - 4) + (aroundI r.x1 13)))) (iq (((aroundI r.x0 24) - 4) + (aroundI r.x1 13))) rfl (wrapI (by omega) (by omega)) ?_
 refine drawn_one 10 3 rfl (by kernel_rfl) ?_
 refine call_pure (d := 23) (iq (aroundI r.y1 13)) (by kernel_rfl) (fun w hT => refAround r.y1 13 w (by omega) (by omega)) ?_
 have hq6_ := aroundI_range r.y1 (m := 13) (by omega)
 refine drawn_next 0 [0] (by kernel_rfl) ?_
 refine takes 0 [0] [(11, 0)] 2 [11, 10, 6, 5, 9, 4, 8, 7, 3, 2, 1, 0] [(2, .pointer (pB b2)), (13, iq ((aroundI r.x0 24) - 4)), (14, iq ((aroundI r.y0 24) - 4)), (19, iq (((aroundI r.x0 24) - 4) + (aroundI r.x1 13))), (24, iq (IntKind.i64.wrap (((aroundI r.y0 24) - 4) + (aroundI r.y1 13))))] (by kernel_rfl) (pok_then pok_body) (by kernel_rfl) rfl rfl (by kernel_rfl) (by kernel_rfl) ?_
 refine cont_recast 24 (iq (IntKind.i64.wrap (((aroundI r.y0 24) - 4) + (aroundI r.y1 13)))) (iq (((aroundI r.y0 24) - 4) + (aroundI r.y1 13))) rfl (wrapI (by omega) (by omega)) ?_
 refine takes 0 [0] [(12, 0)] 1 [12, 11, 10, 6, 5, 9, 4, 8, 7, 3, 2, 1, 0] [(2, .pointer (pB b2)), (25, .agg #[iq ((aroundI r.x0 24) - 4), iq ((aroundI r.y0 24) - 4), iq (((aroundI r.x0 24) - 4) + (aroundI r.x1 13)), iq (((aroundI r.y0 24) - 4) + (aroundI r.y1 13))])] (by kernel_rfl) (pok_then pok_body) (by kernel_rfl) rfl rfl (by kernel_rfl) (by kernel_rfl) ?_
 refine drawn_one 13 0 rfl (by kernel_rfl) ?_
 refine one_step 0 [(2, .pointer (pB b2))] [.cells b2 [iq ((aroundI r.x0 24) - 4), iq ((aroundI r.y0 24) - 4), iq (((aroundI r.x0 24) - 4) + (aroundI r.x1 13)), iq (((aroundI r.y0 24) - 4) + (aroundI r.y1 13))] 53 true, .cells b1 [iq r.x0, iq r.y0, iq r.x1, iq r.y1] 53 true] (by kernel_rfl) (by kernel_rfl) ?_
 refine drawn_next 0 [0] (by kernel_rfl) ?_
 refine drawn_done (by kernel_rfl) ?_
 refine then_normal ?_
 refine cont_ret ?_
 refine ret_one (.inl rfl) rfl 0 (.agg #[iq ((aroundI r.x0 24) - 4), iq ((aroundI r.y0 24) - 4), iq (((aroundI r.x0 24) - 4) + (aroundI r.x1 13)), iq (((aroundI r.y0 24) - 4) + (aroundI r.y1 13))]) (by kernel_rfl) (by kernel_rfl) (fun w hT => ?_)
 exact ⟨rfl, hT.post rfl⟩

theorem refHasL (A : Option Addr) (g o n cap : Nat) (xs : List Rect) (x y : Int) (w : World) (hT0 : Tab w w [.gen (rdE (A) g o n 4 (rvals xs))]) (hn : n ≤ 1000000000000) :
    Calls Try.prog 38 #[.slice A n cap, .int .i64 x, .int .i64 y] w fun e w' => e = .returned (.bool (hasL xs x y)) ∧ Below w.heap.size w w' := by
 obtain ⟨hra, hrl⟩ := Rd.factsR (hT0.ok 0 _ rfl)
 refine enter 21 [(0, .slice A n cap), (1, iq x), (2, iq y)] [.gen (rdE (A) g o n 4 (rvals xs))] Try.func38 rfl Try.ntmps38 rfl (by kernel_rfl) hT0 ?_
 refine cont_seq ?_
 refine cont_region 1 rfl ?_
 refine bS [0] 1 0 [(0, .slice A n cap), (1, iq x), (2, iq y)] ?_
 refine cont_done ?_
 refine then_normal ?_
 refine cont_seq ?_
 refine cont_seq ?_
 refine cont_region 1 rfl ?_
 refine bS [0] 1 0 [(0, .slice A n cap), (1, iq x), (2, iq y), (7, iq 0)] ?_
 refine cont_done ?_
 refine then_normal ?_
 refine cont_block ?_
 refine cont_loop (α := Nat) (fun x_ : Nat => x_ ≤ n ∧ ∀ j, j < x_ → hasB (rget xs j).x0 (rget xs j).y0 (rget xs j).x1 (rget xs j).y1 x y = false) (fun x_ : Nat => [(0, .slice A n cap), (1, iq x), (2, iq y), (7, iq (x_ : Int))]) (fun x_ : Nat => [.gen (rdE (A) g o n 4 (rvals xs))]) (fun x_ : Nat => n - x_) 0 (⟨by omega, fun j hj => by omega⟩) (by kernel_rfl) (by kernel_rfl) ?_
 rintro i hinv1_
 replace hinv1_ : i ≤ n ∧ ∀ j, j < i → hasB (rget xs j).x0 (rget xs j).y0 (rget xs j).x1 (rget xs j).y1 x y = false := hinv1_
 refine cont_norm [(0, .slice A n cap), (1, iq x), (2, iq y), (7, iq (i : Int))] _ (by kernel_rfl) rfl ?_
 obtain ⟨hi, hns⟩ := hinv1_
 refine cont_seq ?_
 refine cont_seq ?_
 refine cont_region 4 rfl ?_
 refine bS [0, 0, 0, 0] 4 0 [(0, .slice A n cap), (1, iq x), (2, iq y), (7, iq (i : Int)), (11, .bool (decide ((i : Int) < (n : Int))))] ?_
 refine cont_done ?_
 refine then_normal ?_
 refine cont_split 11 (decide ((i : Int) < (n : Int))) rfl (fun c2_ => ?_) (fun c2_ => ?_)
 ·
  replace c2_ := of_decide_eq_true c2_
  refine cont_true rfl ?_
  refine cont_skip ?_
  refine then_normal ?_
  refine cont_seq ?_
  refine cont_block ?_
  refine cont_seq ?_
  refine cont_region 7 rfl ?_
  refine bS [0, 0] 2 5 [(0, .slice A n cap), (1, iq x), (2, iq y), (7, iq (i : Int)), (14, .slice A n cap), (15, iq (i : Int))] ?_
  refine pl_step 3 4 rfl rfl ?_
  refine cont_recast 14 (.slice A n cap) (.slice (some ⟨g, o, none⟩) n cap) rfl (by rw [hra (by omega)]) ?_
  refine sem_step 16 (Instr.indexAt 58 (.slice (some ⟨g, o, none⟩) n cap) (iq (i : Int))) (.pointer (some ⟨g, o + i * 4, none⟩)) (by kernel_rfl) (fun w hT => run_indexAt (e := 53) (sz := 4) _ (by kernel_rfl) (by kernel_rfl) (by omega) (by omega) (by omega) w) ?_
  refine pl_step 4 3 rfl rfl ?_
  refine sem_step 17 (Instr.loadAt 53 (.pointer (some ⟨g, o + i * 4, none⟩))) (.agg #[iq ((rget xs i).x0), iq ((rget xs i).y0), iq ((rget xs i).x1), iq ((rget xs i).y1)]) (by kernel_rfl) (fun w hT => run_loadN (m := 4) (cs := rcells (rget xs i)) (by kernel_rfl) (by kernel_rfl) rfl (Rd.rect (hT.ok 0 _ rfl) (by omega))) ?_
  refine bS [0, 0] 6 1 [(0, .slice A n cap), (1, iq x), (2, iq y), (7, iq (i : Int)), (17, .agg #[iq ((rget xs i).x0), iq ((rget xs i).y0), iq ((rget xs i).x1), iq ((rget xs i).y1)]), (18, iq x), (19, iq y)] ?_
  refine pl_step 7 0 rfl rfl ?_
  refine call_pure (d := 20) (.bool (hasB ((rget xs i).x0) ((rget xs i).y0) ((rget xs i).x1) ((rget xs i).y1) x y)) (by kernel_rfl) (fun w hT => refHas ((rget xs i).x0) ((rget xs i).y0) ((rget xs i).x1) ((rget xs i).y1) x y w) ?_
  refine cont_done ?_
  refine then_normal ?_
  refine cont_split 20 (hasB ((rget xs i).x0) ((rget xs i).y0) ((rget xs i).x1) ((rget xs i).y1) x y) rfl (fun c3_ => ?_) (fun c3_ => ?_)
  ·
   refine cont_true rfl ?_
   refine cont_seq ?_
   refine cont_region 1 rfl ?_
   refine bS [0] 1 0 [(6, .bool true)] ?_
   refine cont_done ?_
   refine then_normal ?_
   refine cont_ret ?_
   refine blk_ret ?_
   refine then_ret ?_
   refine then_ret ?_
   refine blk_ret ?_
   refine then_ret ?_
   refine ret_one (.inl rfl) rfl 0 (.bool true) (by kernel_rfl) (by kernel_rfl) (fun w hT => ?_)
   exact ⟨ret_bool (List.any_eq_true.2 ⟨rget xs i, rget_mem (by omega), ‹_›⟩).symm, hT.post rfl⟩
  refine cont_false rfl ?_
  refine cont_skip ?_
  refine blk_normal ?_
  refine then_normal ?_
  refine cont_region 3 rfl ?_
  refine bS [0, 0] 2 1 [(0, .slice A n cap), (1, iq x), (2, iq y), (13, iq (IntKind.i64.wrap ((i : Int) + 1)))] ?_
  refine cont_recast 13 (iq (IntKind.i64.wrap ((i : Int) + 1))) (iq ((i : Int) + 1)) rfl (wrapI (by omega) (by omega)) ?_
  refine bS [0] 3 0 [(0, .slice A n cap), (1, iq x), (2, iq y), (7, iq ((i : Int) + 1))] ?_
  refine cont_done ?_
  refine then_normal ?_
  refine cont_again (i + 1) (show (i + 1) ≤ n ∧ ∀ j, j < (i + 1) → hasB (rget xs j).x0 (rget xs j).y0 (rget xs j).x1 (rget xs j).y1 x y = false from ⟨by omega, fun j hj => by rcases Nat.lt_succ_iff_lt_or_eq.1 hj with h_ | h_; exact hns j h_; subst h_; assumption⟩) (show n - (i + 1) < n - i from by omega) (by kernel_rfl) (by kernel_rfl)
 replace c2_ := of_decide_eq_false c2_
 refine cont_false rfl ?_
 refine cont_exit ?_
 refine then_exit ?_
 refine then_exit ?_
 refine blk_exit ?_
 refine then_normal ?_
 refine cont_seq ?_
 refine cont_region 1 rfl ?_
 refine bS [0] 1 0 [(6, .bool false)] ?_
 refine cont_done ?_
 refine then_normal ?_
 refine cont_ret ?_
 refine ret_one (.inl rfl) rfl 0 (.bool false) (by kernel_rfl) (by kernel_rfl) (fun w hT => ?_)
 refine ⟨ret_bool ?_, hT.post rfl⟩
 symm
 unfold hasL
 rw [List.any_eq_false]
 intro r hr
 obtain ⟨j, hj, e_⟩ := List.mem_iff_getElem.1 hr
 have h_ := hns j (by omega)
 rw [← rget_eq hj, e_] at h_
 rw [h_]; simp

theorem refKeepB (p q : Bool) (how : Int) (w : World) :
    Calls Try.prog 90 #[.bool p, .bool q, .int .i64 how] w fun e w' => e = .returned (.bool (docK how p q)) ∧ Below w.heap.size w w' := by
 refine enter 29 [(0, .bool p), (1, .bool q), (2, iq how)] [] Try.func90 rfl Try.ntmps90 rfl (by kernel_rfl) (Tab.start w) ?_
 refine cont_seq ?_
 refine cont_region 1 rfl ?_
 refine bS [0] 1 0 [(0, .bool p), (1, .bool q), (2, iq how)] ?_
 refine cont_done ?_
 refine then_normal ?_
 refine cont_seq ?_
 refine cont_seq ?_
 refine cont_region 2 rfl ?_
 refine bS [0, 0] 2 0 [(0, .bool p), (1, .bool q), (2, iq how), (8, .bool (how == 0))] ?_
 refine cont_done ?_
 refine then_normal ?_
 refine cont_split 8 (how == 0) rfl (fun c1_ => ?_) (fun c1_ => ?_)
 ·
  replace c1_ := eq_of_beqt c1_
  refine cont_true rfl ?_
  refine cont_seq ?_
  refine cont_region 5 rfl ?_
  refine bS [0, 0] 2 3 [(1, .bool q), (10, .bool p)] ?_
  refine cont_split 10 p rfl (fun c2_ => ?_) (fun c2_ => ?_)
  ·
   refine bS [0, 0, 0] 5 0 [(6, .bool true)] ?_
   refine cont_done ?_
   refine then_normal ?_
   refine cont_ret ?_
   refine then_ret ?_
   refine ret_one (.inl rfl) rfl 0 (.bool true) (by kernel_rfl) (by kernel_rfl) (fun w hT => ?_)
   exact ⟨ret_bool (by simp [docK, *]), hT.post rfl⟩
  refine bS [0, 0, 0] 5 0 [(6, .bool q)] ?_
  refine cont_done ?_
  refine then_normal ?_
  refine cont_ret ?_
  refine then_ret ?_
  refine ret_one (.inl rfl) rfl 0 (.bool q) (by kernel_rfl) (by kernel_rfl) (fun w hT => ?_)
  exact ⟨ret_bool (by simp [docK, *]), hT.post rfl⟩
 replace c1_ := ne_of_beqf c1_
 refine cont_false rfl ?_
 refine cont_skip ?_
 refine then_normal ?_
 refine cont_seq ?_
 refine cont_seq ?_
 refine cont_region 2 rfl ?_
 refine bS [0, 0] 2 0 [(0, .bool p), (1, .bool q), (2, iq how), (14, .bool (how == 1))] ?_
 refine cont_done ?_
 refine then_normal ?_
 refine cont_split 14 (how == 1) rfl (fun c3_ => ?_) (fun c3_ => ?_)
 ·
  replace c3_ := eq_of_beqt c3_
  refine cont_true rfl ?_
  refine cont_seq ?_
  refine cont_region 5 rfl ?_
  refine bS [0, 0] 2 3 [(1, .bool q), (16, .bool p)] ?_
  refine cont_split 16 p rfl (fun c4_ => ?_) (fun c4_ => ?_)
  ·
   refine bS [0, 0, 0] 5 0 [(6, .bool q)] ?_
   refine cont_done ?_
   refine then_normal ?_
   refine cont_ret ?_
   refine then_ret ?_
   refine ret_one (.inl rfl) rfl 0 (.bool q) (by kernel_rfl) (by kernel_rfl) (fun w hT => ?_)
   exact ⟨ret_bool (by simp [docK, *]), hT.post rfl⟩
  refine bS [0, 0, 0] 5 0 [(6, .bool false)] ?_
  refine cont_done ?_
  refine then_normal ?_
  refine cont_ret ?_
  refine then_ret ?_
  refine ret_one (.inl rfl) rfl 0 (.bool false) (by kernel_rfl) (by kernel_rfl) (fun w hT => ?_)
  exact ⟨ret_bool (by simp [docK, *]), hT.post rfl⟩
 replace c3_ := ne_of_beqf c3_
 refine cont_false rfl ?_
 refine cont_skip ?_
 refine then_normal ?_
 refine cont_seq ?_
 refine cont_seq ?_
 refine cont_region 2 rfl ?_
 refine bS [0, 0] 2 0 [(0, .bool p), (1, .bool q), (20, .bool (how == 2))] ?_
 refine cont_done ?_
 refine then_normal ?_
 refine cont_split 20 (how == 2) rfl (fun c5_ => ?_) (fun c5_ => ?_)
 ·
  replace c5_ := eq_of_beqt c5_
  refine cont_true rfl ?_
  refine cont_seq ?_
  refine cont_region 6 rfl ?_
  refine bS [0, 0] 2 4 [(1, .bool q), (22, .bool p)] ?_
  refine cont_split 22 p rfl (fun c6_ => ?_) (fun c6_ => ?_)
  ·
   refine bS [0, 0, 0, 0] 6 0 [(6, .bool (!q))] ?_
   refine cont_done ?_
   refine then_normal ?_
   refine cont_ret ?_
   refine then_ret ?_
   refine ret_one (.inl rfl) rfl 0 (.bool (!q)) (by kernel_rfl) (by kernel_rfl) (fun w hT => ?_)
   exact ⟨ret_bool (by simp [docK, *]), hT.post rfl⟩
  refine bS [0, 0, 0, 0] 6 0 [(6, .bool false)] ?_
  refine cont_done ?_
  refine then_normal ?_
  refine cont_ret ?_
  refine then_ret ?_
  refine ret_one (.inl rfl) rfl 0 (.bool false) (by kernel_rfl) (by kernel_rfl) (fun w hT => ?_)
  exact ⟨ret_bool (by simp [docK, *]), hT.post rfl⟩
 replace c5_ := ne_of_beqf c5_
 refine cont_false rfl ?_
 refine cont_skip ?_
 refine then_normal ?_
 refine cont_seq ?_
 refine cont_region 4 rfl ?_
 refine bS [0, 0] 2 2 [(26, .bool p), (27, .bool q)] ?_
 refine cont_split 26 p rfl (fun c7_ => ?_) (fun c7_ => ?_)
 ·
  refine cont_split 27 q rfl (fun c8_ => ?_) (fun c8_ => ?_)
  ·
   refine bS [0, 0] 4 0 [(6, .bool false)] ?_
   refine cont_done ?_
   refine then_normal ?_
   refine cont_ret ?_
   refine ret_one (.inl rfl) rfl 0 (.bool false) (by kernel_rfl) (by kernel_rfl) (fun w hT => ?_)
   exact ⟨ret_bool (by simp [docK, *]), hT.post rfl⟩
  refine bS [0, 0] 4 0 [(6, .bool true)] ?_
  refine cont_done ?_
  refine then_normal ?_
  refine cont_ret ?_
  refine ret_one (.inl rfl) rfl 0 (.bool true) (by kernel_rfl) (by kernel_rfl) (fun w hT => ?_)
  exact ⟨ret_bool (by simp [docK, *]), hT.post rfl⟩
 refine cont_split 27 q rfl (fun c9_ => ?_) (fun c9_ => ?_)
 ·
  refine bS [0, 0] 4 0 [(6, .bool true)] ?_
  refine cont_done ?_
  refine then_normal ?_
  refine cont_ret ?_
  refine ret_one (.inl rfl) rfl 0 (.bool true) (by kernel_rfl) (by kernel_rfl) (fun w hT => ?_)
  exact ⟨ret_bool (by simp [docK, *]), hT.post rfl⟩
 refine bS [0, 0] 4 0 [(6, .bool false)] ?_
 refine cont_done ?_
 refine then_normal ?_
 refine cont_ret ?_
 refine ret_one (.inl rfl) rfl 0 (.bool false) (by kernel_rfl) (by kernel_rfl) (fun w hT => ?_)
 exact ⟨ret_bool (by simp [docK, *]), hT.post rfl⟩

theorem refSpans (A : Option Addr) (g o n cap : Nat) (xs : List Rect) (A' : Option Addr) (g' o' n' cap' : Nat) (xs' : List Rect) (w : World) (hT0 : Tab w w [.gen (rdE (A) g o n 4 (rvals xs)), .gen (rdE (A') g' o' n' 4 (rvals xs'))]) (hn : n ≤ 1000000000000) :
    Calls Try.prog 91 #[.slice A n cap, .slice A' n' cap'] w fun e w' => e = .returned (.bool (eqF span1 xs xs')) ∧ Below w.heap.size w w' := by
 obtain ⟨hra, hrl⟩ := Rd.factsR (hT0.ok 0 _ rfl)
 obtain ⟨hra', hrl'⟩ := Rd.factsR (hT0.ok 1 _ rfl)
 refine enter 41 [(0, .slice A n cap), (1, .slice A' n' cap')] [.gen (rdE (A) g o n 4 (rvals xs)), .gen (rdE (A') g' o' n' 4 (rvals xs'))] Try.func91 rfl Try.ntmps91 rfl (by kernel_rfl) hT0 ?_
 refine cont_seq ?_
 refine cont_region 1 rfl ?_
 refine bS [0] 1 0 [(0, .slice A n cap), (1, .slice A' n' cap')] ?_
 refine cont_done ?_
 refine then_normal ?_
 refine cont_seq ?_
 refine cont_seq ?_
 refine cont_region 5 rfl ?_
 refine bS [0, 0, 0, 0, 0] 5 0 [(0, .slice A n cap), (1, .slice A' n' cap'), (10, .bool ((n : Int) != ((n' : Nat) : Int)))] ?_
 refine cont_done ?_
 refine then_normal ?_
 refine cont_split 10 ((n : Int) != ((n' : Nat) : Int)) rfl (fun c1_ => ?_) (fun c1_ => ?_)
 ·
  replace c1_ := ne_of_bne c1_
  refine cont_true rfl ?_
  refine cont_seq ?_
  refine cont_region 1 rfl ?_
  refine bS [0] 1 0 [(4, .bool false)] ?_
  refine cont_done ?_
  refine then_normal ?_
  refine cont_ret ?_
  refine then_ret ?_
  refine ret_one (.inl rfl) rfl 0 (.bool false) (by kernel_rfl) (by kernel_rfl) (fun w hT => ?_)
  exact ⟨ret_bool (by first | exact (eqF_no (j := i) (by omega) (by omega) (by simp_all [span1])).symm | exact (eqF_len (by omega)).symm), hT.post rfl⟩
 replace c1_ := eq_of_bne_false c1_
 refine cont_false rfl ?_
 refine cont_skip ?_
 refine then_normal ?_
 refine cont_seq ?_
 refine cont_seq ?_
 refine cont_region 1 rfl ?_
 refine bS [0] 1 0 [(0, .slice A n cap), (1, .slice A' n' cap'), (5, iq 0)] ?_
 refine cont_done ?_
 refine then_normal ?_
 refine cont_block ?_
 refine cont_loop (α := Nat) (fun x_ : Nat => x_ ≤ n ∧ ∀ j, j < x_ → span1 (rget xs j) (rget xs' j) = true) (fun x_ : Nat => [(0, .slice A n cap), (1, .slice A' n' cap'), (5, iq (x_ : Int))]) (fun x_ : Nat => [.gen (rdE (A) g o n 4 (rvals xs)), .gen (rdE (A') g' o' n' 4 (rvals xs'))]) (fun x_ : Nat => n - x_) 0 (⟨by omega, fun j hj => by omega⟩) (by kernel_rfl) (by kernel_rfl) ?_
 rintro i hinv2_
 replace hinv2_ : i ≤ n ∧ ∀ j, j < i → span1 (rget xs j) (rget xs' j) = true := hinv2_
 refine cont_norm [(0, .slice A n cap), (1, .slice A' n' cap'), (5, iq (i : Int))] _ (by kernel_rfl) rfl ?_
 obtain ⟨hi, hns⟩ := hinv2_
 refine cont_seq ?_
 refine cont_seq ?_
 refine cont_region 4 rfl ?_
 refine bS [0, 0, 0, 0] 4 0 [(0, .slice A n cap), (1, .slice A' n' cap'), (5, iq (i : Int)), (14, .bool (decide ((i : Int) < (n : Int))))] ?_
 refine cont_done ?_
 refine then_normal ?_
 refine cont_split 14 (decide ((i : Int) < (n : Int))) rfl (fun c3_ => ?_) (fun c3_ => ?_)
 ·
  replace c3_ := of_decide_eq_true c3_
  refine cont_true rfl ?_
  refine cont_skip ?_
  refine then_normal ?_
  refine cont_seq ?_
  refine cont_block ?_
  refine cont_seq ?_
  refine drawn_enter 24 [] rfl (by kernel_rfl) ?_
  refine takes 0 [] [(0, 0), (1, 0), (5, 0), (6, 0)] 20 [6, 5, 1, 0] [(0, .slice A n cap), (1, .slice A' n' cap'), (5, iq (i : Int)), (17, .slice A n cap), (18, iq (i : Int)), (22, .slice A' n' cap'), (23, iq (i : Int))] (by kernel_rfl) (pok_then (pok_blk (pok_then (pok_then (pok_blk (pok_then pok_body)))))) (by kernel_rfl) rfl rfl (by kernel_rfl) (by kernel_rfl) ?_
  refine cont_recast 17 (.slice A n cap) (.slice (some ⟨g, o, none⟩) n cap) rfl (by rw [hra (by omega)]) ?_
  refine sem_take 0 [] 2 19 19 (Instr.indexAt 58 (.slice (some ⟨g, o, none⟩) n cap) (iq (i : Int))) (.pointer (some ⟨g, o + i * 4, none⟩)) (by kernel_rfl) (pok_then (pok_blk (pok_then (pok_then (pok_blk (pok_then pok_body)))))) (by kernel_rfl) rfl (by kernel_rfl) (by kernel_rfl) (fun w hT => run_indexAt (e := 53) (sz := 4) _ (by kernel_rfl) (by kernel_rfl) (by omega) (by omega) (by omega) w) ?_
  refine takes 0 [] [(3, 0)] 18 [3, 2, 6, 5, 1, 0] [(0, .slice A n cap), (1, .slice A' n' cap'), (5, iq (i : Int)), (20, .pointer (some ⟨g, o + i * 4, none⟩)), (22, .slice A' n' cap'), (23, iq (i : Int))] (by kernel_rfl) (pok_then (pok_blk (pok_then (pok_then (pok_blk (pok_then pok_body)))))) (by kernel_rfl) rfl rfl (by kernel_rfl) (by kernel_rfl) ?_
  refine sem_take 0 [] 4 17 21 (Instr.loadAt 3 (.pointer (some ⟨g, o + i * 4, none⟩))) (iq ((rget xs i).x0)) (by kernel_rfl) (pok_then (pok_blk (pok_then (pok_then (pok_blk (pok_then pok_body)))))) (by kernel_rfl) rfl (by kernel_rfl) (by kernel_rfl) (fun w hT => run_load1 (by kernel_rfl) (Rd.cellF (hT 0 _ rfl) i 0 _ (by omega) rfl)) ?_
  refine cont_recast 22 (.slice A' n' cap') (.slice (some ⟨g', o', none⟩) n' cap') rfl (by rw [hra' (by omega)]) ?_
  refine sem_take 0 [] 7 16 24 (Instr.indexAt 58 (.slice (some ⟨g', o', none⟩) n' cap') (iq (i : Int))) (.pointer (some ⟨g', o' + i * 4, none⟩)) (by kernel_rfl) (pok_then (pok_blk (pok_then (pok_then (pok_blk (pok_then pok_body)))))) (by kernel_rfl) rfl (by kernel_rfl) (by kernel_rfl) (fun w hT => run_indexAt (e := 53) (sz := 4) _ (by kernel_rfl) (by kernel_rfl) (by omega) (by omega) (by omega) w) ?_
  refine takes 0 [] [(8, 0)] 15 [8, 7, 4, 3, 2, 6, 5, 1, 0] [(0, .slice A n cap), (1, .slice A' n' cap'), (5, iq (i : Int)), (21, iq ((rget xs i).x0)), (25, .pointer (some ⟨g', o' + i * 4, none⟩))] (by kernel_rfl) (pok_then (pok_blk (pok_then (pok_then (pok_blk (pok_then pok_body)))))) (by kernel_rfl) rfl rfl (by kernel_rfl) (by kernel_rfl) ?_
  refine sem_take 0 [] 9 14 26 (Instr.loadAt 3 (.pointer (some ⟨g', o' + i * 4, none⟩))) (iq ((rget xs' i).x0)) (by kernel_rfl) (pok_then (pok_blk (pok_then (pok_then (pok_blk (pok_then pok_body)))))) (by kernel_rfl) rfl (by kernel_rfl) (by kernel_rfl) (fun w hT => run_load1 (by kernel_rfl) (Rd.cellF (hT 1 _ rfl) i 0 _ (by omega) rfl)) ?_
  refine takes 0 [] [(10, 0), (11, 0)] 12 [11, 10, 9, 8, 7, 4, 3, 2, 6, 5, 1, 0] [(0, .slice A n cap), (1, .slice A' n' cap'), (5, iq (i : Int)), (28, .bool (((rget xs i).x0) != ((rget xs' i).x0)))] (by kernel_rfl) (pok_then (pok_blk (pok_then (pok_then (pok_blk (pok_then pok_body)))))) (by kernel_rfl) rfl rfl (by kernel_rfl) (by kernel_rfl) ?_
  refine cont_split 28 (((rget xs i).x0) != ((rget xs' i).x0)) rfl (fun c4_ => ?_) (fun c4_ => ?_)
  ·
   replace c4_ := ne_of_bne c4_
   refine takes 0 [] [(12, 0), (13, 0), (17, 0), (18, 0), (14, 0), (19, 0), (15, 0), (20, 0), (16, 0), (21, 0), (22, 0), (23, 0)] 0 [23, 22, 21, 16, 20, 15, 19, 14, 18, 17, 13, 12, 11, 10, 9, 8, 7, 4, 3, 2, 6, 5, 1, 0] [(0, .slice A n cap), (1, .slice A' n' cap'), (5, iq (i : Int)), (29, undef), (30, undef), (31, undef), (32, undef), (33, undef), (34, undef), (35, undef), (36, undef), (37, undef), (38, undef), (39, undef), (40, .bool true)] (by kernel_rfl) (pok_then (pok_blk (pok_then (pok_then (pok_blk (pok_then pok_body)))))) (by kernel_rfl) rfl rfl (by kernel_rfl) (by kernel_rfl) ?_
   refine drawn_done (by kernel_rfl) ?_
   refine then_normal ?_
   refine cont_true rfl ?_
   refine cont_seq ?_
   refine cont_region 1 rfl ?_
   refine bS [0] 1 0 [(4, .bool false)] ?_
   refine cont_done ?_
   refine then_normal ?_
   refine cont_ret ?_
   refine blk_ret ?_
   refine then_ret ?_
   refine then_ret ?_
   refine blk_ret ?_
   refine then_ret ?_
   refine ret_one (.inl rfl) rfl 0 (.bool false) (by kernel_rfl) (by kernel_rfl) (fun w hT => ?_)
   exact ⟨ret_bool (by first | exact (eqF_no (j := i) (by omega) (by omega) (by simp_all [span1])).symm | exact (eqF_len (by omega)).symm), hT.post rfl⟩
  replace c4_ := eq_of_bne_false c4_
  refine takes 0 [] [(12, 0), (13, 0), (17, 0), (18, 0)] 8 [18, 17, 13, 12, 11, 10, 9, 8, 7, 4, 3, 2, 6, 5, 1, 0] [(0, .slice A n cap), (1, .slice A' n' cap'), (5, iq (i : Int)), (28, .bool false), (29, .slice A n cap), (30, iq (i : Int)), (34, .slice A' n' cap'), (35, iq (i : Int))] (by kernel_rfl) (pok_then (pok_blk (pok_then (pok_then (pok_blk (pok_then pok_body)))))) (by kernel_rfl) rfl rfl (by kernel_rfl) (by kernel_rfl) ?_
  refine cont_recast 29 (.slice A n cap) (.slice (some ⟨g, o, none⟩) n cap) rfl (by rw [hra (by omega)]) ?_
  refine sem_take 0 [] 14 7 31 (Instr.indexAt 58 (.slice (some ⟨g, o, none⟩) n cap) (iq (i : Int))) (.pointer (some ⟨g, o + i * 4, none⟩)) (by kernel_rfl) (pok_then (pok_blk (pok_then (pok_then (pok_blk (pok_then pok_body)))))) (by kernel_rfl) rfl (by kernel_rfl) (by kernel_rfl) (fun w hT => run_indexAt (e := 53) (sz := 4) _ (by kernel_rfl) (by kernel_rfl) (by omega) (by omega) (by omega) w) ?_
  refine takes 0 [] [(15, 0)] 6 [15, 14, 18, 17, 13, 12, 11, 10, 9, 8, 7, 4, 3, 2, 6, 5, 1, 0] [(0, .slice A n cap), (1, .slice A' n' cap'), (5, iq (i : Int)), (28, .bool false), (29, .slice (some ⟨g, o, none⟩) n cap), (30, iq (i : Int)), (31, .pointer (some ⟨g, o + i * 4, none⟩)), (32, .pointer (some ⟨g, o + i * 4 + 2, none⟩)), (34, .slice A' n' cap'), (35, iq (i : Int))] (by kernel_rfl) (pok_then (pok_blk (pok_then (pok_then (pok_blk (pok_then pok_body)))))) (by kernel_rfl) rfl rfl (by kernel_rfl) (by kernel_rfl) ?_
  refine sem_take 0 [] 16 5 33 (Instr.loadAt 3 (.pointer (some ⟨g, o + i * 4 + 2, none⟩))) (iq ((rget xs i).x1)) (by kernel_rfl) (pok_then (pok_blk (pok_then (pok_then (pok_blk (pok_then pok_body)))))) (by kernel_rfl) rfl (by kernel_rfl) (by kernel_rfl) (fun w hT => run_load1 (by kernel_rfl) (Rd.cellF (hT 0 _ rfl) i 2 _ (by omega) rfl)) ?_
  refine cont_recast 34 (.slice A' n' cap') (.slice (some ⟨g', o', none⟩) n' cap') rfl (by rw [hra' (by omega)]) ?_
  refine sem_take 0 [] 19 4 36 (Instr.indexAt 58 (.slice (some ⟨g', o', none⟩) n' cap') (iq (i : Int))) (.pointer (some ⟨g', o' + i * 4, none⟩)) (by kernel_rfl) (pok_then (pok_blk (pok_then (pok_then (pok_blk (pok_then pok_body)))))) (by kernel_rfl) rfl (by kernel_rfl) (by kernel_rfl) (fun w hT => run_indexAt (e := 53) (sz := 4) _ (by kernel_rfl) (by kernel_rfl) (by omega) (by omega) (by omega) w) ?_
  refine takes 0 [] [(20, 0)] 3 [20, 19, 16, 15, 14, 18, 17, 13, 12, 11, 10, 9, 8, 7, 4, 3, 2, 6, 5, 1, 0] [(0, .slice A n cap), (1, .slice A' n' cap'), (5, iq (i : Int)), (28, .bool false), (29, .slice (some ⟨g, o, none⟩) n cap), (30, iq (i : Int)), (31, .pointer (some ⟨g, o + i * 4, none⟩)), (32, .pointer (some ⟨g, o + i * 4 + 2, none⟩)), (33, iq ((rget xs i).x1)), (34, .slice (some ⟨g', o', none⟩) n' cap'), (35, iq (i : Int)), (36, .pointer (some ⟨g', o' + i * 4, none⟩)), (37, .pointer (some ⟨g', o' + i * 4 + 2, none⟩))] (by kernel_rfl) (pok_then (pok_blk (pok_then (pok_then (pok_blk (pok_then pok_body)))))) (by kernel_rfl) rfl rfl (by kernel_rfl) (by kernel_rfl) ?_
  refine sem_take 0 [] 21 2 38 (Instr.loadAt 3 (.pointer (some ⟨g', o' + i * 4 + 2, none⟩))) (iq ((rget xs' i).x1)) (by kernel_rfl) (pok_then (pok_blk (pok_then (pok_then (pok_blk (pok_then pok_body)))))) (by kernel_rfl) rfl (by kernel_rfl) (by kernel_rfl) (fun w hT => run_load1 (by kernel_rfl) (Rd.cellF (hT 1 _ rfl) i 2 _ (by omega) rfl)) ?_
  refine takes 0 [] [(22, 0), (23, 0)] 0 [23, 22, 21, 20, 19, 16, 15, 14, 18, 17, 13, 12, 11, 10, 9, 8, 7, 4, 3, 2, 6, 5, 1, 0] [(0, .slice A n cap), (1, .slice A' n' cap'), (5, iq (i : Int)), (29, .slice (some ⟨g, o, none⟩) n cap), (30, iq (i : Int)), (31, .pointer (some ⟨g, o + i * 4, none⟩)), (32, .pointer (some ⟨g, o + i * 4 + 2, none⟩)), (33, iq ((rget xs i).x1)), (34, .slice (some ⟨g', o', none⟩) n' cap'), (35, iq (i : Int)), (36, .pointer (some ⟨g', o' + i * 4, none⟩)), (37, .pointer (some ⟨g', o' + i * 4 + 2, none⟩)), (38, iq ((rget xs' i).x1)), (39, .bool (((rget xs i).x1) != ((rget xs' i).x1))), (40, .bool (((rget xs i).x1) != ((rget xs' i).x1)))] (by kernel_rfl) (pok_then (pok_blk (pok_then (pok_then (pok_blk (pok_then pok_body)))))) (by kernel_rfl) rfl rfl (by kernel_rfl) (by kernel_rfl) ?_
  refine drawn_done (by kernel_rfl) ?_
  refine then_normal ?_
  refine cont_split 40 (((rget xs i).x1) != ((rget xs' i).x1)) rfl (fun c5_ => ?_) (fun c5_ => ?_)
  ·
   refine cont_recast 39 (.bool (((rget xs i).x1) != ((rget xs' i).x1))) (.bool true) rfl (congrArg Value.bool c5_) ?_
   replace c5_ := ne_of_bne c5_
   refine cont_true rfl ?_
   refine cont_seq ?_
   refine cont_region 1 rfl ?_
   refine bS [0] 1 0 [(4, .bool false)] ?_
   refine cont_done ?_
   refine then_normal ?_
   refine cont_ret ?_
   refine blk_ret ?_
   refine then_ret ?_
   refine then_ret ?_
   refine blk_ret ?_
   refine then_ret ?_
   refine ret_one (.inl rfl) rfl 0 (.bool false) (by kernel_rfl) (by kernel_rfl) (fun w hT => ?_)
   exact ⟨ret_bool (by first | exact (eqF_no (j := i) (by omega) (by omega) (by simp_all [span1])).symm | exact (eqF_len (by omega)).symm), hT.post rfl⟩
  refine cont_recast 39 (.bool (((rget xs i).x1) != ((rget xs' i).x1))) (.bool false) rfl (congrArg Value.bool c5_) ?_
  replace c5_ := eq_of_bne_false c5_
  refine cont_false rfl ?_
  refine cont_skip ?_
  refine blk_normal ?_
  refine then_normal ?_
  refine cont_region 3 rfl ?_
  refine bS [0, 0] 2 1 [(0, .slice A n cap), (1, .slice A' n' cap'), (16, iq (IntKind.i64.wrap ((i : Int) + 1))), (29, .slice (some ⟨g, o, none⟩) n cap), (30, iq (i : Int)), (31, .pointer (some ⟨g, o + i * 4, none⟩)), (32, .pointer (some ⟨g, o + i * 4 + 2, none⟩)), (33, iq ((rget xs i).x1)), (34, .slice (some ⟨g', o', none⟩) n' cap'), (35, iq (i : Int)), (36, .pointer (some ⟨g', o' + i * 4, none⟩)), (37, .pointer (some ⟨g', o' + i * 4 + 2, none⟩)), (38, iq ((rget xs' i).x1)), (39, .bool false)] ?_
  refine cont_recast 16 (iq (IntKind.i64.wrap ((i : Int) + 1))) (iq ((i : Int) + 1)) rfl (wrapI (by omega) (by omega)) ?_
  refine bS [0] 3 0 [(0, .slice A n cap), (1, .slice A' n' cap'), (5, iq ((i : Int) + 1)), (29, .slice (some ⟨g, o, none⟩) n cap), (30, iq (i : Int)), (31, .pointer (some ⟨g, o + i * 4, none⟩)), (32, .pointer (some ⟨g, o + i * 4 + 2, none⟩)), (33, iq ((rget xs i).x1)), (34, .slice (some ⟨g', o', none⟩) n' cap'), (35, iq (i : Int)), (36, .pointer (some ⟨g', o' + i * 4, none⟩)), (37, .pointer (some ⟨g', o' + i * 4 + 2, none⟩)), (38, iq ((rget xs' i).x1)), (39, .bool false)] ?_
  refine cont_done ?_
  refine then_normal ?_
  refine cont_again (i + 1) (show (i + 1) ≤ n ∧ ∀ j, j < (i + 1) → span1 (rget xs j) (rget xs' j) = true from ⟨by omega, fun j hj => by rcases Nat.lt_succ_iff_lt_or_eq.1 hj with h_ | h_; exact hns j h_; subst h_; simp_all [span1]⟩) (show n - (i + 1) < n - i from by omega) (by kernel_rfl) (by kernel_rfl)
 replace c3_ := of_decide_eq_false c3_
 refine cont_false rfl ?_
 refine cont_exit ?_
 refine then_exit ?_
 refine then_exit ?_
 refine blk_exit ?_
 refine then_normal ?_
 refine cont_seq ?_
 refine cont_region 1 rfl ?_
 refine bS [0] 1 0 [(4, .bool true)] ?_
 refine cont_done ?_
 refine then_normal ?_
 refine cont_ret ?_
 refine ret_one (.inl rfl) rfl 0 (.bool true) (by kernel_rfl) (by kernel_rfl) (fun w hT => ?_)
 exact ⟨ret_bool (eqF_all (by omega) (fun j hj => hns j (by omega))).symm, hT.post rfl⟩

theorem refAdd (A : Option Addr) (g o n cap : Nat) (xs : List Int) (y : Int) (w : World) (hT0 : Tab w w [.gen (rdE (A) g o n 1 (ivals .i64 xs))]) (hrise : Rise xs) (hn : n ≤ 1000000000) :
    Calls Try.prog 89 #[.slice A n cap, .int .i64 y] w fun e w' => (e = .returned (.slice A n cap) ∧ y ∈ xs ∧ Below w.heap.size w w') ∨ (y ∉ xs ∧ ∃ (A_ : Option Addr) (g_ k_ cp_ : Nat), e = .returned (.slice A_ k_ cp_) ∧ Tab w w' [.gen (rowE (A_) g_ k_ cp_ 3 1 (ivals .i64 (addL' xs y)) true)]) := by
 obtain ⟨hra, hrl⟩ := Rd.facts (hT0.ok 0 _ rfl)
 refine enter 49 [(0, .slice A n cap), (1, iq y)] [.gen (rdE (A) g o n 1 (ivals .i64 xs))] Try.func89 rfl Try.ntmps89 rfl (by kernel_rfl) hT0 ?_
 refine cont_seq ?_
 refine cont_region 1 rfl ?_
 refine bS [0] 1 0 [(0, .slice A n cap), (1, iq y)] ?_
 refine cont_done ?_
 refine then_normal ?_
 refine cont_seq ?_
 refine cont_region 1 rfl ?_
 refine bS [0] 1 0 [(0, .slice A n cap), (1, iq y), (5, .slice none 0 0)] ?_
 refine cont_done ?_
 refine then_normal ?_
 refine cont_seq ?_
 refine cont_region 1 rfl ?_
 refine bS [0] 1 0 [(0, .slice A n cap), (1, iq y), (5, .slice none 0 0), (6, .bool false)] ?_
 refine cont_done ?_
 refine then_normal ?_
 refine cont_seq ?_
 refine cont_seq ?_
 refine cont_region 1 rfl ?_
 refine bS [0] 1 0 [(0, .slice A n cap), (1, iq y), (5, .slice none 0 0), (6, .bool false), (7, iq 0)] ?_
 refine cont_done ?_
 refine then_normal ?_
 refine cont_block ?_
 refine cont_nilrow 3 1 ?_
 refine cont_norm [(0, .slice A n cap), (1, iq y), (5, .slice none 0 0), (6, .bool false), (7, iq 0)] _ (by kernel_rfl) rfl ?_
 refine cont_rowEq (k := .i64) 0 ([]) (insP xs y 0) rfl ((insP_zero _ _).symm) ?_
 refine cont_loop (α := Nat × Nat × Option Addr × Nat × Nat × Bool) (fun x_ : Nat × Nat × Option Addr × Nat × Nat × Bool => x_.1 ≤ n ∧ x_.2.1 ≤ x_.1 + 1 ∧ (∀ j, j < x_.1 → xs.getD j 0 ≠ y) ∧ x_.2.2.2.2.2 = anyGt (xs.take x_.1) y ∧ (x_.2.2.2.2.2 = false → x_.2.1 ≤ x_.1)) (fun x_ : Nat × Nat × Option Addr × Nat × Nat × Bool => [(0, .slice A n cap), (1, iq y), (5, .slice x_.2.2.1 x_.2.1 x_.2.2.2.2.1), (6, .bool x_.2.2.2.2.2), (7, iq (x_.1 : Int))]) (fun x_ : Nat × Nat × Option Addr × Nat × Nat × Bool => [.gen (rowE (x_.2.2.1) x_.2.2.2.1 x_.2.1 x_.2.2.2.2.1 3 1 (ivals .i64 (insP xs y x_.1)) true), .gen (rdE (A) g o n 1 (ivals .i64 xs))]) (fun x_ : Nat × Nat × Option Addr × Nat × Nat × Bool => n - x_.1) (0, 0, none, 0, 0, false) (show (0) ≤ n ∧ (0) ≤ (0) + 1 ∧ (∀ j, j < (0) → xs.getD j 0 ≠ y) ∧ (false) = anyGt (xs.take (0)) y ∧ ((false) = false → (0) ≤ (0)) from ⟨by omega, by omega, fun j hj => by omega, (anyGt_zero _ _).symm, fun _ => by omega⟩) (by kernel_rfl) (by kernel_rfl) ?_
 rintro ⟨i, kq, Aq, gq, cq, dn⟩ hinv2_
 replace hinv2_ : i ≤ n ∧ kq ≤ i + 1 ∧ (∀ j, j < i → xs.getD j 0 ≠ y) ∧ dn = anyGt (xs.take i) y ∧ (dn = false → kq ≤ i) := hinv2_
 refine cont_norm [(0, .slice A n cap), (1, iq y), (5, .slice Aq kq cq), (6, .bool dn), (7, iq (i : Int))] _ (by kernel_rfl) rfl ?_
 obtain ⟨hi, hkq, hne, hdn, hkd⟩ := hinv2_
 refine cont_seq ?_
 refine cont_seq ?_
 refine cont_region 4 rfl ?_
 refine bS [0, 0, 0, 0] 4 0 [(0, .slice A n cap), (1, iq y), (5, .slice Aq kq cq), (6, .bool dn), (7, iq (i : Int)), (11, .bool (decide ((i : Int) < (n : Int))))] ?_
 refine cont_done ?_
 refine then_normal ?_
 refine cont_split 11 (decide ((i : Int) < (n : Int))) rfl (fun c3_ => ?_) (fun c3_ => ?_)
 ·
  replace c3_ := of_decide_eq_true c3_
  refine cont_true rfl ?_
  refine cont_skip ?_
  refine then_normal ?_
  refine cont_seq ?_
  refine cont_block ?_
  refine cont_seq ?_
  refine cont_seq ?_
  refine cont_region 6 rfl ?_
  refine bS [0, 0] 2 4 [(0, .slice A n cap), (1, iq y), (5, .slice Aq kq cq), (6, .bool dn), (7, iq (i : Int)), (14, .slice A n cap), (15, iq (i : Int))] ?_
  refine pl_step 3 3 rfl rfl ?_
  refine cont_recast 14 (.slice A n cap) (.slice (some ⟨g, o, none⟩) n cap) rfl (by rw [hra (by omega)]) ?_
  refine sem_step 16 (Instr.indexAt 34 (.slice (some ⟨g, o, none⟩) n cap) (iq (i : Int))) (.pointer (some ⟨g, o + i, none⟩)) (by kernel_rfl) (fun w hT => run_indexAt (e := 3) (sz := 1) _ (by kernel_rfl) (by kernel_rfl) (by omega) (by omega) (by omega) w) ?_
  refine pl_step 4 2 rfl rfl ?_
  refine sem_step 17 (Instr.loadAt 3 (.pointer (some ⟨g, o + i, none⟩))) (iq (xs.getD i 0)) (by kernel_rfl) (fun w hT => run_load1 (by kernel_rfl) (Rd.cell (hT.ok 1 _ rfl) (i) _ (ivals_get (by omega)))) ?_
  refine bS [0, 0] 6 0 [(0, .slice A n cap), (1, iq y), (5, .slice Aq kq cq), (6, .bool dn), (7, iq (i : Int)), (19, .bool ((xs.getD i 0) == y))] ?_
  refine cont_done ?_
  refine then_normal ?_
  refine cont_split 19 ((xs.getD i 0) == y) rfl (fun c4_ => ?_) (fun c4_ => ?_)
  ·
   replace c4_ := eq_of_beqt c4_
   refine cont_true rfl ?_
   refine cont_seq ?_
   refine cont_region 2 rfl ?_
   refine bS [0, 0] 2 0 [(4, .slice A n cap)] ?_
   refine cont_done ?_
   refine then_normal ?_
   refine cont_ret ?_
   refine then_ret ?_
   refine blk_ret ?_
   refine then_ret ?_
   refine then_ret ?_
   refine blk_ret ?_
   refine then_ret ?_
   refine ret_one (.inl rfl) rfl 0 (.slice A n cap) (by kernel_rfl) (by kernel_rfl) (fun w hT => ?_)
   exact .inl ⟨by rw [hra (by omega)], by rw [← show xs.getD i 0 = y by assumption]; exact getD_mem (by omega), hT.post rfl⟩
  replace c4_ := ne_of_beqf c4_
  refine cont_false rfl ?_
  refine cont_skip ?_
  refine then_normal ?_
  refine cont_seq ?_
  refine cont_seq ?_
  refine cont_region 10 rfl ?_
  refine bS [0, 0, 0] 3 7 [(0, .slice A n cap), (1, iq y), (5, .slice Aq kq cq), (6, .bool dn), (7, iq (i : Int)), (23, .bool (!dn))] ?_
  refine cont_split 23 (!dn) rfl (fun c5_ => ?_) (fun c5_ => ?_)
  ·
   replace c5_ : dn = false := by simpa using c5_
   have hdf_ : dn = false := c5_
   have hkq2 := hkd hdf_
   refine bS [0, 0] 5 5 [(0, .slice A n cap), (1, iq y), (5, .slice Aq kq cq), (6, .bool dn), (7, iq (i : Int)), (23, .bool true), (24, .slice A n cap), (25, iq (i : Int))] ?_
   refine pl_step 6 4 rfl rfl ?_
   refine cont_recast 24 (.slice A n cap) (.slice (some ⟨g, o, none⟩) n cap) rfl (by rw [hra (by omega)]) ?_
   refine sem_step 26 (Instr.indexAt 34 (.slice (some ⟨g, o, none⟩) n cap) (iq (i : Int))) (.pointer (some ⟨g, o + i, none⟩)) (by kernel_rfl) (fun w hT => run_indexAt (e := 3) (sz := 1) _ (by kernel_rfl) (by kernel_rfl) (by omega) (by omega) (by omega) w) ?_
   refine pl_step 7 3 rfl rfl ?_
   refine sem_step 27 (Instr.loadAt 3 (.pointer (some ⟨g, o + i, none⟩))) (iq (xs.getD i 0)) (by kernel_rfl) (fun w hT => run_load1 (by kernel_rfl) (Rd.cell (hT.ok 1 _ rfl) (i) _ (ivals_get (by omega)))) ?_
   refine bS [0, 0, 0] 10 0 [(0, .slice A n cap), (1, iq y), (5, .slice Aq kq cq), (6, .bool dn), (7, iq (i : Int)), (24, .slice (some ⟨g, o, none⟩) n cap), (25, iq (i : Int)), (26, .pointer (some ⟨g, o + i, none⟩)), (27, iq (xs.getD i 0)), (28, iq y), (29, .bool (decide ((xs.getD i 0) > y))), (30, .bool (decide ((xs.getD i 0) > y)))] ?_
   refine cont_done ?_
   refine then_normal ?_
   refine cont_split 30 (decide ((xs.getD i 0) > y)) rfl (fun c6_ => ?_) (fun c6_ => ?_)
   ·
    refine cont_recast 29 (.bool (decide ((xs.getD i 0) > y))) (.bool true) rfl (congrArg Value.bool c6_) ?_
    replace c6_ := of_decide_eq_true c6_
    refine cont_true rfl ?_
    refine cont_seq ?_
    refine cont_region 5 rfl ?_
    refine batch1 [0, 0, 0] 3 2 (fun b7 => [(0, .slice A n cap), (1, iq y), (7, iq (i : Int)), (24, .slice (some ⟨g, o, none⟩) n cap), (25, iq (i : Int)), (26, .pointer (some ⟨g, o + i, none⟩)), (27, iq (xs.getD i 0)), (28, iq y), (29, .bool true), (31, .slice Aq kq cq), (33, .slice (pB b7) 1 1)]) (fun b7 => [.cells b7 [iq y] 3 true, .gen (rowE (Aq) gq kq cq 3 1 (ivals .i64 (insP xs y i)) true), .gen (rdE (A) g o n 1 (ivals .i64 xs))]) rfl rfl [0, 1, 7, 24, 25, 26, 27, 28, 29, 31, 33] (fun _ => rfl) (fun b7 => by kernel_rfl) (fun b7 => by kernel_rfl) (fun b7 => ?_)
    refine pl_step 4 1 rfl rfl ?_
    refine sem_stepW (α := Option Addr × Nat × Nat) 34 (Builtin.append_ #[34, 34] 34 #[.slice Aq kq cq, .slice (pB b7) 1 1]) (fun x_ => .slice x_.1 (kq + 1) x_.2.2) (fun x_ => [.cells b7 [iq y] 3 true, .gen (rowE (x_.1) x_.2.1 (kq + 1) x_.2.2 3 1 (ivals .i64 ((insP xs y i) ++ [y])) true), .gen (rdE (A) g o n 1 (ivals .i64 xs))]) (fun _ => True) (by kernel_rfl) (fun w hT => append_own (n' := (kq + 1)) (z := iq 0) hT (i := 1) (bytes := 8) rfl (by kernel_rfl) (by kernel_rfl) rfl (by decide) (by decide) (Rd.ofCells (vals := ivals .i64 [y]) (hT.ok 0 _ rfl) rfl rfl) (ivals_one .i64 [y]) (by omega) (ivals_append .i64 (insP xs y i) [y]) rfl) ?_
    rintro ⟨A8, g8, cp8⟩ -
    refine cont_norm [(0, .slice A n cap), (1, iq y), (7, iq (i : Int)), (24, .slice (some ⟨g, o, none⟩) n cap), (25, iq (i : Int)), (26, .pointer (some ⟨g, o + i, none⟩)), (27, iq (xs.getD i 0)), (28, iq y), (29, .bool true), (31, .slice Aq kq cq), (33, .slice (pB b7) 1 1), (34, .slice A8 (kq + 1) cp8)] _ (by kernel_rfl) rfl ?_
    refine cont_fact (F := (0 < (kq + 1) → (A8 : Option Addr) = pB g8) ∧ ((insP xs y i) ++ [y]).length = (kq + 1) ∧ (kq + 1) ≤ cp8 ∧ cp8 ≤ maxLen) (fun w hT => Row.facts (hT.ok 1 _ rfl)) (fun hr9_ => ?_)
    obtain ⟨hr9_a, hr9_l, hr9_c, hr9_m⟩ := hr9_
    unfold maxLen at hr9_m
    refine bS [0] 5 0 [(0, .slice A n cap), (1, iq y), (5, .slice A8 (kq + 1) cp8), (7, iq (i : Int)), (24, .slice (some ⟨g, o, none⟩) n cap), (25, iq (i : Int)), (26, .pointer (some ⟨g, o + i, none⟩)), (27, iq (xs.getD i 0)), (28, iq y), (29, .bool true)] ?_
    refine cont_forget 0 rfl ?_
    refine cont_done ?_
    refine then_normal ?_
    refine cont_region 1 rfl ?_
    refine bS [0] 1 0 [(0, .slice A n cap), (1, iq y), (5, .slice A8 (kq + 1) cp8), (6, .bool true), (7, iq (i : Int)), (24, .slice (some ⟨g, o, none⟩) n cap), (25, iq (i : Int)), (26, .pointer (some ⟨g, o + i, none⟩)), (27, iq (xs.getD i 0)), (28, iq y), (29, .bool true)] ?_
    refine cont_done ?_
    refine then_normal ?_
    refine cont_region 8 rfl ?_
    refine bS [0, 0, 0] 3 5 [(0, .slice A n cap), (1, iq y), (6, .bool true), (7, iq (i : Int)), (24, .slice (some ⟨g, o, none⟩) n cap), (25, iq (i : Int)), (26, .pointer (some ⟨g, o + i, none⟩)), (27, iq (xs.getD i 0)), (28, iq y), (29, .bool true), (35, .slice A8 (kq + 1) cp8), (36, .slice A n cap), (37, iq (i : Int))] ?_
    refine pl_step 4 4 rfl rfl ?_
    refine cont_recast 36 (.slice A n cap) (.slice (some ⟨g, o, none⟩) n cap) rfl (by rw [hra (by omega)]) ?_
    refine sem_step 38 (Instr.indexAt 34 (.slice (some ⟨g, o, none⟩) n cap) (iq (i : Int))) (.pointer (some ⟨g, o + i, none⟩)) (by kernel_rfl) (fun w hT => run_indexAt (e := 3) (sz := 1) _ (by kernel_rfl) (by kernel_rfl) (by omega) (by omega) (by omega) w) ?_
    refine pl_step 5 3 rfl rfl ?_
    refine sem_step 39 (Instr.loadAt 3 (.pointer (some ⟨g, o + i, none⟩))) (iq (xs.getD i 0)) (by kernel_rfl) (fun w hT => run_load1 (by kernel_rfl) (Rd.cell (hT.ok 1 _ rfl) (i) _ (ivals_get (by omega)))) ?_
    refine batch1 [0] 6 2 (fun b10 => [(0, .slice A n cap), (1, iq y), (6, .bool true), (7, iq (i : Int)), (24, .slice (some ⟨g, o, none⟩) n cap), (25, iq (i : Int)), (26, .pointer (some ⟨g, o + i, none⟩)), (27, iq (xs.getD i 0)), (28, iq y), (29, .bool true), (35, .slice A8 (kq + 1) cp8), (40, .slice (pB b10) 1 1)]) (fun b10 => [.cells b10 [iq (xs.getD i 0)] 3 true, .gen (rowE (A8) g8 (kq + 1) cp8 3 1 (ivals .i64 ((insP xs y i) ++ [y])) true), .gen (rdE (A) g o n 1 (ivals .i64 xs))]) rfl rfl [0, 1, 6, 7, 24, 25, 26, 27, 28, 29, 35, 40] (fun _ => rfl) (fun b10 => by kernel_rfl) (fun b10 => by kernel_rfl) (fun b10 => ?_)
    refine pl_step 7 1 rfl rfl ?_
    refine sem_stepW (α := Option Addr × Nat × Nat) 41 (Builtin.append_ #[34, 34] 34 #[.slice A8 (kq + 1) cp8, .slice (pB b10) 1 1]) (fun x_ => .slice x_.1 ((kq + 1) + 1) x_.2.2) (fun x_ => [.cells b10 [iq (xs.getD i 0)] 3 true, .gen (rowE (x_.1) x_.2.1 ((kq + 1) + 1) x_.2.2 3 1 (ivals .i64 (((insP xs y i) ++ [y]) ++ [xs.getD i 0])) true), .gen (rdE (A) g o n 1 (ivals .i64 xs))]) (fun _ => True) (by kernel_rfl) (fun w hT => append_own (n' := ((kq + 1) + 1)) (z := iq 0) hT (i := 1) (bytes := 8) rfl (by kernel_rfl) (by kernel_rfl) rfl (by decide) (by decide) (Rd.ofCells (vals := ivals .i64 [xs.getD i 0]) (hT.ok 0 _ rfl) rfl rfl) (ivals_one .i64 [xs.getD i 0]) (by omega) (ivals_append .i64 ((insP xs y i) ++ [y]) [xs.getD i 0]) rfl) ?_
    rintro ⟨A11, g11, cp11⟩ -
    refine cont_norm [(0, .slice A n cap), (1, iq y), (6, .bool true), (7, iq (i : Int)), (24, .slice (some ⟨g, o, none⟩) n cap), (25, iq (i : Int)), (26, .pointer (some ⟨g, o + i, none⟩)), (27, iq (xs.getD i 0)), (28, iq y), (29, .bool true), (35, .slice A8 (kq + 1) cp8), (40, .slice (pB b10) 1 1), (41, .slice A11 ((kq + 1) + 1) cp11)] _ (by kernel_rfl) rfl ?_
    refine cont_fact (F := (0 < ((kq + 1) + 1) → (A11 : Option Addr) = pB g11) ∧ (((insP xs y i) ++ [y]) ++ [xs.getD i 0]).length = ((kq + 1) + 1) ∧ ((kq + 1) + 1) ≤ cp11 ∧ cp11 ≤ maxLen) (fun w hT => Row.facts (hT.ok 1 _ rfl)) (fun hr12_ => ?_)
    obtain ⟨hr12_a, hr12_l, hr12_c, hr12_m⟩ := hr12_
    unfold maxLen at hr12_m
    refine bS [0] 8 0 [(0, .slice A n cap), (1, iq y), (5, .slice A11 ((kq + 1) + 1) cp11), (6, .bool true), (7, iq (i : Int)), (24, .slice (some ⟨g, o, none⟩) n cap), (25, iq (i : Int)), (26, .pointer (some ⟨g, o + i, none⟩)), (27, iq (xs.getD i 0)), (28, iq y), (29, .bool true)] ?_
    refine cont_forget 0 rfl ?_
    refine cont_done ?_
    refine blk_normal ?_
    refine then_normal ?_
    refine cont_region 3 rfl ?_
    refine bS [0, 0] 2 1 [(0, .slice A n cap), (1, iq y), (5, .slice A11 ((kq + 1) + 1) cp11), (6, .bool true), (13, iq (IntKind.i64.wrap ((i : Int) + 1))), (24, .slice (some ⟨g, o, none⟩) n cap), (25, iq (i : Int)), (26, .pointer (some ⟨g, o + i, none⟩)), (27, iq (xs.getD i 0)), (28, iq y), (29, .bool true)] ?_
    refine cont_recast 13 (iq (IntKind.i64.wrap ((i : Int) + 1))) (iq ((i : Int) + 1)) rfl (wrapI (by omega) (by omega)) ?_
    refine bS [0] 3 0 [(0, .slice A n cap), (1, iq y), (5, .slice A11 ((kq + 1) + 1) cp11), (6, .bool true), (7, iq ((i : Int) + 1)), (24, .slice (some ⟨g, o, none⟩) n cap), (25, iq (i : Int)), (26, .pointer (some ⟨g, o + i, none⟩)), (27, iq (xs.getD i 0)), (28, iq y), (29, .bool true)] ?_
    refine cont_done ?_
    refine then_normal ?_
    refine cont_rowEq (k := .i64) 0 (((insP xs y i) ++ [y]) ++ [xs.getD i 0]) (insP xs y (i + 1)) rfl (insP_gt (by omega) (hdn ▸ hdf_) (by omega) hne) ?_
    refine cont_again (i + 1, ((kq + 1) + 1), A11, g11, cp11, true) (show (i + 1) ≤ n ∧ (((kq + 1) + 1)) ≤ (i + 1) + 1 ∧ (∀ j, j < (i + 1) → xs.getD j 0 ≠ y) ∧ (true) = anyGt (xs.take (i + 1)) y ∧ ((true) = false → (((kq + 1) + 1)) ≤ (i + 1)) from ⟨by omega, by omega, fun j hj => by rcases Nat.lt_succ_iff_lt_or_eq.1 hj with h_ | h_; exact hne j h_; subst h_; assumption, by rw [anyGt_succ (by omega), decide_eq_true (by omega)]; simp, fun h_ => by first | exact absurd h_ (by decide) | (rw [hdt_] at h_; cases h_) | (have := hkd hdf_; omega)⟩) (show n - (i + 1) < n - i from by omega) (by kernel_rfl) (by kernel_rfl)
   refine cont_recast 29 (.bool (decide ((xs.getD i 0) > y))) (.bool false) rfl (congrArg Value.bool c6_) ?_
   replace c6_ := of_decide_eq_false c6_
   refine cont_false rfl ?_
   refine cont_skip ?_
   refine then_normal ?_
   refine cont_region 8 rfl ?_
   refine bS [0, 0, 0] 3 5 [(0, .slice A n cap), (1, iq y), (6, .bool dn), (7, iq (i : Int)), (24, .slice (some ⟨g, o, none⟩) n cap), (25, iq (i : Int)), (26, .pointer (some ⟨g, o + i, none⟩)), (27, iq (xs.getD i 0)), (28, iq y), (29, .bool false), (35, .slice Aq kq cq), (36, .slice A n cap), (37, iq (i : Int))] ?_
   refine pl_step 4 4 rfl rfl ?_
   refine cont_recast 36 (.slice A n cap) (.slice (some ⟨g, o, none⟩) n cap) rfl (by rw [hra (by omega)]) ?_
   refine sem_step 38 (Instr.indexAt 34 (.slice (some ⟨g, o, none⟩) n cap) (iq (i : Int))) (.pointer (some ⟨g, o + i, none⟩)) (by kernel_rfl) (fun w hT => run_indexAt (e := 3) (sz := 1) _ (by kernel_rfl) (by kernel_rfl) (by omega) (by omega) (by omega) w) ?_
   refine pl_step 5 3 rfl rfl ?_
   refine sem_step 39 (Instr.loadAt 3 (.pointer (some ⟨g, o + i, none⟩))) (iq (xs.getD i 0)) (by kernel_rfl) (fun w hT => run_load1 (by kernel_rfl) (Rd.cell (hT.ok 1 _ rfl) (i) _ (ivals_get (by omega)))) ?_
   refine batch1 [0] 6 2 (fun b13 => [(0, .slice A n cap), (1, iq y), (6, .bool dn), (7, iq (i : Int)), (24, .slice (some ⟨g, o, none⟩) n cap), (25, iq (i : Int)), (26, .pointer (some ⟨g, o + i, none⟩)), (27, iq (xs.getD i 0)), (28, iq y), (29, .bool false), (35, .slice Aq kq cq), (40, .slice (pB b13) 1 1)]) (fun b13 => [.cells b13 [iq (xs.getD i 0)] 3 true, .gen (rowE (Aq) gq kq cq 3 1 (ivals .i64 (insP xs y i)) true), .gen (rdE (A) g o n 1 (ivals .i64 xs))]) rfl rfl [0, 1, 6, 7, 24, 25, 26, 27, 28, 29, 35, 40] (fun _ => rfl) (fun b13 => by kernel_rfl) (fun b13 => by kernel_rfl) (fun b13 => ?_)
   refine pl_step 7 1 rfl rfl ?_
   refine sem_stepW (α := Option Addr × Nat × Nat) 41 (Builtin.append_ #[34, 34] 34 #[.slice Aq kq cq, .slice (pB b13) 1 1]) (fun x_ => .slice x_.1 (kq + 1) x_.2.2) (fun x_ => [.cells b13 [iq (xs.getD i 0)] 3 true, .gen (rowE (x_.1) x_.2.1 (kq + 1) x_.2.2 3 1 (ivals .i64 ((insP xs y i) ++ [xs.getD i 0])) true), .gen (rdE (A) g o n 1 (ivals .i64 xs))]) (fun _ => True) (by kernel_rfl) (fun w hT => append_own (n' := (kq + 1)) (z := iq 0) hT (i := 1) (bytes := 8) rfl (by kernel_rfl) (by kernel_rfl) rfl (by decide) (by decide) (Rd.ofCells (vals := ivals .i64 [xs.getD i 0]) (hT.ok 0 _ rfl) rfl rfl) (ivals_one .i64 [xs.getD i 0]) (by omega) (ivals_append .i64 (insP xs y i) [xs.getD i 0]) rfl) ?_
   rintro ⟨A14, g14, cp14⟩ -
   refine cont_norm [(0, .slice A n cap), (1, iq y), (6, .bool dn), (7, iq (i : Int)), (24, .slice (some ⟨g, o, none⟩) n cap), (25, iq (i : Int)), (26, .pointer (some ⟨g, o + i, none⟩)), (27, iq (xs.getD i 0)), (28, iq y), (29, .bool false), (35, .slice Aq kq cq), (40, .slice (pB b13) 1 1), (41, .slice A14 (kq + 1) cp14)] _ (by kernel_rfl) rfl ?_
   refine cont_fact (F := (0 < (kq + 1) → (A14 : Option Addr) = pB g14) ∧ ((insP xs y i) ++ [xs.getD i 0]).length = (kq + 1) ∧ (kq + 1) ≤ cp14 ∧ cp14 ≤ maxLen) (fun w hT => Row.facts (hT.ok 1 _ rfl)) (fun hr15_ => ?_)
   obtain ⟨hr15_a, hr15_l, hr15_c, hr15_m⟩ := hr15_
   unfold maxLen at hr15_m
   refine bS [0] 8 0 [(0, .slice A n cap), (1, iq y), (5, .slice A14 (kq + 1) cp14), (6, .bool dn), (7, iq (i : Int)), (24, .slice (some ⟨g, o, none⟩) n cap), (25, iq (i : Int)), (26, .pointer (some ⟨g, o + i, none⟩)), (27, iq (xs.getD i 0)), (28, iq y), (29, .bool false)] ?_
   refine cont_forget 0 rfl ?_
   refine cont_done ?_
   refine blk_normal ?_
   refine then_normal ?_
   refine cont_region 3 rfl ?_
   refine bS [0, 0] 2 1 [(0, .slice A n cap), (1, iq y), (5, .slice A14 (kq + 1) cp14), (6, .bool dn), (13, iq (IntKind.i64.wrap ((i : Int) + 1))), (24, .slice (some ⟨g, o, none⟩) n cap), (25, iq (i : Int)), (26, .pointer (some ⟨g, o + i, none⟩)), (27, iq (xs.getD i 0)), (28, iq y), (29, .bool false)] ?_
   refine cont_recast 13 (iq (IntKind.i64.wrap ((i : Int) + 1))) (iq ((i : Int) + 1)) rfl (wrapI (by omega) (by omega)) ?_
   refine bS [0] 3 0 [(0, .slice A n cap), (1, iq y), (5, .slice A14 (kq + 1) cp14), (6, .bool dn), (7, iq ((i : Int) + 1)), (24, .slice (some ⟨g, o, none⟩) n cap), (25, iq (i : Int)), (26, .pointer (some ⟨g, o + i, none⟩)), (27, iq (xs.getD i 0)), (28, iq y), (29, .bool false)] ?_
   refine cont_done ?_
   refine then_normal ?_
   have hst_ : insP xs y i ++ [xs.getD i 0] = insP xs y (i + 1) ∧ anyGt (xs.take (i + 1)) y = dn := by
     rw [hdf_]; exact insP_low (by omega) (hdn.symm.trans hdf_) (by omega)
   refine cont_rowEq (k := .i64) 0 ((insP xs y i) ++ [xs.getD i 0]) (insP xs y (i + 1)) rfl hst_.1 ?_
   refine cont_again (i + 1, (kq + 1), A14, g14, cp14, dn) (show (i + 1) ≤ n ∧ ((kq + 1)) ≤ (i + 1) + 1 ∧ (∀ j, j < (i + 1) → xs.getD j 0 ≠ y) ∧ (dn) = anyGt (xs.take (i + 1)) y ∧ ((dn) = false → ((kq + 1)) ≤ (i + 1)) from ⟨by omega, by omega, fun j hj => by rcases Nat.lt_succ_iff_lt_or_eq.1 hj with h_ | h_; exact hne j h_; subst h_; assumption, by rw [hst_.2, hdf_], fun h_ => by first | exact absurd h_ (by decide) | (rw [hdt_] at h_; cases h_) | (have := hkd hdf_; omega)⟩) (show n - (i + 1) < n - i from by omega) (by kernel_rfl) (by kernel_rfl)
  replace c5_ : dn = true := by simpa using c5_
  have hdt_ : dn = true := c5_
  refine bS [0, 0, 0, 0, 0, 0, 0] 10 0 [(0, .slice A n cap), (1, iq y), (5, .slice Aq kq cq), (6, .bool dn), (7, iq (i : Int)), (24, undef), (25, undef), (26, undef), (27, undef), (28, undef), (29, undef), (30, .bool false)] ?_
  refine cont_done ?_
  refine then_normal ?_
  refine cont_false rfl ?_
  refine cont_skip ?_
  refine then_normal ?_
  refine cont_region 8 rfl ?_
  refine bS [0, 0, 0] 3 5 [(0, .slice A n cap), (1, iq y), (6, .bool dn), (7, iq (i : Int)), (24, undef), (25, undef), (26, undef), (27, undef), (28, undef), (29, undef), (35, .slice Aq kq cq), (36, .slice A n cap), (37, iq (i : Int))] ?_
  refine pl_step 4 4 rfl rfl ?_
  refine cont_recast 36 (.slice A n cap) (.slice (some ⟨g, o, none⟩) n cap) rfl (by rw [hra (by omega)]) ?_
  refine sem_step 38 (Instr.indexAt 34 (.slice (some ⟨g, o, none⟩) n cap) (iq (i : Int))) (.pointer (some ⟨g, o + i, none⟩)) (by kernel_rfl) (fun w hT => run_indexAt (e := 3) (sz := 1) _ (by kernel_rfl) (by kernel_rfl) (by omega) (by omega) (by omega) w) ?_
  refine pl_step 5 3 rfl rfl ?_
  refine sem_step 39 (Instr.loadAt 3 (.pointer (some ⟨g, o + i, none⟩))) (iq (xs.getD i 0)) (by kernel_rfl) (fun w hT => run_load1 (by kernel_rfl) (Rd.cell (hT.ok 1 _ rfl) (i) _ (ivals_get (by omega)))) ?_
  refine batch1 [0] 6 2 (fun b16 => [(0, .slice A n cap), (1, iq y), (6, .bool dn), (7, iq (i : Int)), (24, undef), (25, undef), (26, undef), (27, undef), (28, undef), (29, undef), (35, .slice Aq kq cq), (40, .slice (pB b16) 1 1)]) (fun b16 => [.cells b16 [iq (xs.getD i 0)] 3 true, .gen (rowE (Aq) gq kq cq 3 1 (ivals .i64 (insP xs y i)) true), .gen (rdE (A) g o n 1 (ivals .i64 xs))]) rfl rfl [0, 1, 6, 7, 24, 25, 26, 27, 28, 29, 35, 40] (fun _ => rfl) (fun b16 => by kernel_rfl) (fun b16 => by kernel_rfl) (fun b16 => ?_)
  refine pl_step 7 1 rfl rfl ?_
  refine sem_stepW (α := Option Addr × Nat × Nat) 41 (Builtin.append_ #[34, 34] 34 #[.slice Aq kq cq, .slice (pB b16) 1 1]) (fun x_ => .slice x_.1 (kq + 1) x_.2.2) (fun x_ => [.cells b16 [iq (xs.getD i 0)] 3 true, .gen (rowE (x_.1) x_.2.1 (kq + 1) x_.2.2 3 1 (ivals .i64 ((insP xs y i) ++ [xs.getD i 0])) true), .gen (rdE (A) g o n 1 (ivals .i64 xs))]) (fun _ => True) (by kernel_rfl) (fun w hT => append_own (n' := (kq + 1)) (z := iq 0) hT (i := 1) (bytes := 8) rfl (by kernel_rfl) (by kernel_rfl) rfl (by decide) (by decide) (Rd.ofCells (vals := ivals .i64 [xs.getD i 0]) (hT.ok 0 _ rfl) rfl rfl) (ivals_one .i64 [xs.getD i 0]) (by omega) (ivals_append .i64 (insP xs y i) [xs.getD i 0]) rfl) ?_
  rintro ⟨A17, g17, cp17⟩ -
  refine cont_norm [(0, .slice A n cap), (1, iq y), (6, .bool dn), (7, iq (i : Int)), (24, undef), (25, undef), (26, undef), (27, undef), (28, undef), (29, undef), (35, .slice Aq kq cq), (40, .slice (pB b16) 1 1), (41, .slice A17 (kq + 1) cp17)] _ (by kernel_rfl) rfl ?_
  refine cont_fact (F := (0 < (kq + 1) → (A17 : Option Addr) = pB g17) ∧ ((insP xs y i) ++ [xs.getD i 0]).length = (kq + 1) ∧ (kq + 1) ≤ cp17 ∧ cp17 ≤ maxLen) (fun w hT => Row.facts (hT.ok 1 _ rfl)) (fun hr18_ => ?_)
  obtain ⟨hr18_a, hr18_l, hr18_c, hr18_m⟩ := hr18_
  unfold maxLen at hr18_m
  refine bS [0] 8 0 [(0, .slice A n cap), (1, iq y), (5, .slice A17 (kq + 1) cp17), (6, .bool dn), (7, iq (i : Int)), (24, undef), (25, undef), (26, undef), (27, undef), (28, undef), (29, undef)] ?_
  refine cont_forget 0 rfl ?_
  refine cont_done ?_
  refine blk_normal ?_
  refine then_normal ?_
  refine cont_region 3 rfl ?_
  refine bS [0, 0] 2 1 [(0, .slice A n cap), (1, iq y), (5, .slice A17 (kq + 1) cp17), (6, .bool dn), (13, iq (IntKind.i64.wrap ((i : Int) + 1))), (24, undef), (25, undef), (26, undef), (27, undef), (28, undef), (29, undef)] ?_
  refine cont_recast 13 (iq (IntKind.i64.wrap ((i : Int) + 1))) (iq ((i : Int) + 1)) rfl (wrapI (by omega) (by omega)) ?_
  refine bS [0] 3 0 [(0, .slice A n cap), (1, iq y), (5, .slice A17 (kq + 1) cp17), (6, .bool dn), (7, iq ((i : Int) + 1)), (24, undef), (25, undef), (26, undef), (27, undef), (28, undef), (29, undef)] ?_
  refine cont_done ?_
  refine then_normal ?_
  have hst_ : insP xs y i ++ [xs.getD i 0] = insP xs y (i + 1) ∧ anyGt (xs.take (i + 1)) y = dn := by
    rw [hdt_]; exact insP_on hrise (by omega) (hdn.symm.trans hdt_)
  refine cont_rowEq (k := .i64) 0 ((insP xs y i) ++ [xs.getD i 0]) (insP xs y (i + 1)) rfl hst_.1 ?_
  refine cont_again (i + 1, (kq + 1), A17, g17, cp17, dn) (show (i + 1) ≤ n ∧ ((kq + 1)) ≤ (i + 1) + 1 ∧ (∀ j, j < (i + 1) → xs.getD j 0 ≠ y) ∧ (dn) = anyGt (xs.take (i + 1)) y ∧ ((dn) = false → ((kq + 1)) ≤ (i + 1)) from ⟨by omega, by omega, fun j hj => by rcases Nat.lt_succ_iff_lt_or_eq.1 hj with h_ | h_; exact hne j h_; subst h_; assumption, by rw [hst_.2, hdt_], fun h_ => by first | exact absurd h_ (by decide) | (rw [hdt_] at h_; cases h_) | (have := hkd hdf_; omega)⟩) (show n - (i + 1) < n - i from by omega) (by kernel_rfl) (by kernel_rfl)
 replace c3_ := of_decide_eq_false c3_
 refine cont_false rfl ?_
 refine cont_exit ?_
 refine then_exit ?_
 refine then_exit ?_
 refine blk_exit ?_
 refine then_normal ?_
 refine cont_seq ?_
 refine cont_seq ?_
 refine cont_region 2 rfl ?_
 refine bS [0, 0] 2 0 [(1, iq y), (5, .slice Aq kq cq), (43, .bool (!dn))] ?_
 refine cont_done ?_
 refine then_normal ?_
 refine cont_split 43 (!dn) rfl (fun c19_ => ?_) (fun c19_ => ?_)
 ·
  replace c19_ : dn = false := by simpa using c19_
  have hdf_ : dn = false := c19_
  have hkq2 := hkd hdf_
  refine cont_true rfl ?_
  refine cont_region 5 rfl ?_
  refine batch1 [0, 0, 0] 3 2 (fun b20 => [(44, .slice Aq kq cq), (46, .slice (pB b20) 1 1)]) (fun b20 => [.cells b20 [iq y] 3 true, .gen (rowE (Aq) gq kq cq 3 1 (ivals .i64 (insP xs y i)) true), .gen (rdE (A) g o n 1 (ivals .i64 xs))]) rfl rfl [44, 46] (fun _ => rfl) (fun b20 => by kernel_rfl) (fun b20 => by kernel_rfl) (fun b20 => ?_)
  refine pl_step 4 1 rfl rfl ?_
  refine sem_stepW (α := Option Addr × Nat × Nat) 47 (Builtin.append_ #[34, 34] 34 #[.slice Aq kq cq, .slice (pB b20) 1 1]) (fun x_ => .slice x_.1 (kq + 1) x_.2.2) (fun x_ => [.cells b20 [iq y] 3 true, .gen (rowE (x_.1) x_.2.1 (kq + 1) x_.2.2 3 1 (ivals .i64 ((insP xs y i) ++ [y])) true), .gen (rdE (A) g o n 1 (ivals .i64 xs))]) (fun _ => True) (by kernel_rfl) (fun w hT => append_own (n' := (kq + 1)) (z := iq 0) hT (i := 1) (bytes := 8) rfl (by kernel_rfl) (by kernel_rfl) rfl (by decide) (by decide) (Rd.ofCells (vals := ivals .i64 [y]) (hT.ok 0 _ rfl) rfl rfl) (ivals_one .i64 [y]) (by omega) (ivals_append .i64 (insP xs y i) [y]) rfl) ?_
  rintro ⟨A21, g21, cp21⟩ -
  refine cont_norm [(44, .slice Aq kq cq), (46, .slice (pB b20) 1 1), (47, .slice A21 (kq + 1) cp21)] _ (by kernel_rfl) rfl ?_
  refine cont_fact (F := (0 < (kq + 1) → (A21 : Option Addr) = pB g21) ∧ ((insP xs y i) ++ [y]).length = (kq + 1) ∧ (kq + 1) ≤ cp21 ∧ cp21 ≤ maxLen) (fun w hT => Row.facts (hT.ok 1 _ rfl)) (fun hr22_ => ?_)
  obtain ⟨hr22_a, hr22_l, hr22_c, hr22_m⟩ := hr22_
  unfold maxLen at hr22_m
  refine bS [0] 5 0 [(5, .slice A21 (kq + 1) cp21)] ?_
  refine cont_forget 0 rfl ?_
  refine cont_done ?_
  refine then_normal ?_
  refine cont_seq ?_
  refine cont_region 2 rfl ?_
  refine bS [0, 0] 2 0 [(4, .slice A21 (kq + 1) cp21)] ?_
  refine cont_done ?_
  refine then_normal ?_
  refine cont_ret ?_
  refine ret_one (.inl rfl) rfl 0 (.slice A21 (kq + 1) cp21) (by kernel_rfl) (by kernel_rfl) (fun w hT => ?_)
  replace hT := hT.erase 1 (fun e h hw => by cases h; first | rfl | cases hw)
  refine .inr ⟨notin (i := i) (by omega) hne, ?_⟩
  rw [insP_last (by omega) (hdn.symm.trans hdf_) hne] at hT
  exact ⟨_, _, _, _, rfl, hT⟩
 replace c19_ : dn = true := by simpa using c19_
 have hdt_ : dn = true := c19_
 refine cont_false rfl ?_
 refine cont_skip ?_
 refine then_normal ?_
 refine cont_seq ?_
 refine cont_region 2 rfl ?_
 refine bS [0, 0] 2 0 [(4, .slice Aq kq cq)] ?_
 refine cont_done ?_
 refine then_normal ?_
 refine cont_ret ?_
 refine ret_one (.inl rfl) rfl 0 (.slice Aq kq cq) (by kernel_rfl) (by kernel_rfl) (fun w hT => ?_)
 replace hT := hT.erase 1 (fun e h hw => by cases h; first | rfl | cases hw)
 refine .inr ⟨notin (i := i) (by omega) hne, ?_⟩
 rw [insP_end (by omega) (hdn.symm.trans hdt_) hne] at hT
 exact ⟨_, _, _, _, rfl, hT⟩

end Go.Proofs.Ytlfahohbkgdabaa

