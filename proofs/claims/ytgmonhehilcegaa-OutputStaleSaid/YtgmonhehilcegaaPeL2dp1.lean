/- Contracts of functions of the given program, printed by a program of this project. -/
import Derived.Test.YtgmonhehilcegaaPeL2c
import Derived.Test.YtgmonhehilcegaaPeL4b
import Derived.Test.YtgmonhehilcegaaPeRd2
import Derived.Test.YtgmonhehilcegaaPeRowR
import Derived.Test.YtgmonhehilcegaaProg
set_option linter.unusedVariables false
set_option linter.unusedSimpArgs false
namespace Go.Proofs.Ytgmonhehilcegaa
open Go Go.RowKit
set_option maxRecDepth 100000
set_option maxHeartbeats 8000000

theorem refSmallQ (r : Rect) (w : World) (hr : R64 r) :
    Calls Try.prog 47 #[.agg #[.int .i64 r.x0, .int .i64 r.y0, .int .i64 r.x1, .int .i64 r.y1]] w fun e w' => e = .returned (.agg #[.int .i64 ((smallR r).x0), .int .i64 ((smallR r).y0), .int .i64 ((smallR r).x1), .int .i64 ((smallR r).y1)]) ∧ Below w.heap.size w w' := by
 obtain ⟨⟨h0, h0'⟩, ⟨h1, h1'⟩, ⟨h2, h2'⟩, ⟨h3, h3'⟩⟩ := hr
 refine enter 26 [(0, .agg #[iq r.x0, iq r.y0, iq r.x1, iq r.y1])] [] Try.func47 rfl Try.ntmps47 rfl (by kernel_rfl) (Tab.start w) ?_
 refine cont_seq ?_
 refine cont_region 2 rfl ?_
 refine batch2 [0, 0] 2 0 (fun b1 b2 => [(1, .pointer (pB b1)), (2, .pointer (pB b2))]) (fun b1 b2 => [.cells b2 [iq 0, iq 0, iq 0, iq 0] 28 true, .cells b1 [iq r.x0, iq r.y0, iq r.x1, iq r.y1] 28 true]) rfl rfl [1, 2] (fun _ _ => rfl) (fun b1 b2 => by kernel_rfl) (fun b1 b2 => by kernel_rfl) (fun b1 b2 => ?_)
 refine cont_done ?_
 refine then_normal ?_
 refine cont_seq ?_
 refine cont_region 5 rfl ?_
 refine bS [0, 1] 2 3 [(1, .pointer (pB b1)), (2, .pointer (pB b2)), (6, iq r.x0)] ?_
 refine pl_step 3 2 rfl rfl ?_
 refine call_pure (d := 7) (iq (aroundI r.x0 24)) (by kernel_rfl) (fun w hT => refAround r.x0 24 w (by omega) (by omega)) ?_
 have hq3_ := aroundI_range r.x0 (m := 24) (by omega)
 refine bS [0] 4 1 [(1, .pointer (pB b1)), (2, .pointer (pB b2)), (8, iq (IntKind.i64.wrap ((aroundI r.x0 24) - 4)))] ?_
 refine cont_recast 8 (iq (IntKind.i64.wrap ((aroundI r.x0 24) - 4))) (iq ((aroundI r.x0 24) - 4)) rfl (wrapI (by omega) (by omega)) ?_
 refine bS [0] 5 0 [(1, .pointer (pB b1)), (2, .pointer (pB b2)), (3, iq ((aroundI r.x0 24) - 4))] ?_
 refine cont_done ?_
 refine then_normal ?_
 refine cont_seq ?_
 refine cont_region 5 rfl ?_
 refine bS [0, 1] 2 3 [(1, .pointer (pB b1)), (2, .pointer (pB b2)), (3, iq ((aroundI r.x0 24) - 4)), (10, iq r.y0)] ?_
 refine pl_step 3 2 rfl rfl ?_
 refine call_pure (d := 11) (iq (aroundI r.y0 24)) (by kernel_rfl) (fun w hT => refAround r.y0 24 w (by omega) (by omega)) ?_
 have hq4_ := aroundI_range r.y0 (m := 24) (by omega)
 refine bS [0] 4 1 [(1, .pointer (pB b1)), (2, .pointer (pB b2)), (3, iq ((aroundI r.x0 24) - 4)), (12, iq (IntKind.i64.wrap ((aroundI r.y0 24) - 4)))] ?_
 refine cont_recast 12 (iq (IntKind.i64.wrap ((aroundI r.y0 24) - 4))) (iq ((aroundI r.y0 24) - 4)) rfl (wrapI (by omega) (by omega)) ?_
 refine bS [0] 5 0 [(1, .pointer (pB b1)), (2, .pointer (pB b2)), (3, iq ((aroundI r.x0 24) - 4)), (4, iq ((aroundI r.y0 24) - 4))] ?_
 refine cont_done ?_
 refine then_normal ?_
 refine cont_seq ?_
 refine drawn_enter 14 [0] rfl (by kernel_rfl) ?_
 refine takes 0 [0] [(0, 0), (1, 0), (2, 0), (3, 0), (7, 0), (8, 0), (4, 1), (9, 1)] 6 [9, 4, 8, 7, 3, 2, 1, 0] [(2, .pointer (pB b2)), (13, iq ((aroundI r.x0 24) - 4)), (14, iq ((aroundI r.y0 24) - 4)), (15, iq ((aroundI r.x0 24) - 4)), (17, iq r.x1), (20, iq ((aroundI r.y0 24) - 4)), (22, iq r.y1)] (by kernel_rfl) (pok_then pok_body) (by kernel_rfl) rfl rfl (by kernel_rfl) (by kernel_rfl) ?_
 refine drawn_one 5 5 rfl (by kernel_rfl) ?_
 refine call_pure (d := 18) (iq (aroundI r.x1 13)) (by kernel_rfl) (fun w hT => refAround r.x1 13 w (by omega) (by omega)) ?_
 have hq5_ := aroundI_range r.x1 (m := 13) (by omega)
 refine drawn_next 0 [0] (by kernel_rfl) ?_
 refine takes 0 [0] [(6, 0)] 4 [6, 5, 9, 4, 8, 7, 3, 2, 1, 0] [(2, .pointer (pB b2)), (13, iq ((aroundI r.x0 24) - 4)), (14, iq ((aroundI r.y0 24) - 4)), (19, iq (IntKind.i64.wrap (((aroundI r.x0 24) - 4) + (aroundI r.x1 13)))), (20, iq ((aroundI r.y0 24) - 4)), (22, iq r.y1)] (by kernel_rfl) (pok_then pok_body) (by kernel_rfl) rfl rfl (by kernel_rfl) (by kernel_rfl) ?_
 refine cont_recast 19 (iq (IntKind.i64.wrap (((aroundI r.x0 24) - 4) + (aroundI r.x1 13)))) (iq (((aroundI r.x0 24) - 4) + (aroundI r.x1 13))) rfl (wrapI (by omega) (by omega)) ?_
 refine drawn_one 10 3 rfl (by kernel_rfl) ?_
 refine call_pure (d := 23) (iq (aroundI r.y1 13)) (by kernel_rfl) (fun w hT => refAround r.y1 13 w (by omega) (by omega)) ?_
 have hq6_ := aroundI_range r.y1 (m := 13) (by omega)
 refine drawn_next 0 [0] (by kernel_rfl) ?_
 refine takes 0 [0] [(11, 0)] 2 [11, 10, 6, 5, 9, 4, 8, 7, 3, 2, 1, 0] [(2, .pointer (pB b2)), (13, iq ((aroundI r.x0 24) - 4)), (14, iq ((aroundI r.y0 24) - 4)), (19, iq (((aroundI r.x0 24) - 4) + (aroundI r.x1 13))), (24, iq (IntKind.i64.wrap (((aroundI r.y0 24) - 4) + (aroundI r.y1 13))))] (by kernel_rfl) (pok_then pok_body) (by kernel_rfl) rfl rfl (by kernel_rfl) (by kernel_rfl) ?_
 refine cont_recast 24 (iq (IntKind.i64.wrap (((aroundI r.y0 24) - 4) + (aroundI r.y1 13)))) (iq (((aroundI r.y0 24) - 4) + (aroundI r.y1 13))) rfl (wrapI (by omega) (by omega)) ?_
 refine takes 0 [0] [(12, 0)] 1 [12, 11, 10, 6, 5, 9, 4, 8, 7, 3, 2, 1, 0] [(2, .pointer (pB b2)), (25, .agg #[iq ((aroundI r.x0 24) - 4), iq ((aroundI r.y0 24) - 4), iq (((aroundI r.x0 24) - 4) + (aroundI r.x1 13)), iq (((aroundI r.y0 24) - 4) + (aroundI r.y1 13))])] (by kernel_rfl) (pok_then pok_body) (by kernel_rfl) rfl rfl (by kernel_rfl) (by kernel_rfl) ?_
 refine drawn_one 13 0 rfl (by kernel_rfl) ?_
 refine one_step 0 [(2, .pointer (pB b2))] [.cells b2 [iq ((aroundI r.x0 24) - 4), iq ((aroundI r.y0 24) - 4), iq (((aroundI r.x0 24) - 4) + (aroundI r.x1 13)), iq (((aroundI r.y0 24) - 4) + (aroundI r.y1 13))] 28 true, .cells b1 [iq r.x0, iq r.y0, iq r.x1, iq r.y1] 28 true] (by kernel_rfl) (by kernel_rfl) ?_
 refine drawn_next 0 [0] (by kernel_rfl) ?_
 refine drawn_done (by kernel_rfl) ?_
 refine then_normal ?_
 refine cont_ret ?_
 refine ret_one (.inl rfl) rfl 0 (.agg #[iq ((aroundI r.x0 24) - 4), iq ((aroundI r.y0 24) - 4), iq (((aroundI r.x0 24) - 4) + (aroundI r.x1 13)), iq (((aroundI r.y0 24) - 4) + (aroundI r.y1 13))]) (by kernel_rfl) (by kernel_rfl) (fun w hT => ?_)
 exact ⟨rfl, hT.post rfl⟩

theorem refHasL (A : Option Addr) (g o n cap : Nat) (xs : List Rect) (x y : Int) (w : World) (hT0 : Tab w w [.gen (rdE (A) g o n 4 (rvals xs))]) (hn : n ≤ 1000000000000) :
    Calls Try.prog 35 #[.slice A n cap, .int .i64 x, .int .i64 y] w fun e w' => e = .returned (.bool (hasL xs x y)) ∧ Below w.heap.size w w' := by
 obtain ⟨hra, hrl⟩ := Rd.factsR (hT0.ok 0 _ rfl)
 refine enter 21 [(0, .slice A n cap), (1, iq x), (2, iq y)] [.gen (rdE (A) g o n 4 (rvals xs))] Try.func35 rfl Try.ntmps35 rfl (by kernel_rfl) hT0 ?_
 refine cont_seq ?_
 refine cont_region 1 rfl ?_
 refine bS [0] 1 0 [(0, .slice A n cap), (1, iq x), (2, iq y)] ?_
 refine cont_done ?_
 refine then_normal ?_
 refine cont_seq ?_
 refine cont_seq ?_
 refine cont_region 1 rfl ?_
 refine bS [0] 1 0 [(0, .slice A n cap), (1, iq x), (2, iq y), (7, iq 0)] ?_
 refine cont_done ?_
 refine then_normal ?_
 refine cont_block ?_
 refine cont_loop (α := Nat) (fun x_ : Nat => x_ ≤ n ∧ ∀ j, j < x_ → hasB (rget xs j).x0 (rget xs j).y0 (rget xs j).x1 (rget xs j).y1 x y = false) (fun x_ : Nat => [(0, .slice A n cap), (1, iq x), (2, iq y), (7, iq (x_ : Int))]) (fun x_ : Nat => [.gen (rdE (A) g o n 4 (rvals xs))]) (fun x_ : Nat => n - x_) 0 (⟨by omega, fun j hj => by omega⟩) (by kernel_rfl) (by kernel_rfl) ?_
 rintro i hinv1_
 replace hinv1_ : i ≤ n ∧ ∀ j, j < i → hasB (rget xs j).x0 (rget xs j).y0 (rget xs j).x1 (rget xs j).y1 x y = false := hinv1_
 refine cont_norm [(0, .slice A n cap), (1, iq x), (2, iq y), (7, iq (i : Int))] [.gen (rdE (A) g o n 4 (rvals xs))] (by kernel_rfl) rfl ?_
 obtain ⟨hi, hns⟩ := hinv1_
 refine cont_seq ?_
 refine cont_seq ?_
 refine cont_region 4 rfl ?_
 refine bS [0, 0, 0, 0] 4 0 [(0, .slice A n cap), (1, iq x), (2, iq y), (7, iq (i : Int)), (11, .bool (decide ((i : Int) < (n : Int))))] ?_
 refine cont_done ?_
 refine then_normal ?_
 refine cont_split 11 (decide ((i : Int) < (n : Int))) rfl (fun c2_ => ?_) (fun c2_ => ?_)
 ·
  replace c2_ := of_decide_eq_true c2_
  refine cont_true rfl ?_
  refine cont_skip ?_
  refine then_normal ?_
  refine cont_seq ?_
  refine cont_block ?_
  refine cont_seq ?_
  refine cont_region 7 rfl ?_
  refine bS [0, 0] 2 5 [(0, .slice A n cap), (1, iq x), (2, iq y), (7, iq (i : Int)), (14, .slice A n cap), (15, iq (i : Int))] ?_
  refine pl_step 3 4 rfl rfl ?_
  refine cont_recast 14 (.slice A n cap) (.slice (some ⟨g, o, none⟩) n cap) rfl (by rw [hra (by omega)]) ?_
  refine sem_step 16 (Instr.indexAt 62 (.slice (some ⟨g, o, none⟩) n cap) (iq (i : Int))) (.pointer (some ⟨g, o + i * 4, none⟩)) (by kernel_rfl) (fun w hT => run_indexAt (e := 28) (sz := 4) _ (by kernel_rfl) (by kernel_rfl) (by omega) (by omega) (by omega) w) ?_
  refine pl_step 4 3 rfl rfl ?_
  refine sem_step 17 (Instr.loadAt 28 (.pointer (some ⟨g, o + i * 4, none⟩))) (.agg #[iq ((rget xs i).x0), iq ((rget xs i).y0), iq ((rget xs i).x1), iq ((rget xs i).y1)]) (by kernel_rfl) (fun w hT => run_loadN (m := 4) (cs := rcells (rget xs i)) (by kernel_rfl) (by kernel_rfl) rfl (Rd.rect (hT.ok 0 _ rfl) (by omega))) ?_
  refine bS [0, 0] 6 1 [(0, .slice A n cap), (1, iq x), (2, iq y), (7, iq (i : Int)), (17, .agg #[iq ((rget xs i).x0), iq ((rget xs i).y0), iq ((rget xs i).x1), iq ((rget xs i).y1)]), (18, iq x), (19, iq y)] ?_
  refine pl_step 7 0 rfl rfl ?_
  refine call_pure (d := 20) (.bool (hasB ((rget xs i).x0) ((rget xs i).y0) ((rget xs i).x1) ((rget xs i).y1) x y)) (by kernel_rfl) (fun w hT => refHas ((rget xs i).x0) ((rget xs i).y0) ((rget xs i).x1) ((rget xs i).y1) x y w) ?_
  refine cont_done ?_
  refine then_normal ?_
  refine cont_split 20 (hasB ((rget xs i).x0) ((rget xs i).y0) ((rget xs i).x1) ((rget xs i).y1) x y) rfl (fun c3_ => ?_) (fun c3_ => ?_)
  ·
   refine cont_true rfl ?_
   refine cont_seq ?_
   refine cont_region 1 rfl ?_
   refine bS [0] 1 0 [(6, .bool true)] ?_
   refine cont_done ?_
   refine then_normal ?_
   refine cont_ret ?_
   refine blk_ret ?_
   refine then_ret ?_
   refine then_ret ?_
   refine blk_ret ?_
   refine then_ret ?_
   refine ret_one (.inl rfl) rfl 0 (.bool true) (by kernel_rfl) (by kernel_rfl) (fun w hT => ?_)
   exact ⟨ret_bool (List.any_eq_true.2 ⟨rget xs i, rget_mem (by omega), ‹_›⟩).symm, hT.post rfl⟩
  refine cont_false rfl ?_
  refine cont_skip ?_
  refine blk_normal ?_
  refine then_normal ?_
  refine cont_region 3 rfl ?_
  refine bS [0, 0] 2 1 [(0, .slice A n cap), (1, iq x), (2, iq y), (13, iq (IntKind.i64.wrap ((i : Int) + 1)))] ?_
  refine cont_recast 13 (iq (IntKind.i64.wrap ((i : Int) + 1))) (iq ((i : Int) + 1)) rfl (wrapI (by omega) (by omega)) ?_
  refine bS [0] 3 0 [(0, .slice A n cap), (1, iq x), (2, iq y), (7, iq ((i : Int) + 1))] ?_
  refine cont_done ?_
  refine then_normal ?_
  refine cont_again (i + 1) (show (i + 1) ≤ n ∧ ∀ j, j < (i + 1) → hasB (rget xs j).x0 (rget xs j).y0 (rget xs j).x1 (rget xs j).y1 x y = false from ⟨by omega, fun j hj => by rcases Nat.lt_succ_iff_lt_or_eq.1 hj with h_ | h_; exact hns j h_; subst h_; assumption⟩) (show n - (i + 1) < n - i from by omega) (by kernel_rfl) (by kernel_rfl)
 replace c2_ := of_decide_eq_false c2_
 refine cont_false rfl ?_
 refine cont_exit ?_
 refine then_exit ?_
 refine then_exit ?_
 refine blk_exit ?_
 refine then_normal ?_
 refine cont_seq ?_
 refine cont_region 1 rfl ?_
 refine bS [0] 1 0 [(6, .bool false)] ?_
 refine cont_done ?_
 refine then_normal ?_
 refine cont_ret ?_
 refine ret_one (.inl rfl) rfl 0 (.bool false) (by kernel_rfl) (by kernel_rfl) (fun w hT => ?_)
 refine ⟨ret_bool ?_, hT.post rfl⟩
 symm
 unfold hasL
 rw [List.any_eq_false]
 intro r hr
 obtain ⟨j, hj, e_⟩ := List.mem_iff_getElem.1 hr
 have h_ := hns j (by omega)
 rw [← rget_eq hj, e_] at h_
 rw [h_]; simp

end Go.Proofs.Ytgmonhehilcegaa

