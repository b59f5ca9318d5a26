/- Contracts of functions of the given program, printed by a program of this project. -/
import Derived.Test.YtgmonhehilcegaaPeL2dp1
import Derived.Test.YtgmonhehilcegaaProg
set_option linter.unusedVariables false
set_option linter.unusedSimpArgs false
namespace Go.Proofs.Ytgmonhehilcegaa
open Go Go.RowKit
set_option maxRecDepth 100000
set_option maxHeartbeats 8000000

theorem refSmallL (A : Option Addr) (g o n cap : Nat) (xs : List Rect) (m : Nat) (w : World) (hT0 : Tab w w [.gen (rdE (A) g o n 4 (rvals xs))]) (hx : ∀ r ∈ xs, R64 r) (hm : m ≤ 1000) :
    Calls Try.prog 33 #[.slice A n cap, .int .i64 (m : Int)] w fun e w' => ∃ (A_ : Option Addr) (g_ k_ cp_ : Nat), e = .returned (.slice A_ k_ cp_) ∧ Tab w w' [.gen (rowE (A_) g_ k_ cp_ 28 4 (rvals (smallL xs m)) true)] := by
 obtain ⟨hra, hrl⟩ := Rd.factsR (hT0.ok 0 _ rfl)
 refine enter 27 [(0, .slice A n cap), (1, iq (m : Int))] [.gen (rdE (A) g o n 4 (rvals xs))] Try.func33 rfl Try.ntmps33 rfl (by kernel_rfl) hT0 ?_
 refine cont_seq ?_
 refine cont_region 1 rfl ?_
 refine bS [0] 1 0 [(0, .slice A n cap), (1, iq (m : Int))] ?_
 refine cont_done ?_
 refine then_normal ?_
 refine cont_seq ?_
 refine cont_region 1 rfl ?_
 refine bS [0] 1 0 [(0, .slice A n cap), (1, iq (m : Int)), (5, .slice none 0 0)] ?_
 refine cont_done ?_
 refine then_normal ?_
 refine cont_seq ?_
 refine cont_seq ?_
 refine cont_region 1 rfl ?_
 refine bS [0] 1 0 [(0, .slice A n cap), (1, iq (m : Int)), (5, .slice none 0 0), (6, iq 0)] ?_
 refine cont_done ?_
 refine then_normal ?_
 refine cont_block ?_
 refine cont_nilrow 28 4 ?_
 refine cont_norm [(0, .slice A n cap), (1, iq (m : Int)), (5, .slice none 0 0), (6, iq 0)] [.gen (rowE (none) 0 0 0 28 4 (rvals []) true), .gen (rdE (A) g o n 4 (rvals xs))] (by kernel_rfl) rfl ?_
 refine cont_rowEqR 0 ([]) (smallL xs 0) rfl rfl ?_
 refine cont_loop (α := Nat × Option Addr × Nat × Nat) (fun x_ : Nat × Option Addr × Nat × Nat => x_.1 ≤ n ∧ x_.1 ≤ m) (fun x_ : Nat × Option Addr × Nat × Nat => [(0, .slice A n cap), (1, iq (m : Int)), (5, .slice x_.2.1 x_.1 x_.2.2.2), (6, iq (x_.1 : Int))]) (fun x_ : Nat × Option Addr × Nat × Nat => [.gen (rowE (x_.2.1) x_.2.2.1 x_.1 x_.2.2.2 28 4 (rvals (smallL xs x_.1)) true), .gen (rdE (A) g o n 4 (rvals xs))]) (fun x_ : Nat × Option Addr × Nat × Nat => n - x_.1) (0, none, 0, 0) (show (0) ≤ n ∧ (0) ≤ m from ⟨by omega, by omega⟩) (by kernel_rfl) (by kernel_rfl) ?_
 rintro ⟨i, Aq, gq, cq⟩ hinv2_
 replace hinv2_ : i ≤ n ∧ i ≤ m := hinv2_
 refine cont_norm [(0, .slice A n cap), (1, iq (m : Int)), (5, .slice Aq i cq), (6, iq (i : Int))] [.gen (rowE (Aq) gq i cq 28 4 (rvals (smallL xs i)) true), .gen (rdE (A) g o n 4 (rvals xs))] (by kernel_rfl) rfl ?_
 obtain ⟨hi, him⟩ := hinv2_
 have hri : i < n → R64 (rget xs i) := fun h_ => hx _ (rget_mem (by omega))
 refine cont_seq ?_
 refine cont_seq ?_
 refine cont_region 9 rfl ?_
 refine bS [0, 0, 0, 0, 0] 5 4 [(0, .slice A n cap), (1, iq (m : Int)), (5, .slice Aq i cq), (6, iq (i : Int)), (11, .bool (decide ((i : Int) < (n : Int))))] ?_
 refine cont_split 11 (decide ((i : Int) < (n : Int))) rfl (fun c3_ => ?_) (fun c3_ => ?_)
 ·
  replace c3_ := of_decide_eq_true c3_
  refine bS [0, 0, 0, 0] 9 0 [(0, .slice A n cap), (1, iq (m : Int)), (5, .slice Aq i cq), (6, iq (i : Int)), (12, iq (i : Int)), (13, iq (m : Int)), (14, .bool (decide ((i : Int) < (m : Int)))), (15, .bool (decide ((i : Int) < (m : Int))))] ?_
  refine cont_done ?_
  refine then_normal ?_
  refine cont_split 15 (decide ((i : Int) < (m : Int))) rfl (fun c4_ => ?_) (fun c4_ => ?_)
  ·
   refine cont_recast 14 (.bool (decide ((i : Int) < (m : Int)))) (.bool true) rfl (congrArg Value.bool c4_) ?_
   replace c4_ := of_decide_eq_true c4_
   refine cont_true rfl ?_
   refine cont_skip ?_
   refine then_normal ?_
   refine cont_seq ?_
   refine cont_block ?_
   refine cont_region 9 rfl ?_
   refine bS [0, 0, 0] 3 6 [(0, .slice A n cap), (1, iq (m : Int)), (6, iq (i : Int)), (12, iq (i : Int)), (13, iq (m : Int)), (14, .bool true), (18, .slice Aq i cq), (19, .slice A n cap), (20, iq (i : Int))] ?_
   refine pl_step 4 5 rfl rfl ?_
   refine cont_recast 19 (.slice A n cap) (.slice (some ⟨g, o, none⟩) n cap) rfl (by rw [hra (by omega)]) ?_
   refine sem_step 21 (Instr.indexAt 62 (.slice (some ⟨g, o, none⟩) n cap) (iq (i : Int))) (.pointer (some ⟨g, o + i * 4, none⟩)) (by kernel_rfl) (fun w hT => run_indexAt (e := 28) (sz := 4) _ (by kernel_rfl) (by kernel_rfl) (by omega) (by omega) (by omega) w) ?_
   refine pl_step 5 4 rfl rfl ?_
   refine sem_step 22 (Instr.loadAt 28 (.pointer (some ⟨g, o + i * 4, none⟩))) (.agg #[iq ((rget xs i).x0), iq ((rget xs i).y0), iq ((rget xs i).x1), iq ((rget xs i).y1)]) (by kernel_rfl) (fun w hT => run_loadN (m := 4) (cs := rcells (rget xs i)) (by kernel_rfl) (by kernel_rfl) rfl (Rd.rect (hT.ok 1 _ rfl) (by omega))) ?_
   refine pl_step 6 3 rfl rfl ?_
   refine call_pure (d := 23) (.agg #[iq ((smallR (rget xs i)).x0), iq ((smallR (rget xs i)).y0), iq ((smallR (rget xs i)).x1), iq ((smallR (rget xs i)).y1)]) (by kernel_rfl) (fun w hT => refSmallQ (rget xs i) w (hri (by omega))) ?_
   refine batch1 [0] 7 2 (fun b5 => [(0, .slice A n cap), (1, iq (m : Int)), (6, iq (i : Int)), (12, iq (i : Int)), (13, iq (m : Int)), (14, .bool true), (18, .slice Aq i cq), (24, .slice (pB b5) 1 1)]) (fun b5 => [.cells b5 [iq ((smallR (rget xs i)).x0), iq ((smallR (rget xs i)).y0), iq ((smallR (rget xs i)).x1), iq ((smallR (rget xs i)).y1)] 28 true, .gen (rowE (Aq) gq i cq 28 4 (rvals (smallL xs i)) true), .gen (rdE (A) g o n 4 (rvals xs))]) rfl rfl [0, 1, 6, 12, 13, 14, 18, 24] (fun _ => rfl) (fun b5 => by kernel_rfl) (fun b5 => by kernel_rfl) (fun b5 => ?_)
   refine pl_step 8 1 rfl rfl ?_
   refine sem_stepW (α := Option Addr × Nat × Nat) 25 (Builtin.append_ #[62, 62] 62 #[.slice Aq i cq, .slice (pB b5) 1 1]) (fun x_ => .slice x_.1 (i + 1) x_.2.2) (fun x_ => [.cells b5 [iq ((smallR (rget xs i)).x0), iq ((smallR (rget xs i)).y0), iq ((smallR (rget xs i)).x1), iq ((smallR (rget xs i)).y1)] 28 true, .gen (rowE (x_.1) x_.2.1 (i + 1) x_.2.2 28 4 (rvals ((smallL xs i) ++ [(⟨(smallR (rget xs i)).x0, (smallR (rget xs i)).y0, (smallR (rget xs i)).x1, (smallR (rget xs i)).y1⟩ : Rect)])) true), .gen (rdE (A) g o n 4 (rvals xs))]) (fun _ => True) (by kernel_rfl) (fun w hT => append_own (n' := (i + 1)) (z := .agg #[iq 0, iq 0, iq 0, iq 0]) hT (i := 1) (bytes := 32) rfl (by kernel_rfl) (by kernel_rfl) rfl (by decide) (by decide) (Rd.ofCells (vals := rvals [(⟨(smallR (rget xs i)).x0, (smallR (rget xs i)).y0, (smallR (rget xs i)).x1, (smallR (rget xs i)).y1⟩ : Rect)]) (hT.ok 0 _ rfl) rfl rfl) (rvals_one [(⟨(smallR (rget xs i)).x0, (smallR (rget xs i)).y0, (smallR (rget xs i)).x1, (smallR (rget xs i)).y1⟩ : Rect)]) (by omega) (rvals_append (smallL xs i) [(⟨(smallR (rget xs i)).x0, (smallR (rget xs i)).y0, (smallR (rget xs i)).x1, (smallR (rget xs i)).y1⟩ : Rect)]) rfl) ?_
   rintro ⟨A6, g6, cp6⟩ -
   refine cont_norm [(0, .slice A n cap), (1, iq (m : Int)), (6, iq (i : Int)), (12, iq (i : Int)), (13, iq (m : Int)), (14, .bool true), (18, .slice Aq i cq), (24, .slice (pB b5) 1 1), (25, .slice A6 (i + 1) cp6)] [.cells b5 [iq ((smallR (rget xs i)).x0), iq ((smallR (rget xs i)).y0), iq ((smallR (rget xs i)).x1), iq ((smallR (rget xs i)).y1)] 28 true, .gen (rowE (A6) g6 (i + 1) cp6 28 4 (rvals ((smallL xs i) ++ [(⟨(smallR (rget xs i)).x0, (smallR (rget xs i)).y0, (smallR (rget xs i)).x1, (smallR (rget xs i)).y1⟩ : Rect)])) true), .gen (rdE (A) g o n 4 (rvals xs))] (by kernel_rfl) rfl ?_
   refine cont_fact (F := (0 < (i + 1) → (A6 : Option Addr) = pB g6) ∧ ((smallL xs i) ++ [(⟨(smallR (rget xs i)).x0, (smallR (rget xs i)).y0, (smallR (rget xs i)).x1, (smallR (rget xs i)).y1⟩ : Rect)]).length = (i + 1) ∧ (i + 1) ≤ cp6 ∧ cp6 ≤ maxLen) (fun w hT => Row.factsR (hT.ok 1 _ rfl)) (fun hr7_ => ?_)
   obtain ⟨hr7_a, hr7_l, hr7_c, hr7_m⟩ := hr7_
   unfold maxLen at hr7_m
   refine bS [0] 9 0 [(0, .slice A n cap), (1, iq (m : Int)), (5, .slice A6 (i + 1) cp6), (6, iq (i : Int)), (12, iq (i : Int)), (13, iq (m : Int)), (14, .bool true)] ?_
   refine cont_forget 0 rfl ?_
   refine cont_done ?_
   refine blk_normal ?_
   refine then_normal ?_
   refine cont_region 3 rfl ?_
   refine bS [0, 0] 2 1 [(0, .slice A n cap), (1, iq (m : Int)), (5, .slice A6 (i + 1) cp6), (12, iq (i : Int)), (13, iq (m : Int)), (14, .bool true), (17, iq (IntKind.i64.wrap ((i : Int) + 1)))] ?_
   refine cont_recast 17 (iq (IntKind.i64.wrap ((i : Int) + 1))) (iq ((i : Int) + 1)) rfl (wrapI (by omega) (by omega)) ?_
   refine bS [0] 3 0 [(0, .slice A n cap), (1, iq (m : Int)), (5, .slice A6 (i + 1) cp6), (6, iq ((i : Int) + 1)), (12, iq (i : Int)), (13, iq (m : Int)), (14, .bool true)] ?_
   refine cont_done ?_
   refine then_normal ?_
   refine cont_rowEqR 0 ((smallL xs i) ++ [(⟨(smallR (rget xs i)).x0, (smallR (rget xs i)).y0, (smallR (rget xs i)).x1, (smallR (rget xs i)).y1⟩ : Rect)]) (smallL xs (i + 1)) rfl (smallL_put (by omega)) ?_
   refine cont_again (i + 1, A6, g6, cp6) (show (i + 1) ≤ n ∧ (i + 1) ≤ m from ⟨by omega, by omega⟩) (show n - (i + 1) < n - i from by omega) (by kernel_rfl) (by kernel_rfl)
  refine cont_recast 14 (.bool (decide ((i : Int) < (m : Int)))) (.bool false) rfl (congrArg Value.bool c4_) ?_
  replace c4_ := of_decide_eq_false c4_
  refine cont_false rfl ?_
  refine cont_exit ?_
  refine then_exit ?_
  refine then_exit ?_
  refine blk_exit ?_
  refine then_normal ?_
  refine cont_seq ?_
  refine cont_region 2 rfl ?_
  refine bS [0, 0] 2 0 [(4, .slice Aq i cq)] ?_
  refine cont_done ?_
  refine then_normal ?_
  refine cont_ret ?_
  refine ret_one (.inl rfl) rfl 0 (.slice Aq i cq) (by kernel_rfl) (by kernel_rfl) (fun w hT => ?_)
  replace hT := hT.erase 1 (fun e h hw => by cases h; first | rfl | cases hw)
  rw [smallL_end (m := m) (by omega) (by omega) (by omega)] at hT
  exact ⟨_, _, _, _, rfl, hT⟩
 replace c3_ := of_decide_eq_false c3_
 refine bS [0, 0, 0, 0] 9 0 [(0, .slice A n cap), (1, iq (m : Int)), (5, .slice Aq i cq), (6, iq (i : Int)), (12, undef), (13, undef), (14, undef), (15, .bool false)] ?_
 refine cont_done ?_
 refine then_normal ?_
 refine cont_false rfl ?_
 refine cont_exit ?_
 refine then_exit ?_
 refine then_exit ?_
 refine blk_exit ?_
 refine then_normal ?_
 refine cont_seq ?_
 refine cont_region 2 rfl ?_
 refine bS [0, 0] 2 0 [(4, .slice Aq i cq)] ?_
 refine cont_done ?_
 refine then_normal ?_
 refine cont_ret ?_
 refine ret_one (.inl rfl) rfl 0 (.slice Aq i cq) (by kernel_rfl) (by kernel_rfl) (fun w hT => ?_)
 replace hT := hT.erase 1 (fun e h hw => by cases h; first | rfl | cases hw)
 rw [smallL_end (m := m) (by omega) (by omega) (by omega)] at hT
 exact ⟨_, _, _, _, rfl, hT⟩

end Go.Proofs.Ytgmonhehilcegaa

