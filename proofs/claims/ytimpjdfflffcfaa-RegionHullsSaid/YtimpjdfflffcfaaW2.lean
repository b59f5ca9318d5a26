/- Contracts of functions of the given program, printed by a program of this project. -/
import Derived.Test.YtimpjdfflffcfaaL2d
import Derived.Test.YtimpjdfflffcfaaRe
import Derived.Test.YtimpjdfflffcfaaProg
set_option linter.unusedVariables false
set_option linter.unusedSimpArgs false
namespace Go.Proofs.Ytimpjdfflffcfaa
open Go Go.RowKit
set_option maxRecDepth 100000
set_option maxHeartbeats 8000000

theorem refArea1 (a b c d : Int) (w : World) (h0 : -2000000 ≤ a ∧ a ≤ 2000000) (h1 : -2000000 ≤ b ∧ b ≤ 2000000) (h2 : -2000000 ≤ c ∧ c ≤ 2000000) (h3 : -2000000 ≤ d ∧ d ≤ 2000000) :
    Calls Try.prog 60 #[.agg #[.int .i64 a, .int .i64 b, .int .i64 c, .int .i64 d]] w fun e w' => e = .returned (.int .i64 (areaI a b c d)) ∧ Below w.heap.size w w' := by
  refine enter 16 [(0, .agg #[.int .i64 a, .int .i64 b, .int .i64 c, .int .i64 d])] [] Try.func60 rfl Try.ntmps60 rfl (by kernel_rfl) (Tab.start w) ?_
  refine cont_seq ?_
  refine cont_region 2 rfl ?_
  refine batch1 [0, 0] 2 0 (fun b1 => [(1, .pointer (some ⟨b1, 0, none⟩))]) (fun b1 => [.cells b1 [.int .i64 a, .int .i64 b, .int .i64 c, .int .i64 d] 25 true]) rfl rfl [1] (fun _ => rfl) (fun b1 => by kernel_rfl) (fun b1 => by kernel_rfl) (fun b1 => ?_)
  refine cont_done ?_
  refine then_normal ?_
  refine cont_seq ?_
  refine cont_seq ?_
  refine cont_region 2 rfl ?_
  refine bS [0] 1 1 [(1, .pointer (some ⟨b1, 0, none⟩)), (3, .agg #[.int .i64 a, .int .i64 b, .int .i64 c, .int .i64 d])] ?_
  refine pl_step 2 0 rfl rfl ?_
  refine call_pure (d := 4) (.bool (emptyB a b c d)) (by kernel_rfl) (fun w hT => refEmpty a b c d w) ?_
  refine cont_done ?_
  refine then_normal ?_
  refine cont_split 4 (emptyB a b c d) rfl (fun c2_ => ?_) (fun c2_ => ?_)
  ·
    refine cont_true rfl ?_
    refine cont_seq ?_
    refine cont_region 1 rfl ?_
    refine bS [0] 1 0 [(2, .int .i64 0)] ?_
    refine cont_forget 0 rfl ?_
    refine cont_done ?_
    refine then_normal ?_
    refine cont_ret ?_
    refine then_ret ?_
    refine ret_one (.inl rfl) rfl 0 (.int .i64 0) (by kernel_rfl) (by kernel_rfl) (fun w hT => ?_)
    exact ⟨ret_int (by simp [areaI, *]), hT.post rfl⟩
  have hem := emptyB_false.1 c2_
  have hp : (c - a) * (d - b) ≤ 4000000 * 4000000 := mul_le_of (by omega) (by omega) (by omega) (by omega)
  have hq : 0 ≤ (c - a) * (d - b) := Int.mul_nonneg (by omega) (by omega)
  refine cont_false rfl ?_
  refine cont_skip ?_
  refine then_normal ?_
  refine cont_seq ?_
  refine cont_region 12 rfl ?_
  refine bS [0, 0, 0, 0, 0] 5 7 [(1, .pointer (some ⟨b1, 0, none⟩)), (9, .int .i64 (IntKind.i64.wrap (c - a)))] ?_
  refine cont_recast 9 (.int .i64 (IntKind.i64.wrap (c - a))) (.int .i64 (c - a)) rfl (wrapI (by omega) (by omega)) ?_
  refine bS [0, 0, 0, 0, 0] 10 2 [(9, .int .i64 (c - a)), (14, .int .i64 (IntKind.i64.wrap (d - b)))] ?_
  refine cont_recast 14 (.int .i64 (IntKind.i64.wrap (d - b))) (.int .i64 (d - b)) rfl (wrapI (by omega) (by omega)) ?_
  refine cont_forget 0 rfl ?_
  refine bS [0] 11 1 [(15, .int .i64 (IntKind.i64.wrap ((c - a) * (d - b))))] ?_
  refine cont_recast 15 (.int .i64 (IntKind.i64.wrap ((c - a) * (d - b)))) (.int .i64 ((c - a) * (d - b))) rfl (wrapI (by omega) (by omega)) ?_
  refine bS [0] 12 0 [(2, .int .i64 ((c - a) * (d - b)))] ?_
  refine cont_done ?_
  refine then_normal ?_
  refine cont_ret ?_
  refine ret_one (.inl rfl) rfl 0 (.int .i64 ((c - a) * (d - b))) (by kernel_rfl) (by kernel_rfl) (fun w hT => ?_)
  exact ⟨ret_int (by simp [areaI, *]), hT.post rfl⟩

theorem regArea (A : Option Addr) (g o n cap : Nat) (xs : List Rect) (w : World) (hT0 : Tab w w [.gen (rdE (A) g o n 4 (rvals xs))]) (hfar : ∀ r ∈ xs, FarR r) (hn : n ≤ 262144) :
    Calls Try.prog 34 #[.slice A n cap] w fun e w' => e = .returned (.int .i64 (areaL xs)) ∧ Below w.heap.size w w' := by
  obtain ⟨hra, hrl⟩ := Rd.factsR (hT0.ok 0 _ rfl)
  refine enter 18 [(0, .slice A n cap)] [.gen (rdE (A) g o n 4 (rvals xs))] Try.func34 rfl Try.ntmps34 rfl (by kernel_rfl) hT0 ?_
  refine cont_seq ?_
  refine cont_region 1 rfl ?_
  refine bS [0] 1 0 [(0, .slice A n cap)] ?_
  refine cont_done ?_
  refine then_normal ?_
  refine cont_seq ?_
  refine cont_region 1 rfl ?_
  refine bS [0] 1 0 [(0, .slice A n cap), (3, .int .i64 0)] ?_
  refine cont_done ?_
  refine then_normal ?_
  refine cont_seq ?_
  refine cont_seq ?_
  refine cont_region 3 rfl ?_
  refine bS [0, 0, 0] 3 0 [(3, .int .i64 0), (6, .slice A n cap), (7, .int .i64 (n : Int)), (8, .int .i64 0)] ?_
  refine cont_done ?_
  refine then_normal ?_
  refine cont_block ?_
  refine cont_loop (α := Nat) (fun x_ : Nat => x_ ≤ n) (fun x_ : Nat => [(3, .int .i64 (areaL (xs.take x_))), (6, .slice A n cap), (7, .int .i64 (n : Int)), (8, .int .i64 (x_ : Int))]) (fun x_ : Nat => [.gen (rdE (A) g o n 4 (rvals xs))]) (fun x_ : Nat => n - x_) 0 (by omega) (by kernel_rfl) (by kernel_rfl) ?_
  rintro i hinv1_
  replace hinv1_ : i ≤ n := hinv1_
  refine cont_norm [(3, .int .i64 (areaL (xs.take i))), (6, .slice A n cap), (7, .int .i64 (n : Int)), (8, .int .i64 (i : Int))] [.gen (rdE (A) g o n 4 (rvals xs))] (by kernel_rfl) rfl ?_
  have hi := hinv1_
  have hb := areaL_far_take hfar (i := i) (by omega)
  have hF : i < n → FarR (rget xs i) := fun h_ => hfar _ (rget_mem (by omega))
  have hF2 : i < n → (0 ≤ areaI (rget xs i).x0 (rget xs i).y0 (rget xs i).x1 (rget xs i).y1 ∧ areaI (rget xs i).x0 (rget xs i).y0 (rget xs i).x1 (rget xs i).y1 ≤ 16000000000000) := fun h_ => areaI_far (hF h_)
  refine cont_seq ?_
  refine cont_region 1 rfl ?_
  refine bS [0] 1 0 [(3, .int .i64 (areaL (xs.take i))), (6, .slice A n cap), (7, .int .i64 (n : Int)), (8, .int .i64 (i : Int)), (9, .bool (decide ((i : Int) < (n : Int))))] ?_
  refine cont_done ?_
  refine then_normal ?_
  refine cont_seq ?_
  refine cont_split 9 (decide ((i : Int) < (n : Int))) rfl (fun c2_ => ?_) (fun c2_ => ?_)
  ·
    replace c2_ := of_decide_eq_true c2_
    refine cont_true rfl ?_
    refine cont_skip ?_
    refine then_normal ?_
    refine cont_seq ?_
    refine cont_block ?_
    refine cont_seq ?_
    refine cont_region 4 rfl ?_
    have hFi := hF (by omega)
    have hFi2 := hF2 (by omega)
    obtain ⟨⟨_, _⟩, ⟨_, _⟩, ⟨_, _⟩, ⟨_, _⟩⟩ := hFi
    refine pl_step 1 3 rfl rfl ?_
    refine cont_recast 6 (.slice A n cap) (.slice (some ⟨g, o, none⟩) n cap) rfl (by rw [hra (by omega)]) ?_
    refine sem_step 10 (Instr.indexAt 22 (.slice (some ⟨g, o, none⟩) n cap) (.int .i64 (i : Int))) (.pointer (some ⟨g, o + i * 4, none⟩)) (by kernel_rfl) (fun w hT => run_indexAt (e := 25) (sz := 4) _ (by kernel_rfl) (by kernel_rfl) (by omega) (by omega) (by omega) w) ?_
    refine pl_step 2 2 rfl rfl ?_
    refine sem_step 11 (Instr.loadAt 25 (.pointer (some ⟨g, o + i * 4, none⟩))) (.agg #[.int .i64 ((rget xs i).x0), .int .i64 ((rget xs i).y0), .int .i64 ((rget xs i).x1), .int .i64 ((rget xs i).y1)]) (by kernel_rfl) (fun w hT => run_loadN (m := 4) (cs := rcells (rget xs i)) (by kernel_rfl) (by kernel_rfl) rfl (Rd.rect (hT.ok 0 _ rfl) (by omega))) ?_
    refine batch1 [0, 0] 4 0 (fun b3 => [(3, .int .i64 (areaL (xs.take i))), (5, .pointer (some ⟨b3, 0, none⟩)), (6, .slice (some ⟨g, o, none⟩) n cap), (7, .int .i64 (n : Int)), (8, .int .i64 (i : Int))]) (fun b3 => [.cells b3 [.int .i64 ((rget xs i).x0), .int .i64 ((rget xs i).y0), .int .i64 ((rget xs i).x1), .int .i64 ((rget xs i).y1)] 25 true, .gen (rdE (A) g o n 4 (rvals xs))]) rfl rfl [3, 5, 6, 7, 8] (fun _ => rfl) (fun b3 => by kernel_rfl) (fun b3 => by kernel_rfl) (fun b3 => ?_)
    refine cont_done ?_
    refine then_normal ?_
    refine cont_region 5 rfl ?_
    refine bS [0, 0] 2 3 [(6, .slice (some ⟨g, o, none⟩) n cap), (7, .int .i64 (n : Int)), (8, .int .i64 (i : Int)), (12, .int .i64 (areaL (xs.take i))), (13, .agg #[.int .i64 ((rget xs i).x0), .int .i64 ((rget xs i).y0), .int .i64 ((rget xs i).x1), .int .i64 ((rget xs i).y1)])] ?_
    refine cont_forget 0 rfl ?_
    refine pl_step 3 2 rfl rfl ?_
    refine call_pure (d := 14) (.int .i64 (areaI ((rget xs i).x0) ((rget xs i).y0) ((rget xs i).x1) ((rget xs i).y1))) (by kernel_rfl) (fun w hT => rectArea ((rget xs i).x0) ((rget xs i).y0) ((rget xs i).x1) ((rget xs i).y1) w (by omega) (by omega) (by omega) (by omega)) ?_
    refine bS [0] 4 1 [(6, .slice (some ⟨g, o, none⟩) n cap), (7, .int .i64 (n : Int)), (8, .int .i64 (i : Int)), (15, .int .i64 (IntKind.i64.wrap ((areaL (xs.take i)) + (areaI ((rget xs i).x0) ((rget xs i).y0) ((rget xs i).x1) ((rget xs i).y1)))))] ?_
    refine cont_recast 15 (.int .i64 (IntKind.i64.wrap ((areaL (xs.take i)) + (areaI ((rget xs i).x0) ((rget xs i).y0) ((rget xs i).x1) ((rget xs i).y1))))) (.int .i64 ((areaL (xs.take i)) + (areaI ((rget xs i).x0) ((rget xs i).y0) ((rget xs i).x1) ((rget xs i).y1)))) rfl (wrapI (by omega) (by omega)) ?_
    refine bS [0] 5 0 [(3, .int .i64 ((areaL (xs.take i)) + (areaI ((rget xs i).x0) ((rget xs i).y0) ((rget xs i).x1) ((rget xs i).y1)))), (6, .slice (some ⟨g, o, none⟩) n cap), (7, .int .i64 (n : Int)), (8, .int .i64 (i : Int))] ?_
    refine cont_done ?_
    refine blk_normal ?_
    refine then_normal ?_
    refine cont_region 2 rfl ?_
    refine bS [0] 1 1 [(3, .int .i64 ((areaL (xs.take i)) + (areaI ((rget xs i).x0) ((rget xs i).y0) ((rget xs i).x1) ((rget xs i).y1)))), (6, .slice (some ⟨g, o, none⟩) n cap), (7, .int .i64 (n : Int)), (16, .int .i64 (IntKind.i64.wrap ((i : Int) + 1)))] ?_
    refine cont_recast 16 (.int .i64 (IntKind.i64.wrap ((i : Int) + 1))) (.int .i64 ((i : Int) + 1)) rfl (wrapI (by omega) (by omega)) ?_
    refine bS [0] 2 0 [(3, .int .i64 ((areaL (xs.take i)) + (areaI ((rget xs i).x0) ((rget xs i).y0) ((rget xs i).x1) ((rget xs i).y1)))), (6, .slice (some ⟨g, o, none⟩) n cap), (7, .int .i64 (n : Int)), (8, .int .i64 ((i : Int) + 1))] ?_
    refine cont_done ?_
    refine then_normal ?_
    refine cont_recast 6 (.slice (some ⟨g, o, none⟩) n cap) (.slice A n cap) rfl (by rw [hra (by omega)]) ?_
    refine cont_recast 3 (.int .i64 ((areaL (xs.take i)) + (areaI ((rget xs i).x0) ((rget xs i).y0) ((rget xs i).x1) ((rget xs i).y1)))) (.int .i64 (areaL (xs.take (i + 1)))) rfl (congrArg (Value.int .i64) ((areaL_take (by omega)).symm)) ?_
    refine cont_again (i + 1) (show (i + 1) ≤ n from (by omega)) (show n - (i + 1) < n - i from by omega) (by kernel_rfl) (by kernel_rfl)
  replace c2_ := of_decide_eq_false c2_
  refine cont_false rfl ?_
  refine cont_exit ?_
  refine then_exit ?_
  refine then_exit ?_
  refine blk_exit ?_
  refine then_normal ?_
  refine cont_seq ?_
  refine cont_region 2 rfl ?_
  refine bS [0, 0] 2 0 [(2, .int .i64 (areaL (xs.take i)))] ?_
  refine cont_done ?_
  refine then_normal ?_
  refine cont_ret ?_
  refine ret_one (.inl rfl) rfl 0 (.int .i64 (areaL (xs.take i))) (by kernel_rfl) (by kernel_rfl) (fun w hT => ?_)
  exact ⟨ret_int (by rw [show i = n by omega, List.take_of_length_le (by omega)]), hT.post rfl⟩

theorem refAreaL (A : Option Addr) (g o n cap : Nat) (xs : List Rect) (w : World) (hT0 : Tab w w [.gen (rdE (A) g o n 4 (rvals xs))]) (hfar : ∀ r ∈ xs, FarR r) (hn : n ≤ 262144) :
    Calls Try.prog 35 #[.slice A n cap] w fun e w' => e = .returned (.int .i64 (areaL xs)) ∧ Below w.heap.size w w' := by
  obtain ⟨hra, hrl⟩ := Rd.factsR (hT0.ok 0 _ rfl)
  refine enter 19 [(0, .slice A n cap)] [.gen (rdE (A) g o n 4 (rvals xs))] Try.func35 rfl Try.ntmps35 rfl (by kernel_rfl) hT0 ?_
  refine cont_seq ?_
  refine cont_region 1 rfl ?_
  refine bS [0] 1 0 [(0, .slice A n cap)] ?_
  refine cont_done ?_
  refine then_normal ?_
  refine cont_seq ?_
  refine cont_region 1 rfl ?_
  refine bS [0] 1 0 [(0, .slice A n cap), (3, .int .i64 0)] ?_
  refine cont_done ?_
  refine then_normal ?_
  refine cont_seq ?_
  refine cont_seq ?_
  refine cont_region 1 rfl ?_
  refine bS [0] 1 0 [(0, .slice A n cap), (3, .int .i64 0), (4, .int .i64 0)] ?_
  refine cont_done ?_
  refine then_normal ?_
  refine cont_block ?_
  refine cont_loop (α := Nat) (fun x_ : Nat => x_ ≤ n) (fun x_ : Nat => [(0, .slice A n cap), (3, .int .i64 (areaL (xs.take x_))), (4, .int .i64 (x_ : Int))]) (fun x_ : Nat => [.gen (rdE (A) g o n 4 (rvals xs))]) (fun x_ : Nat => n - x_) 0 (by omega) (by kernel_rfl) (by kernel_rfl) ?_
  rintro i hinv1_
  replace hinv1_ : i ≤ n := hinv1_
  refine cont_norm [(0, .slice A n cap), (3, .int .i64 (areaL (xs.take i))), (4, .int .i64 (i : Int))] [.gen (rdE (A) g o n 4 (rvals xs))] (by kernel_rfl) rfl ?_
  have hi := hinv1_
  have hb := areaL_far_take hfar (i := i) (by omega)
  have hF : i < n → FarR (rget xs i) := fun h_ => hfar _ (rget_mem (by omega))
  have hF2 : i < n → (0 ≤ areaI (rget xs i).x0 (rget xs i).y0 (rget xs i).x1 (rget xs i).y1 ∧ areaI (rget xs i).x0 (rget xs i).y0 (rget xs i).x1 (rget xs i).y1 ≤ 16000000000000) := fun h_ => areaI_far (hF h_)
  refine cont_seq ?_
  refine cont_seq ?_
  refine cont_region 4 rfl ?_
  refine bS [0, 0, 0, 0] 4 0 [(0, .slice A n cap), (3, .int .i64 (areaL (xs.take i))), (4, .int .i64 (i : Int)), (8, .bool (decide ((i : Int) < (n : Int))))] ?_
  refine cont_done ?_
  refine then_normal ?_
  refine cont_split 8 (decide ((i : Int) < (n : Int))) rfl (fun c2_ => ?_) (fun c2_ => ?_)
  ·
    replace c2_ := of_decide_eq_true c2_
    refine cont_true rfl ?_
    refine cont_skip ?_
    refine then_normal ?_
    refine cont_seq ?_
    refine cont_block ?_
    refine cont_region 8 rfl ?_
    have hFi := hF (by omega)
    have hFi2 := hF2 (by omega)
    obtain ⟨⟨_, _⟩, ⟨_, _⟩, ⟨_, _⟩, ⟨_, _⟩⟩ := hFi
    refine bS [0, 0, 0] 3 5 [(0, .slice A n cap), (4, .int .i64 (i : Int)), (11, .int .i64 (areaL (xs.take i))), (12, .slice A n cap), (13, .int .i64 (i : Int))] ?_
    refine pl_step 4 4 rfl rfl ?_
    refine cont_recast 12 (.slice A n cap) (.slice (some ⟨g, o, none⟩) n cap) rfl (by rw [hra (by omega)]) ?_
    refine sem_step 14 (Instr.indexAt 22 (.slice (some ⟨g, o, none⟩) n cap) (.int .i64 (i : Int))) (.pointer (some ⟨g, o + i * 4, none⟩)) (by kernel_rfl) (fun w hT => run_indexAt (e := 25) (sz := 4) _ (by kernel_rfl) (by kernel_rfl) (by omega) (by omega) (by omega) w) ?_
    refine pl_step 5 3 rfl rfl ?_
    refine sem_step 15 (Instr.loadAt 25 (.pointer (some ⟨g, o + i * 4, none⟩))) (.agg #[.int .i64 ((rget xs i).x0), .int .i64 ((rget xs i).y0), .int .i64 ((rget xs i).x1), .int .i64 ((rget xs i).y1)]) (by kernel_rfl) (fun w hT => run_loadN (m := 4) (cs := rcells (rget xs i)) (by kernel_rfl) (by kernel_rfl) rfl (Rd.rect (hT.ok 0 _ rfl) (by omega))) ?_
    refine pl_step 6 2 rfl rfl ?_
    refine call_pure (d := 16) (.int .i64 (areaI ((rget xs i).x0) ((rget xs i).y0) ((rget xs i).x1) ((rget xs i).y1))) (by kernel_rfl) (fun w hT => refArea1 ((rget xs i).x0) ((rget xs i).y0) ((rget xs i).x1) ((rget xs i).y1) w (by omega) (by omega) (by omega) (by omega)) ?_
    refine bS [0] 7 1 [(0, .slice A n cap), (4, .int .i64 (i : Int)), (17, .int .i64 (IntKind.i64.wrap ((areaL (xs.take i)) + (areaI ((rget xs i).x0) ((rget xs i).y0) ((rget xs i).x1) ((rget xs i).y1)))))] ?_
    refine cont_recast 17 (.int .i64 (IntKind.i64.wrap ((areaL (xs.take i)) + (areaI ((rget xs i).x0) ((rget xs i).y0) ((rget xs i).x1) ((rget xs i).y1))))) (.int .i64 ((areaL (xs.take i)) + (areaI ((rget xs i).x0) ((rget xs i).y0) ((rget xs i).x1) ((rget xs i).y1)))) rfl (wrapI (by omega) (by omega)) ?_
    refine bS [0] 8 0 [(0, .slice A n cap), (3, .int .i64 ((areaL (xs.take i)) + (areaI ((rget xs i).x0) ((rget xs i).y0) ((rget xs i).x1) ((rget xs i).y1)))), (4, .int .i64 (i : Int))] ?_
    refine cont_done ?_
    refine blk_normal ?_
    refine then_normal ?_
    refine cont_region 3 rfl ?_
    refine bS [0, 0] 2 1 [(0, .slice A n cap), (3, .int .i64 ((areaL (xs.take i)) + (areaI ((rget xs i).x0) ((rget xs i).y0) ((rget xs i).x1) ((rget xs i).y1)))), (10, .int .i64 (IntKind.i64.wrap ((i : Int) + 1)))] ?_
    refine cont_recast 10 (.int .i64 (IntKind.i64.wrap ((i : Int) + 1))) (.int .i64 ((i : Int) + 1)) rfl (wrapI (by omega) (by omega)) ?_
    refine bS [0] 3 0 [(0, .slice A n cap), (3, .int .i64 ((areaL (xs.take i)) + (areaI ((rget xs i).x0) ((rget xs i).y0) ((rget xs i).x1) ((rget xs i).y1)))), (4, .int .i64 ((i : Int) + 1))] ?_
    refine cont_done ?_
    refine then_normal ?_
    refine cont_recast 3 (.int .i64 ((areaL (xs.take i)) + (areaI ((rget xs i).x0) ((rget xs i).y0) ((rget xs i).x1) ((rget xs i).y1)))) (.int .i64 (areaL (xs.take (i + 1)))) rfl (congrArg (Value.int .i64) ((areaL_take (by omega)).symm)) ?_
    refine cont_again (i + 1) (show (i + 1) ≤ n from (by omega)) (show n - (i + 1) < n - i from by omega) (by kernel_rfl) (by kernel_rfl)
  replace c2_ := of_decide_eq_false c2_
  refine cont_false rfl ?_
  refine cont_exit ?_
  refine then_exit ?_
  refine then_exit ?_
  refine blk_exit ?_
  refine then_normal ?_
  refine cont_seq ?_
  refine cont_region 2 rfl ?_
  refine bS [0, 0] 2 0 [(2, .int .i64 (areaL (xs.take i)))] ?_
  refine cont_done ?_
  refine then_normal ?_
  refine cont_ret ?_
  refine ret_one (.inl rfl) rfl 0 (.int .i64 (areaL (xs.take i))) (by kernel_rfl) (by kernel_rfl) (fun w hT => ?_)
  exact ⟨ret_int (by rw [show i = n by omega, List.take_of_length_le (by omega)]), hT.post rfl⟩

theorem lives2 (w : World) :
    Calls Try.prog 16 #[] w fun e w' => e = .returned (.bool true) ∧ Below w.heap.size w w' := by
  refine enter 10 [] [] Try.func16 rfl Try.ntmps16 rfl (by kernel_rfl) (Tab.start w) ?_
  refine cont_seq ?_
  refine cont_region 1 rfl ?_
  refine bS [0] 1 0 [] ?_
  refine cont_done ?_
  refine then_normal ?_
  refine cont_seq ?_
  refine cont_region 5 rfl ?_
  refine batch1 [0, 0, 0] 3 2 (fun b1 => [(4, .slice (some ⟨b1, 0, none⟩) 2 2)]) (fun b1 => [.cells b1 [.int .i64 0, .int .i64 0, .int .i64 2, .int .i64 2, .int .i64 2, .int .i64 0, .int .i64 4, .int .i64 2] 25 true]) rfl rfl [4] (fun _ => rfl) (fun b1 => by kernel_rfl) (fun b1 => by kernel_rfl) (fun b1 => ?_)
  refine pl_step 4 1 rfl rfl ?_
  refine cont_asRow 0 2 4 rfl (vals := rvals [(⟨0, 0, 2, 2⟩ : Rect), (⟨2, 0, 4, 2⟩ : Rect)]) rfl rfl (by decide) ?_
  refine call_gen (d := 5) (α := Option Addr × Nat × Nat × Nat) (fun x_ => .slice x_.1 x_.2.2.1 x_.2.2.2) (fun x_ => [.gen (rowE (x_.1) x_.2.1 x_.2.2.1 x_.2.2.2 25 4 (rvals (canR [(⟨0, 0, 2, 2⟩ : Rect), (⟨2, 0, 4, 2⟩ : Rect)])) true), .gen (rowE (some ⟨b1, 0, none⟩) b1 2 2 25 4 (rvals [(⟨0, 0, 2, 2⟩ : Rect), (⟨2, 0, 4, 2⟩ : Rect)]) true)]) (fun x_ => True) (by kernel_rfl) (fun w hT => (regOf (some ⟨b1, 0, none⟩) b1 0 2 2 [(⟨0, 0, 2, 2⟩ : Rect), (⟨2, 0, 4, 2⟩ : Rect)] w (hT.viewRo (.cons (i := 0) rfl Vw.rowRd .nil) rfl) (by omega)).mono fun e w' ⟨A2, g3, k4, cp5, he_, ht_⟩ => ⟨(A2, g3, k4, cp5), he_, trivial, hT.news ht_ rfl⟩) ?_
  rintro ⟨A2, g3, k4, cp5⟩ hf6_
  refine cont_norm [(4, .slice (some ⟨b1, 0, none⟩) 2 2), (5, .slice A2 k4 cp5)] [.gen (rowE (A2) g3 k4 cp5 25 4 (rvals (canR [(⟨0, 0, 2, 2⟩ : Rect), (⟨2, 0, 4, 2⟩ : Rect)])) true), .gen (rowE (some ⟨b1, 0, none⟩) b1 2 2 25 4 (rvals [(⟨0, 0, 2, 2⟩ : Rect), (⟨2, 0, 4, 2⟩ : Rect)]) true)] (by kernel_rfl) rfl ?_
  refine cont_fact (F := (0 < k4 → (A2 : Option Addr) = some ⟨g3, 0, none⟩) ∧ (canR [(⟨0, 0, 2, 2⟩ : Rect), (⟨2, 0, 4, 2⟩ : Rect)]).length = k4 ∧ k4 ≤ cp5 ∧ cp5 ≤ maxLen) (fun w hT => Row.factsR (hT.ok 0 _ rfl)) (fun hr7_ => ?_)
  obtain ⟨hr7_a, hr7_l, hr7_c, hr7_m⟩ := hr7_
  unfold maxLen at hr7_m
  refine bS [0] 5 0 [(1, .slice A2 k4 cp5)] ?_
  refine cont_done ?_
  refine then_normal ?_
  refine cont_seq ?_
  refine cont_region 5 rfl ?_
  have hlv : (canR [(⟨0, 0, 2, 2⟩ : Rect), (⟨2, 0, 4, 2⟩ : Rect)]).length = 1 := by rw [lives2_eq]; rfl
  refine batch1 [0, 0, 0] 3 2 (fun b8 => [(6, .slice A2 k4 cp5), (8, .slice (some ⟨b8, 0, none⟩) 1 1)]) (fun b8 => [.cells b8 [.int .i64 0, .int .i64 0, .int .i64 4, .int .i64 2] 25 true, .gen (rowE (A2) g3 k4 cp5 25 4 (rvals (canR [(⟨0, 0, 2, 2⟩ : Rect), (⟨2, 0, 4, 2⟩ : Rect)])) true), .gen (rowE (some ⟨b1, 0, none⟩) b1 2 2 25 4 (rvals [(⟨0, 0, 2, 2⟩ : Rect), (⟨2, 0, 4, 2⟩ : Rect)]) true)]) rfl rfl [6, 8] (fun _ => rfl) (fun b8 => by kernel_rfl) (fun b8 => by kernel_rfl) (fun b8 => ?_)
  refine pl_step 4 1 rfl rfl ?_
  refine cont_asRow 0 1 4 rfl (vals := rvals [(⟨0, 0, 4, 2⟩ : Rect)]) rfl rfl (by decide) ?_
  refine call_pure (d := 9) (.bool (decide ((canR [(⟨0, 0, 2, 2⟩ : Rect), (⟨2, 0, 4, 2⟩ : Rect)]) = [(⟨0, 0, 4, 2⟩ : Rect)]))) (by kernel_rfl) (fun w hT => refSame A2 g3 0 k4 cp5 (canR [(⟨0, 0, 2, 2⟩ : Rect), (⟨2, 0, 4, 2⟩ : Rect)]) (some ⟨b8, 0, none⟩) b8 0 1 1 [(⟨0, 0, 4, 2⟩ : Rect)] w (hT.viewRo (.cons (i := 1) rfl Vw.rowRd (.cons (i := 0) rfl Vw.rowRd .nil)) rfl) (by omega)) ?_
  refine bS [0] 5 0 [(0, .bool (decide ((canR [(⟨0, 0, 2, 2⟩ : Rect), (⟨2, 0, 4, 2⟩ : Rect)]) = [(⟨0, 0, 4, 2⟩ : Rect)])))] ?_
  refine cont_done ?_
  refine then_normal ?_
  refine cont_ret ?_
  refine ret_one (.inl rfl) rfl 0 (.bool (decide ((canR [(⟨0, 0, 2, 2⟩ : Rect), (⟨2, 0, 4, 2⟩ : Rect)]) = [(⟨0, 0, 4, 2⟩ : Rect)]))) (by kernel_rfl) (by kernel_rfl) (fun w hT => ?_)
  exact ⟨ret_bool (decide_eq_true lives2_eq), hT.post rfl⟩

end Go.Proofs.Ytimpjdfflffcfaa
