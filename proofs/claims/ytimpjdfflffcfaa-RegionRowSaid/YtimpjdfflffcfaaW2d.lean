/- Contracts of functions of the given program, printed by a program of this project. -/
import Derived.Test.YtimpjdfflffcfaaL2e
import Derived.Test.YtimpjdfflffcfaaProg
set_option linter.unusedVariables false
set_option linter.unusedSimpArgs false
namespace Go.Proofs.Ytimpjdfflffcfaa
open Go Go.RowKit
set_option maxRecDepth 100000
set_option maxHeartbeats 8000000

theorem walkRegionRow (A : Option Addr) (g o n cap : Nat) (xs : List Rect) (w : World) (hr : Rd w A g o n 4 (rvals xs)) (hl : xs.length = n) (hc : n ≤ cap) (hm : cap ≤ maxLen) (hx : ∀ r ∈ xs, R64 r) :
    Calls Try.prog 3 #[.slice A n cap] w fun e w' => e = .returned (.bool true) ∧ Below w.heap.size w w' := by
  unfold maxLen at hm
  refine enter 46 [(0, .slice A n cap)] [.gen (rdE (A) g o n 4 (rvals xs))] Try.func3 rfl Try.ntmps3 rfl (by kernel_rfl) hr.tab ?_
  refine cont_seq ?_
  refine cont_region 1 rfl ?_
  refine batch0 [0] 1 0 [(0, .slice A n cap)] [.gen (rdE (A) g o n 4 (rvals xs))] rfl rfl (by kernel_rfl) (by kernel_rfl) ?_
  refine cont_done ?_
  refine then_normal ?_
  refine cont_seq ?_
  refine cont_region 3 rfl ?_
  refine batch0 [0] 1 2 [(7, .slice A n cap)] [.gen (rdE (A) g o n 4 (rvals xs))] rfl rfl (by kernel_rfl) (by kernel_rfl) ?_
  refine pl_step 2 1 rfl rfl ?_
  refine call_gen (d := 8) (α := Option Addr × Nat × Nat × Nat) (fun x_ => .slice x_.1 x_.2.2.1 x_.2.2.2) (fun x_ => [.gen (rowE (x_.1) x_.2.1 x_.2.2.1 x_.2.2.2 25 4 (rvals (smallL xs 7)) true), .gen (rdE (A) g o n 4 (rvals xs))]) (fun x_ => True) (by kernel_rfl) (fun w hT => (refSmallL A g o n cap xs 7 w (hT.viewRo (.cons (i := 0) rfl Vw.rd .nil) rfl) hx (by omega)).mono fun e w' ⟨A1, g2, k3, cp4, he_, ht_⟩ => ⟨(A1, g2, k3, cp4), he_, trivial, hT.news ht_ rfl⟩) ?_
  rintro ⟨A1, g2, k3, cp4⟩ hf5_
  refine cont_norm [(7, .slice A n cap), (8, .slice A1 k3 cp4)] [.gen (rowE (A1) g2 k3 cp4 25 4 (rvals (smallL xs 7)) true), .gen (rdE (A) g o n 4 (rvals xs))] (by kernel_rfl) rfl ?_
  refine cont_fact (F := (0 < k3 → (A1 : Option Addr) = some ⟨g2, 0, none⟩) ∧ (smallL xs 7).length = k3 ∧ k3 ≤ cp4 ∧ cp4 ≤ maxLen) (fun w hT => Row.factsR (hT.ok 0 _ rfl)) (fun hr6_ => ?_)
  obtain ⟨hr6_a, hr6_l, hr6_c, hr6_m⟩ := hr6_
  unfold maxLen at hr6_m
  have hsl7_ := smallL_length xs 7
  refine batch0 [0] 3 0 [(3, .slice A1 k3 cp4)] [.gen (rowE (A1) g2 k3 cp4 25 4 (rvals (smallL xs 7)) true), .gen (rdE (A) g o n 4 (rvals xs))] rfl rfl (by kernel_rfl) (by kernel_rfl) ?_
  refine cont_done ?_
  refine then_normal ?_
  refine cont_seq ?_
  refine cont_region 1 rfl ?_
  obtain ⟨G, hG⟩ : ∃ y_ : List Rect, y_ = (smallL xs 7) := ⟨_, rfl⟩
  refine cont_rowEqR 0 (smallL xs 7) (G) rfl hG.symm ?_
  refine cont_fact (F := (0 < k3 → (A1 : Option Addr) = some ⟨g2, 0, none⟩) ∧ G.length = k3 ∧ k3 ≤ cp4 ∧ cp4 ≤ maxLen) (fun w hT => Row.factsR (hT.ok 0 _ rfl)) (fun hr8_ => ?_)
  obtain ⟨hr8_a, hr8_l, hr8_c, hr8_m⟩ := hr8_
  unfold maxLen at hr8_m
  have hG7 : G.length ≤ 7 := by rw [hG]; exact smallL_length _ _
  refine batch0 [0] 1 0 [(3, .slice A1 k3 cp4), (4, .slice none 0 0)] [.gen (rowE (A1) g2 k3 cp4 25 4 (rvals G) true), .gen (rdE (A) g o n 4 (rvals xs))] rfl rfl (by kernel_rfl) (by kernel_rfl) ?_
  refine cont_done ?_
  refine then_normal ?_
  refine cont_seq ?_
  refine cont_seq ?_
  refine cont_region 4 rfl ?_
  refine batch0 [0, 0, 0] 3 1 [(3, .slice A1 k3 cp4), (4, .slice none 0 0), (11, .int .i64 (IntKind.i64.wrap ((k3 : Int) - 1)))] [.gen (rowE (A1) g2 k3 cp4 25 4 (rvals G) true), .gen (rdE (A) g o n 4 (rvals xs))] rfl rfl (by kernel_rfl) (by kernel_rfl) ?_
  refine cont_recast 11 (.int .i64 (IntKind.i64.wrap ((k3 : Int) - 1))) (.int .i64 ((k3 : Int) - 1)) rfl (wrapI (by omega) (by omega)) ?_
  refine batch0 [0] 4 0 [(3, .slice A1 k3 cp4), (4, .slice none 0 0), (5, .int .i64 ((k3 : Int) - 1))] [.gen (rowE (A1) g2 k3 cp4 25 4 (rvals G) true), .gen (rdE (A) g o n 4 (rvals xs))] rfl rfl (by kernel_rfl) (by kernel_rfl) ?_
  refine cont_done ?_
  refine then_normal ?_
  refine cont_block ?_
  refine cont_nilrow 25 4 ?_
  refine cont_norm [(3, .slice A1 k3 cp4), (4, .slice none 0 0), (5, .int .i64 ((k3 : Int) - 1))] [.gen (rowE (none) 0 0 0 25 4 (rvals []) true), .gen (rowE (A1) g2 k3 cp4 25 4 (rvals G) true), .gen (rdE (A) g o n 4 (rvals xs))] (by kernel_rfl) rfl ?_
  refine cont_rowEqR 0 ([]) (backL G 0) rfl rfl ?_
  refine cont_recast 5 (.int .i64 ((k3 : Int) - 1)) (.int .i64 ((k3 : Int) - 1 - ((0 : Nat) : Int))) rfl (congrArg (Value.int .i64) (by omega)) ?_
  refine cont_loop (α := Nat × Nat × Option Addr × Nat × Nat) (fun x_ : Nat × Nat × Option Addr × Nat × Nat => x_.1 ≤ k3 ∧ x_.2.1 ≤ 2 * x_.1) (fun x_ : Nat × Nat × Option Addr × Nat × Nat => [(3, .slice A1 k3 cp4), (4, .slice x_.2.2.1 x_.2.1 x_.2.2.2.2), (5, .int .i64 ((k3 : Int) - 1 - ((x_.1 : Nat) : Int)))]) (fun x_ : Nat × Nat × Option Addr × Nat × Nat => [.gen (rowE (x_.2.2.1) x_.2.2.2.1 x_.2.1 x_.2.2.2.2 25 4 (rvals (backL G x_.1)) true), .gen (rowE (A1) g2 k3 cp4 25 4 (rvals G) true), .gen (rdE (A) g o n 4 (rvals xs))]) (fun x_ : Nat × Nat × Option Addr × Nat × Nat => k3 - x_.1) (0, 0, none, 0, 0) (show (0) ≤ k3 ∧ (0) ≤ 2 * (0) from ⟨by omega, by omega⟩) (by kernel_rfl) (by kernel_rfl) ?_
  rintro ⟨j, kq, Aq, gq, cq⟩ hinv10_
  replace hinv10_ : j ≤ k3 ∧ kq ≤ 2 * j := hinv10_
  refine cont_norm [(3, .slice A1 k3 cp4), (4, .slice Aq kq cq), (5, .int .i64 ((k3 : Int) - 1 - ((j : Nat) : Int)))] [.gen (rowE (Aq) gq kq cq 25 4 (rvals (backL G j)) true), .gen (rowE (A1) g2 k3 cp4 25 4 (rvals G) true), .gen (rdE (A) g o n 4 (rvals xs))] (by kernel_rfl) rfl ?_
  obtain ⟨hj, hkq⟩ := hinv10_
  refine cont_seq ?_
  refine cont_seq ?_
  refine cont_region 2 rfl ?_
  refine batch0 [0, 0] 2 0 [(3, .slice A1 k3 cp4), (4, .slice Aq kq cq), (5, .int .i64 ((k3 : Int) - 1 - ((j : Nat) : Int))), (13, .bool (decide (((k3 : Int) - 1 - ((j : Nat) : Int)) ≥ 0)))] [.gen (rowE (Aq) gq kq cq 25 4 (rvals (backL G j)) true), .gen (rowE (A1) g2 k3 cp4 25 4 (rvals G) true), .gen (rdE (A) g o n 4 (rvals xs))] rfl rfl (by kernel_rfl) (by kernel_rfl) ?_
  refine cont_done ?_
  refine then_normal ?_
  refine cont_split 13 (decide (((k3 : Int) - 1 - ((j : Nat) : Int)) ≥ 0)) rfl (fun c11_ => ?_) (fun c11_ => ?_)
  ·
    replace c11_ := of_decide_eq_true c11_
    refine cont_true rfl ?_
    refine cont_skip ?_
    refine then_normal ?_
    refine cont_seq ?_
    refine cont_block ?_
    refine drawn_enter 12 [0] rfl (by kernel_rfl) ?_
    refine takes 0 [0] [(0, 0), (1, 0), (2, 0), (5, 0), (6, 0)] 7 [6, 5, 2, 1, 0] [(3, .slice A1 k3 cp4), (4, .slice Aq kq cq), (5, .int .i64 ((k3 : Int) - 1 - ((j : Nat) : Int))), (16, .slice Aq kq cq), (17, .slice A1 k3 cp4), (18, .int .i64 ((k3 : Int) - 1 - ((j : Nat) : Int))), (21, .slice A1 k3 cp4), (22, .int .i64 ((k3 : Int) - 1 - ((j : Nat) : Int)))] (by kernel_rfl) (pok_blk (pok_then (pok_then (pok_blk (pok_then pok_body))))) (by kernel_rfl) rfl rfl (by kernel_rfl) (by kernel_rfl) ?_
    refine cont_recast 17 (.slice A1 k3 cp4) (.slice (some ⟨g2, 0, none⟩) k3 cp4) rfl (by rw [hr8_a (by omega)]) ?_
    refine sem_take 0 [0] 3 6 19 (Instr.indexAt 22 (.slice (some ⟨g2, 0, none⟩) k3 cp4) (.int .i64 ((k3 : Int) - 1 - ((j : Nat) : Int)))) (.pointer (some ⟨g2, (Int.toNat ((k3 : Int) - 1 - ((j : Nat) : Int))) * 4, none⟩)) (by kernel_rfl) (pok_blk (pok_then (pok_then (pok_blk (pok_then pok_body))))) (by kernel_rfl) rfl (by kernel_rfl) (by kernel_rfl) (fun w hT => run_indexAt (e := 25) (sz := 4) _ (by kernel_rfl) (by kernel_rfl) (by omega) (by omega) (by omega) w) ?_
    refine sem_take 0 [0] 4 5 20 (Instr.loadAt 25 (.pointer (some ⟨g2, (Int.toNat ((k3 : Int) - 1 - ((j : Nat) : Int))) * 4, none⟩))) (.agg #[.int .i64 ((rget G (Int.toNat ((k3 : Int) - 1 - ((j : Nat) : Int)))).x0), .int .i64 ((rget G (Int.toNat ((k3 : Int) - 1 - ((j : Nat) : Int)))).y0), .int .i64 ((rget G (Int.toNat ((k3 : Int) - 1 - ((j : Nat) : Int)))).x1), .int .i64 ((rget G (Int.toNat ((k3 : Int) - 1 - ((j : Nat) : Int)))).y1)]) (by kernel_rfl) (pok_blk (pok_then (pok_then (pok_blk (pok_then pok_body))))) (by kernel_rfl) rfl (by kernel_rfl) (by kernel_rfl) (fun w hT => run_loadN (m := 4) (cs := rcells (rget G (Int.toNat ((k3 : Int) - 1 - ((j : Nat) : Int))))) (by kernel_rfl) (by kernel_rfl) rfl (Rd.rect0 (Row.rd (hT 1 _ rfl)) (by omega))) ?_
    refine cont_recast 21 (.slice A1 k3 cp4) (.slice (some ⟨g2, 0, none⟩) k3 cp4) rfl (by rw [hr8_a (by omega)]) ?_
    refine sem_take 0 [0] 7 4 23 (Instr.indexAt 22 (.slice (some ⟨g2, 0, none⟩) k3 cp4) (.int .i64 ((k3 : Int) - 1 - ((j : Nat) : Int)))) (.pointer (some ⟨g2, (Int.toNat ((k3 : Int) - 1 - ((j : Nat) : Int))) * 4, none⟩)) (by kernel_rfl) (pok_blk (pok_then (pok_then (pok_blk (pok_then pok_body))))) (by kernel_rfl) rfl (by kernel_rfl) (by kernel_rfl) (fun w hT => run_indexAt (e := 25) (sz := 4) _ (by kernel_rfl) (by kernel_rfl) (by omega) (by omega) (by omega) w) ?_
    refine sem_take 0 [0] 8 3 24 (Instr.loadAt 25 (.pointer (some ⟨g2, (Int.toNat ((k3 : Int) - 1 - ((j : Nat) : Int))) * 4, none⟩))) (.agg #[.int .i64 ((rget G (Int.toNat ((k3 : Int) - 1 - ((j : Nat) : Int)))).x0), .int .i64 ((rget G (Int.toNat ((k3 : Int) - 1 - ((j : Nat) : Int)))).y0), .int .i64 ((rget G (Int.toNat ((k3 : Int) - 1 - ((j : Nat) : Int)))).x1), .int .i64 ((rget G (Int.toNat ((k3 : Int) - 1 - ((j : Nat) : Int)))).y1)]) (by kernel_rfl) (pok_blk (pok_then (pok_then (pok_blk (pok_then pok_body))))) (by kernel_rfl) rfl (by kernel_rfl) (by kernel_rfl) (fun w hT => run_loadN (m := 4) (cs := rcells (rget G (Int.toNat ((k3 : Int) - 1 - ((j : Nat) : Int))))) (by kernel_rfl) (by kernel_rfl) rfl (Rd.rect0 (Row.rd (hT 1 _ rfl)) (by omega))) ?_
    refine drawn_one 9 2 rfl (by kernel_rfl) ?_
    refine one_step1 0 (fun b12 => [(3, .slice A1 k3 cp4), (4, .slice Aq kq cq), (5, .int .i64 ((k3 : Int) - 1 - ((j : Nat) : Int))), (16, .slice Aq kq cq), (25, .slice (some ⟨b12, 0, none⟩) 2 2)]) (fun b12 => [.cells b12 [.int .i64 ((rget G (Int.toNat ((k3 : Int) - 1 - ((j : Nat) : Int)))).x0), .int .i64 ((rget G (Int.toNat ((k3 : Int) - 1 - ((j : Nat) : Int)))).y0), .int .i64 ((rget G (Int.toNat ((k3 : Int) - 1 - ((j : Nat) : Int)))).x1), .int .i64 ((rget G (Int.toNat ((k3 : Int) - 1 - ((j : Nat) : Int)))).y1), .int .i64 ((rget G (Int.toNat ((k3 : Int) - 1 - ((j : Nat) : Int)))).x0), .int .i64 ((rget G (Int.toNat ((k3 : Int) - 1 - ((j : Nat) : Int)))).y0), .int .i64 ((rget G (Int.toNat ((k3 : Int) - 1 - ((j : Nat) : Int)))).x1), .int .i64 ((rget G (Int.toNat ((k3 : Int) - 1 - ((j : Nat) : Int)))).y1)] 25 true, .gen (rowE (Aq) gq kq cq 25 4 (rvals (backL G j)) true), .gen (rowE (A1) g2 k3 cp4 25 4 (rvals G) true), .gen (rdE (A) g o n 4 (rvals xs))]) (fun b12 => by kernel_rfl) (fun b12 => by kernel_rfl) (fun b12 => ?_)
    refine drawn_next 1 [0] (by kernel_rfl) ?_
    refine drawn_one 10 1 rfl (by kernel_rfl) ?_
    refine sem_stepW (α := Option Addr × Nat × Nat) 26 (Builtin.append_ #[22, 22] 22 #[.slice Aq kq cq, .slice (some ⟨b12, 0, none⟩) 2 2]) (fun x_ => .slice x_.1 (kq + 2) x_.2.2) (fun x_ => [.cells b12 [.int .i64 ((rget G (Int.toNat ((k3 : Int) - 1 - ((j : Nat) : Int)))).x0), .int .i64 ((rget G (Int.toNat ((k3 : Int) - 1 - ((j : Nat) : Int)))).y0), .int .i64 ((rget G (Int.toNat ((k3 : Int) - 1 - ((j : Nat) : Int)))).x1), .int .i64 ((rget G (Int.toNat ((k3 : Int) - 1 - ((j : Nat) : Int)))).y1), .int .i64 ((rget G (Int.toNat ((k3 : Int) - 1 - ((j : Nat) : Int)))).x0), .int .i64 ((rget G (Int.toNat ((k3 : Int) - 1 - ((j : Nat) : Int)))).y0), .int .i64 ((rget G (Int.toNat ((k3 : Int) - 1 - ((j : Nat) : Int)))).x1), .int .i64 ((rget G (Int.toNat ((k3 : Int) - 1 - ((j : Nat) : Int)))).y1)] 25 true, .gen (rowE (x_.1) x_.2.1 (kq + 2) x_.2.2 25 4 (rvals ((backL G j) ++ [(⟨(rget G (Int.toNat ((k3 : Int) - 1 - ((j : Nat) : Int)))).x0, (rget G (Int.toNat ((k3 : Int) - 1 - ((j : Nat) : Int)))).y0, (rget G (Int.toNat ((k3 : Int) - 1 - ((j : Nat) : Int)))).x1, (rget G (Int.toNat ((k3 : Int) - 1 - ((j : Nat) : Int)))).y1⟩ : Rect), (⟨(rget G (Int.toNat ((k3 : Int) - 1 - ((j : Nat) : Int)))).x0, (rget G (Int.toNat ((k3 : Int) - 1 - ((j : Nat) : Int)))).y0, (rget G (Int.toNat ((k3 : Int) - 1 - ((j : Nat) : Int)))).x1, (rget G (Int.toNat ((k3 : Int) - 1 - ((j : Nat) : Int)))).y1⟩ : Rect)])) true), .gen (rowE (A1) g2 k3 cp4 25 4 (rvals G) true), .gen (rdE (A) g o n 4 (rvals xs))]) (fun _ => True) (by kernel_rfl) (fun w hT => append_own (n' := (kq + 2)) (z := .agg #[.int .i64 0, .int .i64 0, .int .i64 0, .int .i64 0]) hT (i := 1) (bytes := 32) rfl (by kernel_rfl) (by kernel_rfl) rfl (by decide) (by decide) (Rd.ofCells (vals := rvals [(⟨(rget G (Int.toNat ((k3 : Int) - 1 - ((j : Nat) : Int)))).x0, (rget G (Int.toNat ((k3 : Int) - 1 - ((j : Nat) : Int)))).y0, (rget G (Int.toNat ((k3 : Int) - 1 - ((j : Nat) : Int)))).x1, (rget G (Int.toNat ((k3 : Int) - 1 - ((j : Nat) : Int)))).y1⟩ : Rect), (⟨(rget G (Int.toNat ((k3 : Int) - 1 - ((j : Nat) : Int)))).x0, (rget G (Int.toNat ((k3 : Int) - 1 - ((j : Nat) : Int)))).y0, (rget G (Int.toNat ((k3 : Int) - 1 - ((j : Nat) : Int)))).x1, (rget G (Int.toNat ((k3 : Int) - 1 - ((j : Nat) : Int)))).y1⟩ : Rect)]) (hT.ok 0 _ rfl) rfl rfl) (rvals_one [(⟨(rget G (Int.toNat ((k3 : Int) - 1 - ((j : Nat) : Int)))).x0, (rget G (Int.toNat ((k3 : Int) - 1 - ((j : Nat) : Int)))).y0, (rget G (Int.toNat ((k3 : Int) - 1 - ((j : Nat) : Int)))).x1, (rget G (Int.toNat ((k3 : Int) - 1 - ((j : Nat) : Int)))).y1⟩ : Rect), (⟨(rget G (Int.toNat ((k3 : Int) - 1 - ((j : Nat) : Int)))).x0, (rget G (Int.toNat ((k3 : Int) - 1 - ((j : Nat) : Int)))).y0, (rget G (Int.toNat ((k3 : Int) - 1 - ((j : Nat) : Int)))).x1, (rget G (Int.toNat ((k3 : Int) - 1 - ((j : Nat) : Int)))).y1⟩ : Rect)]) (by omega) (rvals_append (backL G j) [(⟨(rget G (Int.toNat ((k3 : Int) - 1 - ((j : Nat) : Int)))).x0, (rget G (Int.toNat ((k3 : Int) - 1 - ((j : Nat) : Int)))).y0, (rget G (Int.toNat ((k3 : Int) - 1 - ((j : Nat) : Int)))).x1, (rget G (Int.toNat ((k3 : Int) - 1 - ((j : Nat) : Int)))).y1⟩ : Rect), (⟨(rget G (Int.toNat ((k3 : Int) - 1 - ((j : Nat) : Int)))).x0, (rget G (Int.toNat ((k3 : Int) - 1 - ((j : Nat) : Int)))).y0, (rget G (Int.toNat ((k3 : Int) - 1 - ((j : Nat) : Int)))).x1, (rget G (Int.toNat ((k3 : Int) - 1 - ((j : Nat) : Int)))).y1⟩ : Rect)]) rfl) ?_
    rintro ⟨A13, g13, cp13⟩ -
    refine cont_norm [(3, .slice A1 k3 cp4), (4, .slice Aq kq cq), (5, .int .i64 ((k3 : Int) - 1 - ((j : Nat) : Int))), (16, .slice Aq kq cq), (25, .slice (some ⟨b12, 0, none⟩) 2 2), (26, .slice A13 (kq + 2) cp13)] [.cells b12 [.int .i64 ((rget G (Int.toNat ((k3 : Int) - 1 - ((j : Nat) : Int)))).x0), .int .i64 ((rget G (Int.toNat ((k3 : Int) - 1 - ((j : Nat) : Int)))).y0), .int .i64 ((rget G (Int.toNat ((k3 : Int) - 1 - ((j : Nat) : Int)))).x1), .int .i64 ((rget G (Int.toNat ((k3 : Int) - 1 - ((j : Nat) : Int)))).y1), .int .i64 ((rget G (Int.toNat ((k3 : Int) - 1 - ((j : Nat) : Int)))).x0), .int .i64 ((rget G (Int.toNat ((k3 : Int) - 1 - ((j : Nat) : Int)))).y0), .int .i64 ((rget G (Int.toNat ((k3 : Int) - 1 - ((j : Nat) : Int)))).x1), .int .i64 ((rget G (Int.toNat ((k3 : Int) - 1 - ((j : Nat) : Int)))).y1)] 25 true, .gen (rowE (A13) g13 (kq + 2) cp13 25 4 (rvals ((backL G j) ++ [(⟨(rget G (Int.toNat ((k3 : Int) - 1 - ((j : Nat) : Int)))).x0, (rget G (Int.toNat ((k3 : Int) - 1 - ((j : Nat) : Int)))).y0, (rget G (Int.toNat ((k3 : Int) - 1 - ((j : Nat) : Int)))).x1, (rget G (Int.toNat ((k3 : Int) - 1 - ((j : Nat) : Int)))).y1⟩ : Rect), (⟨(rget G (Int.toNat ((k3 : Int) - 1 - ((j : Nat) : Int)))).x0, (rget G (Int.toNat ((k3 : Int) - 1 - ((j : Nat) : Int)))).y0, (rget G (Int.toNat ((k3 : Int) - 1 - ((j : Nat) : Int)))).x1, (rget G (Int.toNat ((k3 : Int) - 1 - ((j : Nat) : Int)))).y1⟩ : Rect)])) true), .gen (rowE (A1) g2 k3 cp4 25 4 (rvals G) true), .gen (rdE (A) g o n 4 (rvals xs))] (by kernel_rfl) rfl ?_
    refine cont_fact (F := (0 < (kq + 2) → (A13 : Option Addr) = some ⟨g13, 0, none⟩) ∧ ((backL G j) ++ [(⟨(rget G (Int.toNat ((k3 : Int) - 1 - ((j : Nat) : Int)))).x0, (rget G (Int.toNat ((k3 : Int) - 1 - ((j : Nat) : Int)))).y0, (rget G (Int.toNat ((k3 : Int) - 1 - ((j : Nat) : Int)))).x1, (rget G (Int.toNat ((k3 : Int) - 1 - ((j : Nat) : Int)))).y1⟩ : Rect), (⟨(rget G (Int.toNat ((k3 : Int) - 1 - ((j : Nat) : Int)))).x0, (rget G (Int.toNat ((k3 : Int) - 1 - ((j : Nat) : Int)))).y0, (rget G (Int.toNat ((k3 : Int) - 1 - ((j : Nat) : Int)))).x1, (rget G (Int.toNat ((k3 : Int) - 1 - ((j : Nat) : Int)))).y1⟩ : Rect)]).length = (kq + 2) ∧ (kq + 2) ≤ cp13 ∧ cp13 ≤ maxLen) (fun w hT => Row.factsR (hT.ok 1 _ rfl)) (fun hr14_ => ?_)
    obtain ⟨hr14_a, hr14_l, hr14_c, hr14_m⟩ := hr14_
    unfold maxLen at hr14_m
    refine drawn_next 1 [0] (by kernel_rfl) ?_
    refine takes 1 [0] [(11, 0)] 0 [11, 10, 9, 8, 7, 4, 3, 6, 5, 2, 1, 0] [(3, .slice A1 k3 cp4), (4, .slice A13 (kq + 2) cp13), (5, .int .i64 ((k3 : Int) - 1 - ((j : Nat) : Int)))] (by kernel_rfl) (pok_blk (pok_then (pok_then (pok_blk (pok_then pok_body))))) (by kernel_rfl) rfl rfl (by kernel_rfl) (by kernel_rfl) ?_
    refine drawn_done (by kernel_rfl) ?_
    refine blk_normal ?_
    refine then_normal ?_
    refine cont_region 3 rfl ?_
    refine batch0 [0, 0] 2 1 [(3, .slice A1 k3 cp4), (4, .slice A13 (kq + 2) cp13), (15, .int .i64 (IntKind.i64.wrap (((k3 : Int) - 1 - ((j : Nat) : Int)) - 1)))] [.cells b12 [.int .i64 ((rget G (Int.toNat ((k3 : Int) - 1 - ((j : Nat) : Int)))).x0), .int .i64 ((rget G (Int.toNat ((k3 : Int) - 1 - ((j : Nat) : Int)))).y0), .int .i64 ((rget G (Int.toNat ((k3 : Int) - 1 - ((j : Nat) : Int)))).x1), .int .i64 ((rget G (Int.toNat ((k3 : Int) - 1 - ((j : Nat) : Int)))).y1), .int .i64 ((rget G (Int.toNat ((k3 : Int) - 1 - ((j : Nat) : Int)))).x0), .int .i64 ((rget G (Int.toNat ((k3 : Int) - 1 - ((j : Nat) : Int)))).y0), .int .i64 ((rget G (Int.toNat ((k3 : Int) - 1 - ((j : Nat) : Int)))).x1), .int .i64 ((rget G (Int.toNat ((k3 : Int) - 1 - ((j : Nat) : Int)))).y1)] 25 true, .gen (rowE (A13) g13 (kq + 2) cp13 25 4 (rvals ((backL G j) ++ [(⟨(rget G (Int.toNat ((k3 : Int) - 1 - ((j : Nat) : Int)))).x0, (rget G (Int.toNat ((k3 : Int) - 1 - ((j : Nat) : Int)))).y0, (rget G (Int.toNat ((k3 : Int) - 1 - ((j : Nat) : Int)))).x1, (rget G (Int.toNat ((k3 : Int) - 1 - ((j : Nat) : Int)))).y1⟩ : Rect), (⟨(rget G (Int.toNat ((k3 : Int) - 1 - ((j : Nat) : Int)))).x0, (rget G (Int.toNat ((k3 : Int) - 1 - ((j : Nat) : Int)))).y0, (rget G (Int.toNat ((k3 : Int) - 1 - ((j : Nat) : Int)))).x1, (rget G (Int.toNat ((k3 : Int) - 1 - ((j : Nat) : Int)))).y1⟩ : Rect)])) true), .gen (rowE (A1) g2 k3 cp4 25 4 (rvals G) true), .gen (rdE (A) g o n 4 (rvals xs))] rfl rfl (by kernel_rfl) (by kernel_rfl) ?_
    refine cont_recast 15 (.int .i64 (IntKind.i64.wrap (((k3 : Int) - 1 - ((j : Nat) : Int)) - 1))) (.int .i64 (((k3 : Int) - 1 - ((j : Nat) : Int)) - 1)) rfl (wrapI (by omega) (by omega)) ?_
    refine cont_forget 0 rfl ?_
    refine batch0 [0] 3 0 [(3, .slice A1 k3 cp4), (4, .slice A13 (kq + 2) cp13), (5, .int .i64 (((k3 : Int) - 1 - ((j : Nat) : Int)) - 1))] [.gen (rowE (A13) g13 (kq + 2) cp13 25 4 (rvals ((backL G j) ++ [(⟨(rget G (Int.toNat ((k3 : Int) - 1 - ((j : Nat) : Int)))).x0, (rget G (Int.toNat ((k3 : Int) - 1 - ((j : Nat) : Int)))).y0, (rget G (Int.toNat ((k3 : Int) - 1 - ((j : Nat) : Int)))).x1, (rget G (Int.toNat ((k3 : Int) - 1 - ((j : Nat) : Int)))).y1⟩ : Rect), (⟨(rget G (Int.toNat ((k3 : Int) - 1 - ((j : Nat) : Int)))).x0, (rget G (Int.toNat ((k3 : Int) - 1 - ((j : Nat) : Int)))).y0, (rget G (Int.toNat ((k3 : Int) - 1 - ((j : Nat) : Int)))).x1, (rget G (Int.toNat ((k3 : Int) - 1 - ((j : Nat) : Int)))).y1⟩ : Rect)])) true), .gen (rowE (A1) g2 k3 cp4 25 4 (rvals G) true), .gen (rdE (A) g o n 4 (rvals xs))] rfl rfl (by kernel_rfl) (by kernel_rfl) ?_
    refine cont_done ?_
    refine then_normal ?_
    refine cont_rowEqR 0 ((backL G j) ++ [(⟨(rget G (Int.toNat ((k3 : Int) - 1 - ((j : Nat) : Int)))).x0, (rget G (Int.toNat ((k3 : Int) - 1 - ((j : Nat) : Int)))).y0, (rget G (Int.toNat ((k3 : Int) - 1 - ((j : Nat) : Int)))).x1, (rget G (Int.toNat ((k3 : Int) - 1 - ((j : Nat) : Int)))).y1⟩ : Rect), (⟨(rget G (Int.toNat ((k3 : Int) - 1 - ((j : Nat) : Int)))).x0, (rget G (Int.toNat ((k3 : Int) - 1 - ((j : Nat) : Int)))).y0, (rget G (Int.toNat ((k3 : Int) - 1 - ((j : Nat) : Int)))).x1, (rget G (Int.toNat ((k3 : Int) - 1 - ((j : Nat) : Int)))).y1⟩ : Rect)]) (backL G (j + 1)) rfl (by rw [backL, show Int.toNat ((k3 : Int) - 1 - ((j : Nat) : Int)) = G.length - 1 - j by omega]) ?_
    refine cont_recast 5 (.int .i64 (((k3 : Int) - 1 - ((j : Nat) : Int)) - 1)) (.int .i64 ((k3 : Int) - 1 - (((j + 1) : Nat) : Int))) rfl (congrArg (Value.int .i64) (by omega)) ?_
    refine cont_again (j + 1, (kq + 2), A13, g13, cp13) (show (j + 1) ≤ k3 ∧ ((kq + 2)) ≤ 2 * (j + 1) from ⟨by omega, by omega⟩) (show k3 - (j + 1) < k3 - j from by omega) (by kernel_rfl) (by kernel_rfl)
  replace c11_ := of_decide_eq_false c11_
  refine cont_false rfl ?_
  refine cont_exit ?_
  refine then_exit ?_
  refine then_exit ?_
  refine blk_exit ?_
  refine then_normal ?_
  refine cont_seq ?_
  refine cont_region 3 rfl ?_
  refine cont_fact (F := (0 < kq → (Aq : Option Addr) = some ⟨gq, 0, none⟩) ∧ (backL G j).length = kq ∧ kq ≤ cq ∧ cq ≤ maxLen) (fun w hT => Row.factsR (hT.ok 0 _ rfl)) (fun hr15_ => ?_)
  obtain ⟨hr15_a, hr15_l, hr15_c, hr15_m⟩ := hr15_
  unfold maxLen at hr15_m
  have hjG : j = G.length := by omega
  have hback_ : canR G = canR (backL G j) := by rw [hjG]; exact canR_back G
  refine batch0 [0] 1 2 [(4, .slice Aq kq cq), (27, .slice A1 k3 cp4)] [.gen (rowE (Aq) gq kq cq 25 4 (rvals (backL G j)) true), .gen (rowE (A1) g2 k3 cp4 25 4 (rvals G) true), .gen (rdE (A) g o n 4 (rvals xs))] rfl rfl (by kernel_rfl) (by kernel_rfl) ?_
  refine pl_step 2 1 rfl rfl ?_
  refine call_gen (d := 28) (α := Option Addr × Nat × Nat × Nat) (fun x_ => .slice x_.1 x_.2.2.1 x_.2.2.2) (fun x_ => [.gen (rowE (x_.1) x_.2.1 x_.2.2.1 x_.2.2.2 25 4 (rvals (canR G)) true), .gen (rowE (Aq) gq kq cq 25 4 (rvals (backL G j)) true), .gen (rowE (A1) g2 k3 cp4 25 4 (rvals G) true), .gen (rdE (A) g o n 4 (rvals xs))]) (fun x_ => True) (by kernel_rfl) (fun w hT => (regOf A1 g2 0 k3 cp4 G w (hT.viewRo (.cons (i := 1) rfl Vw.rowRd .nil) rfl) (by omega)).mono fun e w' ⟨A16, g17, k18, cp19, he_, ht_⟩ => ⟨(A16, g17, k18, cp19), he_, trivial, hT.news ht_ rfl⟩) ?_
  rintro ⟨A16, g17, k18, cp19⟩ hf20_
  refine cont_norm [(4, .slice Aq kq cq), (27, .slice A1 k3 cp4), (28, .slice A16 k18 cp19)] [.gen (rowE (A16) g17 k18 cp19 25 4 (rvals (canR G)) true), .gen (rowE (Aq) gq kq cq 25 4 (rvals (backL G j)) true), .gen (rowE (A1) g2 k3 cp4 25 4 (rvals G) true), .gen (rdE (A) g o n 4 (rvals xs))] (by kernel_rfl) rfl ?_
  refine cont_fact (F := (0 < k18 → (A16 : Option Addr) = some ⟨g17, 0, none⟩) ∧ (canR G).length = k18 ∧ k18 ≤ cp19 ∧ cp19 ≤ maxLen) (fun w hT => Row.factsR (hT.ok 0 _ rfl)) (fun hr21_ => ?_)
  obtain ⟨hr21_a, hr21_l, hr21_c, hr21_m⟩ := hr21_
  unfold maxLen at hr21_m
  have hco22_ := canR_small (l := G) (by first | omega | (rw [List.length_take]; omega) | simp)
  refine batch0 [0] 3 0 [(4, .slice Aq kq cq), (6, .slice A16 k18 cp19)] [.gen (rowE (A16) g17 k18 cp19 25 4 (rvals (canR G)) true), .gen (rowE (Aq) gq kq cq 25 4 (rvals (backL G j)) true), .gen (rowE (A1) g2 k3 cp4 25 4 (rvals G) true), .gen (rdE (A) g o n 4 (rvals xs))] rfl rfl (by kernel_rfl) (by kernel_rfl) ?_
  refine cont_done ?_
  refine then_normal ?_
  refine cont_seq ?_
  refine cont_region 18 rfl ?_
  refine batch0 [0, 0] 2 16 [(6, .slice A16 k18 cp19), (29, .slice A16 k18 cp19), (30, .slice Aq kq cq)] [.gen (rowE (A16) g17 k18 cp19 25 4 (rvals (canR G)) true), .gen (rowE (Aq) gq kq cq 25 4 (rvals (backL G j)) true), .gen (rowE (A1) g2 k3 cp4 25 4 (rvals G) true), .gen (rdE (A) g o n 4 (rvals xs))] rfl rfl (by kernel_rfl) (by kernel_rfl) ?_
  refine pl_step 3 15 rfl rfl ?_
  refine call_gen (d := 31) (α := Option Addr × Nat × Nat × Nat) (fun x_ => .slice x_.1 x_.2.2.1 x_.2.2.2) (fun x_ => [.gen (rowE (x_.1) x_.2.1 x_.2.2.1 x_.2.2.2 25 4 (rvals (canR (backL G j))) true), .gen (rowE (A16) g17 k18 cp19 25 4 (rvals (canR G)) true), .gen (rowE (Aq) gq kq cq 25 4 (rvals (backL G j)) true), .gen (rowE (A1) g2 k3 cp4 25 4 (rvals G) true), .gen (rdE (A) g o n 4 (rvals xs))]) (fun x_ => True) (by kernel_rfl) (fun w hT => (regOf Aq gq 0 kq cq (backL G j) w (hT.viewRo (.cons (i := 1) rfl Vw.rowRd .nil) rfl) (by omega)).mono fun e w' ⟨A23, g24, k25, cp26, he_, ht_⟩ => ⟨(A23, g24, k25, cp26), he_, trivial, hT.news ht_ rfl⟩) ?_
  rintro ⟨A23, g24, k25, cp26⟩ hf27_
  refine cont_norm [(6, .slice A16 k18 cp19), (29, .slice A16 k18 cp19), (30, .slice Aq kq cq), (31, .slice A23 k25 cp26)] [.gen (rowE (A23) g24 k25 cp26 25 4 (rvals (canR (backL G j))) true), .gen (rowE (A16) g17 k18 cp19 25 4 (rvals (canR G)) true), .gen (rowE (Aq) gq kq cq 25 4 (rvals (backL G j)) true), .gen (rowE (A1) g2 k3 cp4 25 4 (rvals G) true), .gen (rdE (A) g o n 4 (rvals xs))] (by kernel_rfl) rfl ?_
  refine cont_fact (F := (0 < k25 → (A23 : Option Addr) = some ⟨g24, 0, none⟩) ∧ (canR (backL G j)).length = k25 ∧ k25 ≤ cp26 ∧ cp26 ≤ maxLen) (fun w hT => Row.factsR (hT.ok 0 _ rfl)) (fun hr28_ => ?_)
  obtain ⟨hr28_a, hr28_l, hr28_c, hr28_m⟩ := hr28_
  unfold maxLen at hr28_m
  have hco29_ := canR_small (l := (backL G j)) (by first | omega | (rw [List.length_take]; omega) | simp)
  refine pl_step 4 14 rfl rfl ?_
  refine call_pure (d := 32) (.bool (decide ((canR G) = (canR (backL G j))))) (by kernel_rfl) (fun w hT => regSame A16 g17 0 k18 cp19 (canR G) A23 g24 0 k25 cp26 (canR (backL G j)) w (hT.viewRo (.cons (i := 1) rfl Vw.rowRd (.cons (i := 0) rfl Vw.rowRd .nil)) rfl) (by omega)) ?_
  refine batch0 [0] 5 13 [(6, .slice A16 k18 cp19), (33, .bool (decide ((canR G) = (canR (backL G j)))))] [.gen (rowE (A23) g24 k25 cp26 25 4 (rvals (canR (backL G j))) true), .gen (rowE (A16) g17 k18 cp19 25 4 (rvals (canR G)) true), .gen (rowE (Aq) gq kq cq 25 4 (rvals (backL G j)) true), .gen (rowE (A1) g2 k3 cp4 25 4 (rvals G) true), .gen (rdE (A) g o n 4 (rvals xs))] rfl rfl (by kernel_rfl) (by kernel_rfl) ?_
  refine cont_recast 33 (.bool (decide ((canR G) = (canR (backL G j))))) (.bool true) rfl (congrArg Value.bool (decide_eq_true hback_)) ?_
  refine batch0 [0, 0] 7 11 [(6, .slice A16 k18 cp19), (33, .bool true), (34, .slice A16 k18 cp19), (35, .slice A16 k18 cp19)] [.gen (rowE (A23) g24 k25 cp26 25 4 (rvals (canR (backL G j))) true), .gen (rowE (A16) g17 k18 cp19 25 4 (rvals (canR G)) true), .gen (rowE (Aq) gq kq cq 25 4 (rvals (backL G j)) true), .gen (rowE (A1) g2 k3 cp4 25 4 (rvals G) true), .gen (rdE (A) g o n 4 (rvals xs))] rfl rfl (by kernel_rfl) (by kernel_rfl) ?_
  refine pl_step 8 10 rfl rfl ?_
  refine call_gen (d := 36) (α := Option Addr × Nat × Nat × Nat) (fun x_ => .slice x_.1 x_.2.2.1 x_.2.2.2) (fun x_ => [.gen (rowE (x_.1) x_.2.1 x_.2.2.1 x_.2.2.2 25 4 (rvals (canR (canR G))) true), .gen (rowE (A23) g24 k25 cp26 25 4 (rvals (canR (backL G j))) true), .gen (rowE (A16) g17 k18 cp19 25 4 (rvals (canR G)) true), .gen (rowE (Aq) gq kq cq 25 4 (rvals (backL G j)) true), .gen (rowE (A1) g2 k3 cp4 25 4 (rvals G) true), .gen (rdE (A) g o n 4 (rvals xs))]) (fun x_ => True) (by kernel_rfl) (fun w hT => (regOf A16 g17 0 k18 cp19 (canR G) w (hT.viewRo (.cons (i := 1) rfl Vw.rowRd .nil) rfl) (by omega)).mono fun e w' ⟨A31, g32, k33, cp34, he_, ht_⟩ => ⟨(A31, g32, k33, cp34), he_, trivial, hT.news ht_ rfl⟩) ?_
  rintro ⟨A31, g32, k33, cp34⟩ hf35_
  refine cont_norm [(6, .slice A16 k18 cp19), (33, .bool true), (34, .slice A16 k18 cp19), (35, .slice A16 k18 cp19), (36, .slice A31 k33 cp34)] [.gen (rowE (A31) g32 k33 cp34 25 4 (rvals (canR (canR G))) true), .gen (rowE (A23) g24 k25 cp26 25 4 (rvals (canR (backL G j))) true), .gen (rowE (A16) g17 k18 cp19 25 4 (rvals (canR G)) true), .gen (rowE (Aq) gq kq cq 25 4 (rvals (backL G j)) true), .gen (rowE (A1) g2 k3 cp4 25 4 (rvals G) true), .gen (rdE (A) g o n 4 (rvals xs))] (by kernel_rfl) rfl ?_
  refine cont_fact (F := (0 < k33 → (A31 : Option Addr) = some ⟨g32, 0, none⟩) ∧ (canR (canR G)).length = k33 ∧ k33 ≤ cp34 ∧ cp34 ≤ maxLen) (fun w hT => Row.factsR (hT.ok 0 _ rfl)) (fun hr36_ => ?_)
  obtain ⟨hr36_a, hr36_l, hr36_c, hr36_m⟩ := hr36_
  unfold maxLen at hr36_m
  have hco37_ : (canR (canR G)).length ≤ 784 := by rw [canR_idem]; omega
  refine pl_step 9 9 rfl rfl ?_
  refine call_pure (d := 37) (.bool (decide ((canR G) = (canR (canR G))))) (by kernel_rfl) (fun w hT => regSame A16 g17 0 k18 cp19 (canR G) A31 g32 0 k33 cp34 (canR (canR G)) w (hT.viewRo (.cons (i := 2) rfl Vw.rowRd (.cons (i := 0) rfl Vw.rowRd .nil)) rfl) (by omega)) ?_
  refine batch0 [0, 0] 11 7 [(6, .slice A16 k18 cp19), (39, .bool (decide ((canR G) = (canR (canR G)))))] [.gen (rowE (A31) g32 k33 cp34 25 4 (rvals (canR (canR G))) true), .gen (rowE (A23) g24 k25 cp26 25 4 (rvals (canR (backL G j))) true), .gen (rowE (A16) g17 k18 cp19 25 4 (rvals (canR G)) true), .gen (rowE (Aq) gq kq cq 25 4 (rvals (backL G j)) true), .gen (rowE (A1) g2 k3 cp4 25 4 (rvals G) true), .gen (rdE (A) g o n 4 (rvals xs))] rfl rfl (by kernel_rfl) (by kernel_rfl) ?_
  refine cont_recast 39 (.bool (decide ((canR G) = (canR (canR G))))) (.bool true) rfl (congrArg Value.bool (decide_eq_true (canR_idem _).symm)) ?_
  refine batch0 [0] 12 6 [(39, .bool true), (40, .slice A16 k18 cp19)] [.gen (rowE (A31) g32 k33 cp34 25 4 (rvals (canR (canR G))) true), .gen (rowE (A23) g24 k25 cp26 25 4 (rvals (canR (backL G j))) true), .gen (rowE (A16) g17 k18 cp19 25 4 (rvals (canR G)) true), .gen (rowE (Aq) gq kq cq 25 4 (rvals (backL G j)) true), .gen (rowE (A1) g2 k3 cp4 25 4 (rvals G) true), .gen (rdE (A) g o n 4 (rvals xs))] rfl rfl (by kernel_rfl) (by kernel_rfl) ?_
  refine pl_step 13 5 rfl rfl ?_
  refine call_pure (d := 41) (.bool (decide ((canR G) = canR (canR G)))) (by kernel_rfl) (fun w hT => refMayL A16 g17 0 k18 cp19 (canR G) w (hT.viewRo (.cons (i := 2) rfl Vw.rowRd .nil) rfl) (by omega) (by omega)) ?_
  refine batch0 [0, 0] 15 3 [(43, .bool (decide ((canR G) = canR (canR G))))] [.gen (rowE (A31) g32 k33 cp34 25 4 (rvals (canR (canR G))) true), .gen (rowE (A23) g24 k25 cp26 25 4 (rvals (canR (backL G j))) true), .gen (rowE (A16) g17 k18 cp19 25 4 (rvals (canR G)) true), .gen (rowE (Aq) gq kq cq 25 4 (rvals (backL G j)) true), .gen (rowE (A1) g2 k3 cp4 25 4 (rvals G) true), .gen (rdE (A) g o n 4 (rvals xs))] rfl rfl (by kernel_rfl) (by kernel_rfl) ?_
  refine cont_recast 43 (.bool (decide ((canR G) = canR (canR G)))) (.bool true) rfl (congrArg Value.bool (decide_eq_true (canR_idem _).symm)) ?_
  refine pl_step 16 2 rfl rfl ?_
  refine call_pure (d := 44) (.bool true) (by kernel_rfl) (fun w hT => lives2  w) ?_
  refine batch0 [0, 0] 18 0 [(2, .bool true)] [.gen (rowE (A31) g32 k33 cp34 25 4 (rvals (canR (canR G))) true), .gen (rowE (A23) g24 k25 cp26 25 4 (rvals (canR (backL G j))) true), .gen (rowE (A16) g17 k18 cp19 25 4 (rvals (canR G)) true), .gen (rowE (Aq) gq kq cq 25 4 (rvals (backL G j)) true), .gen (rowE (A1) g2 k3 cp4 25 4 (rvals G) true), .gen (rdE (A) g o n 4 (rvals xs))] rfl rfl (by kernel_rfl) (by kernel_rfl) ?_
  refine cont_done ?_
  refine then_normal ?_
  refine cont_ret ?_
  refine ret_one (.inl rfl) rfl 0 (.bool true) (by kernel_rfl) (by kernel_rfl) (fun w hT => ?_)
  exact ⟨rfl, hT.post rfl⟩

end Go.Proofs.Ytimpjdfflffcfaa
