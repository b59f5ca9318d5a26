/- Contracts of functions of the given program, printed by a program of this project. -/
import Derived.Test.YtimpjdfflffcfaaL2e
import Derived.Test.YtimpjdfflffcfaaProg
set_option linter.unusedVariables false
set_option linter.unusedSimpArgs false
namespace Go.Proofs.Ytimpjdfflffcfaa
open Go Go.RowKit
set_option maxRecDepth 100000
set_option maxHeartbeats 8000000

theorem walkRegionOf (A : Option Addr) (g o n cap : Nat) (xs : List Rect) (x_ y_ : Int) (w : World) (hr : Rd w A g o n 4 (rvals xs)) (hl : xs.length = n) (hc : n ≤ cap) (hm : cap ≤ maxLen) (hx : ∀ r ∈ xs, R64 r) (hxx : -9223372036854775808 ≤ x_ ∧ x_ ≤ 9223372036854775807) (hyy : -9223372036854775808 ≤ y_ ∧ y_ ≤ 9223372036854775807) :
    Calls Try.prog 6 #[.slice A n cap, .int .i64 x_, .int .i64 y_] w fun e w' => e = .returned (.bool true) ∧ Below w.heap.size w w' := by
  unfold maxLen at hm
  refine enter 78 [(0, .slice A n cap), (1, .int .i64 x_), (2, .int .i64 y_)] [.gen (rdE (A) g o n 4 (rvals xs))] Try.func6 rfl Try.ntmps6 rfl (by kernel_rfl) hr.tab ?_
  refine cont_seq ?_
  refine cont_region 1 rfl ?_
  refine batch0 [0] 1 0 [(0, .slice A n cap), (1, .int .i64 x_), (2, .int .i64 y_)] [.gen (rdE (A) g o n 4 (rvals xs))] rfl rfl (by kernel_rfl) (by kernel_rfl) ?_
  refine cont_done ?_
  refine then_normal ?_
  refine cont_seq ?_
  refine cont_region 3 rfl ?_
  refine batch0 [0] 1 2 [(0, .slice A n cap), (1, .int .i64 x_), (2, .int .i64 y_), (12, .slice A n cap)] [.gen (rdE (A) g o n 4 (rvals xs))] rfl rfl (by kernel_rfl) (by kernel_rfl) ?_
  refine pl_step 2 1 rfl rfl ?_
  refine call_gen (d := 13) (α := Option Addr × Nat × Nat × Nat) (fun x_ => .slice x_.1 x_.2.2.1 x_.2.2.2) (fun x_ => [.gen (rowE (x_.1) x_.2.1 x_.2.2.1 x_.2.2.2 25 4 (rvals (smallL xs 8)) true), .gen (rdE (A) g o n 4 (rvals xs))]) (fun x_ => True) (by kernel_rfl) (fun w hT => (refSmallL A g o n cap xs 8 w (hT.viewRo (.cons (i := 0) rfl Vw.rd .nil) rfl) hx (by omega)).mono fun e w' ⟨A1, g2, k3, cp4, he_, ht_⟩ => ⟨(A1, g2, k3, cp4), he_, trivial, hT.news ht_ rfl⟩) ?_
  rintro ⟨A1, g2, k3, cp4⟩ hf5_
  refine cont_norm [(0, .slice A n cap), (1, .int .i64 x_), (2, .int .i64 y_), (12, .slice A n cap), (13, .slice A1 k3 cp4)] [.gen (rowE (A1) g2 k3 cp4 25 4 (rvals (smallL xs 8)) true), .gen (rdE (A) g o n 4 (rvals xs))] (by kernel_rfl) rfl ?_
  refine cont_fact (F := (0 < k3 → (A1 : Option Addr) = some ⟨g2, 0, none⟩) ∧ (smallL xs 8).length = k3 ∧ k3 ≤ cp4 ∧ cp4 ≤ maxLen) (fun w hT => Row.factsR (hT.ok 0 _ rfl)) (fun hr6_ => ?_)
  obtain ⟨hr6_a, hr6_l, hr6_c, hr6_m⟩ := hr6_
  unfold maxLen at hr6_m
  have hsl7_ := smallL_length xs 8
  refine batch0 [0] 3 0 [(0, .slice A n cap), (1, .int .i64 x_), (2, .int .i64 y_), (7, .slice A1 k3 cp4)] [.gen (rowE (A1) g2 k3 cp4 25 4 (rvals (smallL xs 8)) true), .gen (rdE (A) g o n 4 (rvals xs))] rfl rfl (by kernel_rfl) (by kernel_rfl) ?_
  refine cont_done ?_
  refine then_normal ?_
  refine cont_seq ?_
  refine cont_seq ?_
  refine cont_region 3 rfl ?_
  refine batch0 [0, 0, 0] 3 0 [(0, .slice A n cap), (1, .int .i64 x_), (2, .int .i64 y_), (7, .slice A1 k3 cp4), (16, .bool (decide ((n : Int) > 8)))] [.gen (rowE (A1) g2 k3 cp4 25 4 (rvals (smallL xs 8)) true), .gen (rdE (A) g o n 4 (rvals xs))] rfl rfl (by kernel_rfl) (by kernel_rfl) ?_
  refine cont_done ?_
  refine then_normal ?_
  refine cont_split 16 (decide ((n : Int) > 8)) rfl (fun c8_ => ?_) (fun c8_ => ?_)
  ·
    replace c8_ := of_decide_eq_true c8_
    refine cont_true rfl ?_
    refine cont_region 3 rfl ?_
    refine batch0 [0] 1 2 [(1, .int .i64 x_), (2, .int .i64 y_), (7, .slice A1 k3 cp4), (17, .slice A n cap)] [.gen (rowE (A1) g2 k3 cp4 25 4 (rvals (smallL xs 8)) true), .gen (rdE (A) g o n 4 (rvals xs))] rfl rfl (by kernel_rfl) (by kernel_rfl) ?_
    refine pl_step 2 1 rfl rfl ?_
    refine cont_recast 17 (.slice A n cap) (.slice (some ⟨g, o, none⟩) n cap) rfl (by rw [hr.at_ (by omega)]) ?_
    refine sem_step 18 (Instr.sliceAt 22 (.slice (some ⟨g, o, none⟩) n cap) none (some (.int .i64 8)) none) (.slice (some ⟨g, o, none⟩) 8 cap) (by kernel_rfl) (fun w hT => run_sliceHi (e := 25) (sz := 4) _ (by kernel_rfl) (by kernel_rfl) (by omega) (by omega) (by omega) w) ?_
    refine batch0 [0] 3 0 [(0, .slice (some ⟨g, o, none⟩) 8 cap), (1, .int .i64 x_), (2, .int .i64 y_), (7, .slice A1 k3 cp4)] [.gen (rowE (A1) g2 k3 cp4 25 4 (rvals (smallL xs 8)) true), .gen (rdE (A) g o n 4 (rvals xs))] rfl rfl (by kernel_rfl) (by kernel_rfl) ?_
    refine cont_done ?_
    refine then_normal ?_
    refine cont_seq ?_
    refine cont_region 3 rfl ?_
    refine batch0 [0] 1 2 [(0, .slice (some ⟨g, o, none⟩) 8 cap), (1, .int .i64 x_), (2, .int .i64 y_), (7, .slice A1 k3 cp4), (19, .slice (some ⟨g, o, none⟩) 8 cap)] [.gen (rowE (A1) g2 k3 cp4 25 4 (rvals (smallL xs 8)) true), .gen (rdE (A) g o n 4 (rvals xs))] rfl rfl (by kernel_rfl) (by kernel_rfl) ?_
    refine pl_step 2 1 rfl rfl ?_
    refine call_gen (d := 20) (α := Option Addr × Nat × Nat × Nat) (fun x_ => .slice x_.1 x_.2.2.1 x_.2.2.2) (fun x_ => [.gen (rowE (x_.1) x_.2.1 x_.2.2.1 x_.2.2.2 25 4 (rvals (canR (xs.take 8))) true), .gen (rowE (A1) g2 k3 cp4 25 4 (rvals (smallL xs 8)) true), .gen (rdE (A) g o n 4 (rvals xs))]) (fun x_ => True) (by kernel_rfl) (fun w hT => (regOf (some ⟨g, o, none⟩) g o 8 cap (xs.take 8) w (hT.viewRo (.cons (i := 1) rfl (Vw.rdHeadR (by omega) hr.at_ (by omega)) .nil) rfl) (by omega)).mono fun e w' ⟨A9, g10, k11, cp12, he_, ht_⟩ => ⟨(A9, g10, k11, cp12), he_, trivial, hT.news ht_ rfl⟩) ?_
    rintro ⟨A9, g10, k11, cp12⟩ hf13_
    refine cont_norm [(0, .slice (some ⟨g, o, none⟩) 8 cap), (1, .int .i64 x_), (2, .int .i64 y_), (7, .slice A1 k3 cp4), (19, .slice (some ⟨g, o, none⟩) 8 cap), (20, .slice A9 k11 cp12)] [.gen (rowE (A9) g10 k11 cp12 25 4 (rvals (canR (xs.take 8))) true), .gen (rowE (A1) g2 k3 cp4 25 4 (rvals (smallL xs 8)) true), .gen (rdE (A) g o n 4 (rvals xs))] (by kernel_rfl) rfl ?_
    refine cont_fact (F := (0 < k11 → (A9 : Option Addr) = some ⟨g10, 0, none⟩) ∧ (canR (xs.take 8)).length = k11 ∧ k11 ≤ cp12 ∧ cp12 ≤ maxLen) (fun w hT => Row.factsR (hT.ok 0 _ rfl)) (fun hr14_ => ?_)
    obtain ⟨hr14_a, hr14_l, hr14_c, hr14_m⟩ := hr14_
    unfold maxLen at hr14_m
    have hco15_ := canR_small (l := (xs.take 8)) (by first | omega | (rw [List.length_take]; omega) | simp)
    refine batch0 [0] 3 0 [(0, .slice (some ⟨g, o, none⟩) 8 cap), (1, .int .i64 x_), (2, .int .i64 y_), (7, .slice A1 k3 cp4), (8, .slice A9 k11 cp12)] [.gen (rowE (A9) g10 k11 cp12 25 4 (rvals (canR (xs.take 8))) true), .gen (rowE (A1) g2 k3 cp4 25 4 (rvals (smallL xs 8)) true), .gen (rdE (A) g o n 4 (rvals xs))] rfl rfl (by kernel_rfl) (by kernel_rfl) ?_
    refine cont_done ?_
    refine then_normal ?_
    refine cont_seq ?_
    refine cont_region 3 rfl ?_
    refine batch0 [0] 1 2 [(0, .slice (some ⟨g, o, none⟩) 8 cap), (1, .int .i64 x_), (2, .int .i64 y_), (7, .slice A1 k3 cp4), (8, .slice A9 k11 cp12), (21, .slice A1 k3 cp4)] [.gen (rowE (A9) g10 k11 cp12 25 4 (rvals (canR (xs.take 8))) true), .gen (rowE (A1) g2 k3 cp4 25 4 (rvals (smallL xs 8)) true), .gen (rdE (A) g o n 4 (rvals xs))] rfl rfl (by kernel_rfl) (by kernel_rfl) ?_
    refine pl_step 2 1 rfl rfl ?_
    refine call_gen (d := 22) (α := Option Addr × Nat × Nat × Nat) (fun x_ => .slice x_.1 x_.2.2.1 x_.2.2.2) (fun x_ => [.gen (rowE (x_.1) x_.2.1 x_.2.2.1 x_.2.2.2 25 4 (rvals (canR (smallL xs 8))) true), .gen (rowE (A9) g10 k11 cp12 25 4 (rvals (canR (xs.take 8))) true), .gen (rowE (A1) g2 k3 cp4 25 4 (rvals (smallL xs 8)) true), .gen (rdE (A) g o n 4 (rvals xs))]) (fun x_ => True) (by kernel_rfl) (fun w hT => (regOf A1 g2 0 k3 cp4 (smallL xs 8) w (hT.viewRo (.cons (i := 1) rfl Vw.rowRd .nil) rfl) (by omega)).mono fun e w' ⟨A16, g17, k18, cp19, he_, ht_⟩ => ⟨(A16, g17, k18, cp19), he_, trivial, hT.news ht_ rfl⟩) ?_
    rintro ⟨A16, g17, k18, cp19⟩ hf20_
    refine cont_norm [(0, .slice (some ⟨g, o, none⟩) 8 cap), (1, .int .i64 x_), (2, .int .i64 y_), (7, .slice A1 k3 cp4), (8, .slice A9 k11 cp12), (21, .slice A1 k3 cp4), (22, .slice A16 k18 cp19)] [.gen (rowE (A16) g17 k18 cp19 25 4 (rvals (canR (smallL xs 8))) true), .gen (rowE (A9) g10 k11 cp12 25 4 (rvals (canR (xs.take 8))) true), .gen (rowE (A1) g2 k3 cp4 25 4 (rvals (smallL xs 8)) true), .gen (rdE (A) g o n 4 (rvals xs))] (by kernel_rfl) rfl ?_
    refine cont_fact (F := (0 < k18 → (A16 : Option Addr) = some ⟨g17, 0, none⟩) ∧ (canR (smallL xs 8)).length = k18 ∧ k18 ≤ cp19 ∧ cp19 ≤ maxLen) (fun w hT => Row.factsR (hT.ok 0 _ rfl)) (fun hr21_ => ?_)
    obtain ⟨hr21_a, hr21_l, hr21_c, hr21_m⟩ := hr21_
    unfold maxLen at hr21_m
    have hco22_ := canR_small (l := (smallL xs 8)) (by first | omega | (rw [List.length_take]; omega) | simp)
    refine batch0 [0] 3 0 [(0, .slice (some ⟨g, o, none⟩) 8 cap), (1, .int .i64 x_), (2, .int .i64 y_), (7, .slice A1 k3 cp4), (8, .slice A9 k11 cp12), (9, .slice A16 k18 cp19)] [.gen (rowE (A16) g17 k18 cp19 25 4 (rvals (canR (smallL xs 8))) true), .gen (rowE (A9) g10 k11 cp12 25 4 (rvals (canR (xs.take 8))) true), .gen (rowE (A1) g2 k3 cp4 25 4 (rvals (smallL xs 8)) true), .gen (rdE (A) g o n 4 (rvals xs))] rfl rfl (by kernel_rfl) (by kernel_rfl) ?_
    refine cont_done ?_
    refine then_normal ?_
    refine cont_seq ?_
    refine cont_seq ?_
    refine cont_region 22 rfl ?_
    refine batch0 [0, 0] 2 20 [(0, .slice (some ⟨g, o, none⟩) 8 cap), (1, .int .i64 x_), (2, .int .i64 y_), (7, .slice A1 k3 cp4), (8, .slice A9 k11 cp12), (9, .slice A16 k18 cp19), (23, .slice A9 k11 cp12), (24, .slice (some ⟨g, o, none⟩) 8 cap)] [.gen (rowE (A16) g17 k18 cp19 25 4 (rvals (canR (smallL xs 8))) true), .gen (rowE (A9) g10 k11 cp12 25 4 (rvals (canR (xs.take 8))) true), .gen (rowE (A1) g2 k3 cp4 25 4 (rvals (smallL xs 8)) true), .gen (rdE (A) g o n 4 (rvals xs))] rfl rfl (by kernel_rfl) (by kernel_rfl) ?_
    refine pl_step 3 19 rfl rfl ?_
    refine call_gen (d := 25) (α := Option Addr × Nat × Nat × Nat) (fun x_ => .slice x_.1 x_.2.2.1 x_.2.2.2) (fun x_ => [.gen (rowE (x_.1) x_.2.1 x_.2.2.1 x_.2.2.2 25 4 (rvals (canR (xs.take 8))) true), .gen (rowE (A16) g17 k18 cp19 25 4 (rvals (canR (smallL xs 8))) true), .gen (rowE (A9) g10 k11 cp12 25 4 (rvals (canR (xs.take 8))) true), .gen (rowE (A1) g2 k3 cp4 25 4 (rvals (smallL xs 8)) true), .gen (rdE (A) g o n 4 (rvals xs))]) (fun x_ => True) (by kernel_rfl) (fun w hT => (refOf (some ⟨g, o, none⟩) g o 8 cap (xs.take 8) w (hT.viewRo (.cons (i := 3) rfl (Vw.rdHeadR (by omega) hr.at_ (by omega)) .nil) rfl) (by omega)).mono fun e w' ⟨A23, g24, k25, cp26, he_, ht_⟩ => ⟨(A23, g24, k25, cp26), he_, trivial, hT.news ht_ rfl⟩) ?_
    rintro ⟨A23, g24, k25, cp26⟩ hf27_
    refine cont_norm [(0, .slice (some ⟨g, o, none⟩) 8 cap), (1, .int .i64 x_), (2, .int .i64 y_), (7, .slice A1 k3 cp4), (8, .slice A9 k11 cp12), (9, .slice A16 k18 cp19), (23, .slice A9 k11 cp12), (24, .slice (some ⟨g, o, none⟩) 8 cap), (25, .slice A23 k25 cp26)] [.gen (rowE (A23) g24 k25 cp26 25 4 (rvals (canR (xs.take 8))) true), .gen (rowE (A16) g17 k18 cp19 25 4 (rvals (canR (smallL xs 8))) true), .gen (rowE (A9) g10 k11 cp12 25 4 (rvals (canR (xs.take 8))) true), .gen (rowE (A1) g2 k3 cp4 25 4 (rvals (smallL xs 8)) true), .gen (rdE (A) g o n 4 (rvals xs))] (by kernel_rfl) rfl ?_
    refine cont_fact (F := (0 < k25 → (A23 : Option Addr) = some ⟨g24, 0, none⟩) ∧ (canR (xs.take 8)).length = k25 ∧ k25 ≤ cp26 ∧ cp26 ≤ maxLen) (fun w hT => Row.factsR (hT.ok 0 _ rfl)) (fun hr28_ => ?_)
    obtain ⟨hr28_a, hr28_l, hr28_c, hr28_m⟩ := hr28_
    unfold maxLen at hr28_m
    have hco29_ := canR_small (l := (xs.take 8)) (by first | omega | (rw [List.length_take]; omega) | simp)
    refine pl_step 4 18 rfl rfl ?_
    refine call_pure (d := 26) (.bool (decide ((canR (xs.take 8)) = (canR (xs.take 8))))) (by kernel_rfl) (fun w hT => refSame A9 g10 0 k11 cp12 (canR (xs.take 8)) A23 g24 0 k25 cp26 (canR (xs.take 8)) w (hT.viewRo (.cons (i := 2) rfl Vw.rowRd (.cons (i := 0) rfl Vw.rowRd .nil)) rfl) (by omega)) ?_
    refine batch0 [0, 0] 6 16 [(0, .slice (some ⟨g, o, none⟩) 8 cap), (1, .int .i64 x_), (2, .int .i64 y_), (7, .slice A1 k3 cp4), (8, .slice A9 k11 cp12), (9, .slice A16 k18 cp19), (28, .bool (!(decide ((canR (xs.take 8)) = (canR (xs.take 8))))))] [.gen (rowE (A23) g24 k25 cp26 25 4 (rvals (canR (xs.take 8))) true), .gen (rowE (A16) g17 k18 cp19 25 4 (rvals (canR (smallL xs 8))) true), .gen (rowE (A9) g10 k11 cp12 25 4 (rvals (canR (xs.take 8))) true), .gen (rowE (A1) g2 k3 cp4 25 4 (rvals (smallL xs 8)) true), .gen (rdE (A) g o n 4 (rvals xs))] rfl rfl (by kernel_rfl) (by kernel_rfl) ?_
    refine cont_recast 28 (.bool (!(decide ((canR (xs.take 8)) = (canR (xs.take 8)))))) (.bool false) rfl (congrArg Value.bool (by rw [show (decide ((canR (xs.take 8)) = (canR (xs.take 8)))) = true from (decide_eq_true rfl)]; rfl)) ?_
    refine batch0 [0, 0] 8 14 [(0, .slice (some ⟨g, o, none⟩) 8 cap), (1, .int .i64 x_), (2, .int .i64 y_), (7, .slice A1 k3 cp4), (8, .slice A9 k11 cp12), (9, .slice A16 k18 cp19), (28, .bool false), (29, .slice A16 k18 cp19), (30, .slice A1 k3 cp4)] [.gen (rowE (A23) g24 k25 cp26 25 4 (rvals (canR (xs.take 8))) true), .gen (rowE (A16) g17 k18 cp19 25 4 (rvals (canR (smallL xs 8))) true), .gen (rowE (A9) g10 k11 cp12 25 4 (rvals (canR (xs.take 8))) true), .gen (rowE (A1) g2 k3 cp4 25 4 (rvals (smallL xs 8)) true), .gen (rdE (A) g o n 4 (rvals xs))] rfl rfl (by kernel_rfl) (by kernel_rfl) ?_
    refine pl_step 9 13 rfl rfl ?_
    refine call_gen (d := 31) (α := Option Addr × Nat × Nat × Nat) (fun x_ => .slice x_.1 x_.2.2.1 x_.2.2.2) (fun x_ => [.gen (rowE (x_.1) x_.2.1 x_.2.2.1 x_.2.2.2 25 4 (rvals (canR (smallL xs 8))) true), .gen (rowE (A23) g24 k25 cp26 25 4 (rvals (canR (xs.take 8))) true), .gen (rowE (A16) g17 k18 cp19 25 4 (rvals (canR (smallL xs 8))) true), .gen (rowE (A9) g10 k11 cp12 25 4 (rvals (canR (xs.take 8))) true), .gen (rowE (A1) g2 k3 cp4 25 4 (rvals (smallL xs 8)) true), .gen (rdE (A) g o n 4 (rvals xs))]) (fun x_ => True) (by kernel_rfl) (fun w hT => (refOf A1 g2 0 k3 cp4 (smallL xs 8) w (hT.viewRo (.cons (i := 3) rfl Vw.rowRd .nil) rfl) (by omega)).mono fun e w' ⟨A31, g32, k33, cp34, he_, ht_⟩ => ⟨(A31, g32, k33, cp34), he_, trivial, hT.news ht_ rfl⟩) ?_
    rintro ⟨A31, g32, k33, cp34⟩ hf35_
    refine cont_norm [(0, .slice (some ⟨g, o, none⟩) 8 cap), (1, .int .i64 x_), (2, .int .i64 y_), (7, .slice A1 k3 cp4), (8, .slice A9 k11 cp12), (9, .slice A16 k18 cp19), (28, .bool false), (29, .slice A16 k18 cp19), (30, .slice A1 k3 cp4), (31, .slice A31 k33 cp34)] [.gen (rowE (A31) g32 k33 cp34 25 4 (rvals (canR (smallL xs 8))) true), .gen (rowE (A23) g24 k25 cp26 25 4 (rvals (canR (xs.take 8))) true), .gen (rowE (A16) g17 k18 cp19 25 4 (rvals (canR (smallL xs 8))) true), .gen (rowE (A9) g10 k11 cp12 25 4 (rvals (canR (xs.take 8))) true), .gen (rowE (A1) g2 k3 cp4 25 4 (rvals (smallL xs 8)) true), .gen (rdE (A) g o n 4 (rvals xs))] (by kernel_rfl) rfl ?_
    refine cont_fact (F := (0 < k33 → (A31 : Option Addr) = some ⟨g32, 0, none⟩) ∧ (canR (smallL xs 8)).length = k33 ∧ k33 ≤ cp34 ∧ cp34 ≤ maxLen) (fun w hT => Row.factsR (hT.ok 0 _ rfl)) (fun hr36_ => ?_)
    obtain ⟨hr36_a, hr36_l, hr36_c, hr36_m⟩ := hr36_
    unfold maxLen at hr36_m
    have hco37_ := canR_small (l := (smallL xs 8)) (by first | omega | (rw [List.length_take]; omega) | simp)
    refine pl_step 10 12 rfl rfl ?_
    refine call_pure (d := 32) (.bool (decide ((canR (smallL xs 8)) = (canR (smallL xs 8))))) (by kernel_rfl) (fun w hT => refSame A16 g17 0 k18 cp19 (canR (smallL xs 8)) A31 g32 0 k33 cp34 (canR (smallL xs 8)) w (hT.viewRo (.cons (i := 2) rfl Vw.rowRd (.cons (i := 0) rfl Vw.rowRd .nil)) rfl) (by omega)) ?_
    refine batch0 [0, 0, 0] 13 9 [(0, .slice (some ⟨g, o, none⟩) 8 cap), (1, .int .i64 x_), (2, .int .i64 y_), (7, .slice A1 k3 cp4), (8, .slice A9 k11 cp12), (9, .slice A16 k18 cp19), (35, .bool (!(decide ((canR (smallL xs 8)) = (canR (smallL xs 8))))))] [.gen (rowE (A31) g32 k33 cp34 25 4 (rvals (canR (smallL xs 8))) true), .gen (rowE (A23) g24 k25 cp26 25 4 (rvals (canR (xs.take 8))) true), .gen (rowE (A16) g17 k18 cp19 25 4 (rvals (canR (smallL xs 8))) true), .gen (rowE (A9) g10 k11 cp12 25 4 (rvals (canR (xs.take 8))) true), .gen (rowE (A1) g2 k3 cp4 25 4 (rvals (smallL xs 8)) true), .gen (rdE (A) g o n 4 (rvals xs))] rfl rfl (by kernel_rfl) (by kernel_rfl) ?_
    refine cont_recast 35 (.bool (!(decide ((canR (smallL xs 8)) = (canR (smallL xs 8)))))) (.bool false) rfl (congrArg Value.bool (by rw [show (decide ((canR (smallL xs 8)) = (canR (smallL xs 8)))) = true from (decide_eq_true rfl)]; rfl)) ?_
    refine batch0 [0] 14 8 [(0, .slice (some ⟨g, o, none⟩) 8 cap), (1, .int .i64 x_), (2, .int .i64 y_), (7, .slice A1 k3 cp4), (8, .slice A9 k11 cp12), (9, .slice A16 k18 cp19), (35, .bool false), (36, .slice A9 k11 cp12)] [.gen (rowE (A31) g32 k33 cp34 25 4 (rvals (canR (smallL xs 8))) true), .gen (rowE (A23) g24 k25 cp26 25 4 (rvals (canR (xs.take 8))) true), .gen (rowE (A16) g17 k18 cp19 25 4 (rvals (canR (smallL xs 8))) true), .gen (rowE (A9) g10 k11 cp12 25 4 (rvals (canR (xs.take 8))) true), .gen (rowE (A1) g2 k3 cp4 25 4 (rvals (smallL xs 8)) true), .gen (rdE (A) g o n 4 (rvals xs))] rfl rfl (by kernel_rfl) (by kernel_rfl) ?_
    refine pl_step 15 7 rfl rfl ?_
    refine call_pure (d := 37) (.bool (decide ((canR (xs.take 8)) = canR (canR (xs.take 8))))) (by kernel_rfl) (fun w hT => refMayL A9 g10 0 k11 cp12 (canR (xs.take 8)) w (hT.viewRo (.cons (i := 3) rfl Vw.rowRd .nil) rfl) (by omega) (by omega)) ?_
    refine batch0 [0, 0, 0] 18 4 [(0, .slice (some ⟨g, o, none⟩) 8 cap), (1, .int .i64 x_), (2, .int .i64 y_), (7, .slice A1 k3 cp4), (8, .slice A9 k11 cp12), (9, .slice A16 k18 cp19), (40, .bool (!(decide ((canR (xs.take 8)) = canR (canR (xs.take 8))))))] [.gen (rowE (A31) g32 k33 cp34 25 4 (rvals (canR (smallL xs 8))) true), .gen (rowE (A23) g24 k25 cp26 25 4 (rvals (canR (xs.take 8))) true), .gen (rowE (A16) g17 k18 cp19 25 4 (rvals (canR (smallL xs 8))) true), .gen (rowE (A9) g10 k11 cp12 25 4 (rvals (canR (xs.take 8))) true), .gen (rowE (A1) g2 k3 cp4 25 4 (rvals (smallL xs 8)) true), .gen (rdE (A) g o n 4 (rvals xs))] rfl rfl (by kernel_rfl) (by kernel_rfl) ?_
    refine cont_recast 40 (.bool (!(decide ((canR (xs.take 8)) = canR (canR (xs.take 8)))))) (.bool false) rfl (congrArg Value.bool (by rw [show (decide ((canR (xs.take 8)) = canR (canR (xs.take 8)))) = true from (decide_eq_true (canR_idem _).symm)]; rfl)) ?_
    refine batch0 [0] 19 3 [(0, .slice (some ⟨g, o, none⟩) 8 cap), (1, .int .i64 x_), (2, .int .i64 y_), (7, .slice A1 k3 cp4), (8, .slice A9 k11 cp12), (9, .slice A16 k18 cp19), (40, .bool false), (41, .slice A16 k18 cp19)] [.gen (rowE (A31) g32 k33 cp34 25 4 (rvals (canR (smallL xs 8))) true), .gen (rowE (A23) g24 k25 cp26 25 4 (rvals (canR (xs.take 8))) true), .gen (rowE (A16) g17 k18 cp19 25 4 (rvals (canR (smallL xs 8))) true), .gen (rowE (A9) g10 k11 cp12 25 4 (rvals (canR (xs.take 8))) true), .gen (rowE (A1) g2 k3 cp4 25 4 (rvals (smallL xs 8)) true), .gen (rdE (A) g o n 4 (rvals xs))] rfl rfl (by kernel_rfl) (by kernel_rfl) ?_
    refine pl_step 20 2 rfl rfl ?_
    refine call_pure (d := 42) (.bool (decide ((canR (smallL xs 8)) = canR (canR (smallL xs 8))))) (by kernel_rfl) (fun w hT => refMayL A16 g17 0 k18 cp19 (canR (smallL xs 8)) w (hT.viewRo (.cons (i := 2) rfl Vw.rowRd .nil) rfl) (by omega) (by omega)) ?_
    refine batch0 [0, 0] 22 0 [(0, .slice (some ⟨g, o, none⟩) 8 cap), (1, .int .i64 x_), (2, .int .i64 y_), (7, .slice A1 k3 cp4), (8, .slice A9 k11 cp12), (9, .slice A16 k18 cp19), (44, .bool (!(decide ((canR (smallL xs 8)) = canR (canR (smallL xs 8))))))] [.gen (rowE (A31) g32 k33 cp34 25 4 (rvals (canR (smallL xs 8))) true), .gen (rowE (A23) g24 k25 cp26 25 4 (rvals (canR (xs.take 8))) true), .gen (rowE (A16) g17 k18 cp19 25 4 (rvals (canR (smallL xs 8))) true), .gen (rowE (A9) g10 k11 cp12 25 4 (rvals (canR (xs.take 8))) true), .gen (rowE (A1) g2 k3 cp4 25 4 (rvals (smallL xs 8)) true), .gen (rdE (A) g o n 4 (rvals xs))] rfl rfl (by kernel_rfl) (by kernel_rfl) ?_
    refine cont_done ?_
    refine then_normal ?_
    refine cont_recast 44 (.bool (!(decide ((canR (smallL xs 8)) = canR (canR (smallL xs 8)))))) (.bool false) rfl (congrArg Value.bool (by rw [show (decide ((canR (smallL xs 8)) = canR (canR (smallL xs 8)))) = true from (decide_eq_true (canR_idem _).symm)]; rfl)) ?_
    refine cont_false rfl ?_
    refine cont_skip ?_
    refine then_normal ?_
    refine cont_seq ?_
    refine cont_region 4 rfl ?_
    refine batch0 [0] 1 3 [(0, .slice (some ⟨g, o, none⟩) 8 cap), (1, .int .i64 x_), (2, .int .i64 y_), (7, .slice A1 k3 cp4), (8, .slice A9 k11 cp12), (9, .slice A16 k18 cp19), (45, .int .i64 x_)] [.gen (rowE (A31) g32 k33 cp34 25 4 (rvals (canR (smallL xs 8))) true), .gen (rowE (A23) g24 k25 cp26 25 4 (rvals (canR (xs.take 8))) true), .gen (rowE (A16) g17 k18 cp19 25 4 (rvals (canR (smallL xs 8))) true), .gen (rowE (A9) g10 k11 cp12 25 4 (rvals (canR (xs.take 8))) true), .gen (rowE (A1) g2 k3 cp4 25 4 (rvals (smallL xs 8)) true), .gen (rdE (A) g o n 4 (rvals xs))] rfl rfl (by kernel_rfl) (by kernel_rfl) ?_
    refine pl_step 2 2 rfl rfl ?_
    refine call_pure (d := 46) (.int .i64 (aroundI x_ 40)) (by kernel_rfl) (fun w hT => refAround x_ 40 w (by omega) (by omega)) ?_
    have hq41_ := aroundI_range x_ (m := 40) (by omega)
    refine batch0 [0] 3 1 [(0, .slice (some ⟨g, o, none⟩) 8 cap), (1, .int .i64 x_), (2, .int .i64 y_), (7, .slice A1 k3 cp4), (8, .slice A9 k11 cp12), (9, .slice A16 k18 cp19), (47, .int .i64 (IntKind.i64.wrap ((aroundI x_ 40) - 5)))] [.gen (rowE (A31) g32 k33 cp34 25 4 (rvals (canR (smallL xs 8))) true), .gen (rowE (A23) g24 k25 cp26 25 4 (rvals (canR (xs.take 8))) true), .gen (rowE (A16) g17 k18 cp19 25 4 (rvals (canR (smallL xs 8))) true), .gen (rowE (A9) g10 k11 cp12 25 4 (rvals (canR (xs.take 8))) true), .gen (rowE (A1) g2 k3 cp4 25 4 (rvals (smallL xs 8)) true), .gen (rdE (A) g o n 4 (rvals xs))] rfl rfl (by kernel_rfl) (by kernel_rfl) ?_
    refine cont_recast 47 (.int .i64 (IntKind.i64.wrap ((aroundI x_ 40) - 5))) (.int .i64 ((aroundI x_ 40) - 5)) rfl (wrapI (by omega) (by omega)) ?_
    refine batch0 [0] 4 0 [(0, .slice (some ⟨g, o, none⟩) 8 cap), (1, .int .i64 x_), (2, .int .i64 y_), (7, .slice A1 k3 cp4), (8, .slice A9 k11 cp12), (9, .slice A16 k18 cp19), (10, .int .i64 ((aroundI x_ 40) - 5))] [.gen (rowE (A31) g32 k33 cp34 25 4 (rvals (canR (smallL xs 8))) true), .gen (rowE (A23) g24 k25 cp26 25 4 (rvals (canR (xs.take 8))) true), .gen (rowE (A16) g17 k18 cp19 25 4 (rvals (canR (smallL xs 8))) true), .gen (rowE (A9) g10 k11 cp12 25 4 (rvals (canR (xs.take 8))) true), .gen (rowE (A1) g2 k3 cp4 25 4 (rvals (smallL xs 8)) true), .gen (rdE (A) g o n 4 (rvals xs))] rfl rfl (by kernel_rfl) (by kernel_rfl) ?_
    refine cont_done ?_
    refine then_normal ?_
    refine cont_seq ?_
    refine cont_region 4 rfl ?_
    refine batch0 [0] 1 3 [(0, .slice (some ⟨g, o, none⟩) 8 cap), (1, .int .i64 x_), (2, .int .i64 y_), (7, .slice A1 k3 cp4), (8, .slice A9 k11 cp12), (9, .slice A16 k18 cp19), (10, .int .i64 ((aroundI x_ 40) - 5)), (48, .int .i64 y_)] [.gen (rowE (A31) g32 k33 cp34 25 4 (rvals (canR (smallL xs 8))) true), .gen (rowE (A23) g24 k25 cp26 25 4 (rvals (canR (xs.take 8))) true), .gen (rowE (A16) g17 k18 cp19 25 4 (rvals (canR (smallL xs 8))) true), .gen (rowE (A9) g10 k11 cp12 25 4 (rvals (canR (xs.take 8))) true), .gen (rowE (A1) g2 k3 cp4 25 4 (rvals (smallL xs 8)) true), .gen (rdE (A) g o n 4 (rvals xs))] rfl rfl (by kernel_rfl) (by kernel_rfl) ?_
    refine pl_step 2 2 rfl rfl ?_
    refine call_pure (d := 49) (.int .i64 (aroundI y_ 40)) (by kernel_rfl) (fun w hT => refAround y_ 40 w (by omega) (by omega)) ?_
    have hq42_ := aroundI_range y_ (m := 40) (by omega)
    refine batch0 [0] 3 1 [(0, .slice (some ⟨g, o, none⟩) 8 cap), (1, .int .i64 x_), (2, .int .i64 y_), (7, .slice A1 k3 cp4), (8, .slice A9 k11 cp12), (9, .slice A16 k18 cp19), (10, .int .i64 ((aroundI x_ 40) - 5)), (50, .int .i64 (IntKind.i64.wrap ((aroundI y_ 40) - 5)))] [.gen (rowE (A31) g32 k33 cp34 25 4 (rvals (canR (smallL xs 8))) true), .gen (rowE (A23) g24 k25 cp26 25 4 (rvals (canR (xs.take 8))) true), .gen (rowE (A16) g17 k18 cp19 25 4 (rvals (canR (smallL xs 8))) true), .gen (rowE (A9) g10 k11 cp12 25 4 (rvals (canR (xs.take 8))) true), .gen (rowE (A1) g2 k3 cp4 25 4 (rvals (smallL xs 8)) true), .gen (rdE (A) g o n 4 (rvals xs))] rfl rfl (by kernel_rfl) (by kernel_rfl) ?_
    refine cont_recast 50 (.int .i64 (IntKind.i64.wrap ((aroundI y_ 40) - 5))) (.int .i64 ((aroundI y_ 40) - 5)) rfl (wrapI (by omega) (by omega)) ?_
    refine batch0 [0] 4 0 [(0, .slice (some ⟨g, o, none⟩) 8 cap), (1, .int .i64 x_), (2, .int .i64 y_), (7, .slice A1 k3 cp4), (8, .slice A9 k11 cp12), (9, .slice A16 k18 cp19), (10, .int .i64 ((aroundI x_ 40) - 5)), (11, .int .i64 ((aroundI y_ 40) - 5))] [.gen (rowE (A31) g32 k33 cp34 25 4 (rvals (canR (smallL xs 8))) true), .gen (rowE (A23) g24 k25 cp26 25 4 (rvals (canR (xs.take 8))) true), .gen (rowE (A16) g17 k18 cp19 25 4 (rvals (canR (smallL xs 8))) true), .gen (rowE (A9) g10 k11 cp12 25 4 (rvals (canR (xs.take 8))) true), .gen (rowE (A1) g2 k3 cp4 25 4 (rvals (smallL xs 8)) true), .gen (rdE (A) g o n 4 (rvals xs))] rfl rfl (by kernel_rfl) (by kernel_rfl) ?_
    refine cont_done ?_
    refine then_normal ?_
    refine cont_seq ?_
    refine cont_region 28 rfl ?_
    refine batch0 [0, 0, 0] 3 25 [(0, .slice (some ⟨g, o, none⟩) 8 cap), (1, .int .i64 x_), (2, .int .i64 y_), (7, .slice A1 k3 cp4), (8, .slice A9 k11 cp12), (9, .slice A16 k18 cp19), (10, .int .i64 ((aroundI x_ 40) - 5)), (11, .int .i64 ((aroundI y_ 40) - 5)), (51, .slice A9 k11 cp12), (52, .int .i64 x_), (53, .int .i64 y_)] [.gen (rowE (A31) g32 k33 cp34 25 4 (rvals (canR (smallL xs 8))) true), .gen (rowE (A23) g24 k25 cp26 25 4 (rvals (canR (xs.take 8))) true), .gen (rowE (A16) g17 k18 cp19 25 4 (rvals (canR (smallL xs 8))) true), .gen (rowE (A9) g10 k11 cp12 25 4 (rvals (canR (xs.take 8))) true), .gen (rowE (A1) g2 k3 cp4 25 4 (rvals (smallL xs 8)) true), .gen (rdE (A) g o n 4 (rvals xs))] rfl rfl (by kernel_rfl) (by kernel_rfl) ?_
    refine pl_step 4 24 rfl rfl ?_
    refine call_pure (d := 54) (.bool (hasL (canR (xs.take 8)) x_ y_)) (by kernel_rfl) (fun w hT => regHas A9 g10 0 k11 cp12 (canR (xs.take 8)) x_ y_ w (hT.viewRo (.cons (i := 3) rfl Vw.rowRd .nil) rfl) (by omega)) ?_
    refine cont_recast 54 (.bool (hasL (canR (xs.take 8)) x_ y_)) (.bool (hasL (xs.take 8) x_ y_)) rfl (congrArg (Value.bool) (hasL_can _ _ _)) ?_
    refine batch0 [0, 0, 0] 7 21 [(7, .slice A1 k3 cp4), (8, .slice A9 k11 cp12), (9, .slice A16 k18 cp19), (10, .int .i64 ((aroundI x_ 40) - 5)), (11, .int .i64 ((aroundI y_ 40) - 5)), (54, .bool (hasL (xs.take 8) x_ y_)), (55, .slice (some ⟨g, o, none⟩) 8 cap), (56, .int .i64 x_), (57, .int .i64 y_)] [.gen (rowE (A31) g32 k33 cp34 25 4 (rvals (canR (smallL xs 8))) true), .gen (rowE (A23) g24 k25 cp26 25 4 (rvals (canR (xs.take 8))) true), .gen (rowE (A16) g17 k18 cp19 25 4 (rvals (canR (smallL xs 8))) true), .gen (rowE (A9) g10 k11 cp12 25 4 (rvals (canR (xs.take 8))) true), .gen (rowE (A1) g2 k3 cp4 25 4 (rvals (smallL xs 8)) true), .gen (rdE (A) g o n 4 (rvals xs))] rfl rfl (by kernel_rfl) (by kernel_rfl) ?_
    refine pl_step 8 20 rfl rfl ?_
    refine call_pure (d := 58) (.bool (hasL (xs.take 8) x_ y_)) (by kernel_rfl) (fun w hT => refHasL (some ⟨g, o, none⟩) g o 8 cap (xs.take 8) x_ y_ w (hT.viewRo (.cons (i := 5) rfl (Vw.rdHeadR (by omega) hr.at_ (by omega)) .nil) rfl) (by omega)) ?_
    refine cont_split 54 (hasL (xs.take 8) x_ y_) rfl (fun c43_ => ?_) (fun c43_ => ?_)
    ·
      refine cont_recast 58 (.bool (hasL (xs.take 8) x_ y_)) (.bool true) rfl (congrArg Value.bool c43_) ?_
      refine batch0 [0, 0, 0, 0, 0] 13 15 [(7, .slice A1 k3 cp4), (8, .slice A9 k11 cp12), (10, .int .i64 ((aroundI x_ 40) - 5)), (11, .int .i64 ((aroundI y_ 40) - 5)), (60, .bool true), (61, .slice A16 k18 cp19), (62, .int .i64 ((aroundI x_ 40) - 5)), (63, .int .i64 ((aroundI y_ 40) - 5))] [.gen (rowE (A31) g32 k33 cp34 25 4 (rvals (canR (smallL xs 8))) true), .gen (rowE (A23) g24 k25 cp26 25 4 (rvals (canR (xs.take 8))) true), .gen (rowE (A16) g17 k18 cp19 25 4 (rvals (canR (smallL xs 8))) true), .gen (rowE (A9) g10 k11 cp12 25 4 (rvals (canR (xs.take 8))) true), .gen (rowE (A1) g2 k3 cp4 25 4 (rvals (smallL xs 8)) true), .gen (rdE (A) g o n 4 (rvals xs))] rfl rfl (by kernel_rfl) (by kernel_rfl) ?_
      refine pl_step 14 14 rfl rfl ?_
      refine call_pure (d := 64) (.bool (hasL (canR (smallL xs 8)) ((aroundI x_ 40) - 5) ((aroundI y_ 40) - 5))) (by kernel_rfl) (fun w hT => regHas A16 g17 0 k18 cp19 (canR (smallL xs 8)) ((aroundI x_ 40) - 5) ((aroundI y_ 40) - 5) w (hT.viewRo (.cons (i := 2) rfl Vw.rowRd .nil) rfl) (by omega)) ?_
      refine cont_recast 64 (.bool (hasL (canR (smallL xs 8)) ((aroundI x_ 40) - 5) ((aroundI y_ 40) - 5))) (.bool (hasL (smallL xs 8) ((aroundI x_ 40) - 5) ((aroundI y_ 40) - 5))) rfl (congrArg (Value.bool) (hasL_can _ _ _)) ?_
      refine batch0 [0, 0, 0] 17 11 [(8, .slice A9 k11 cp12), (60, .bool true), (64, .bool (hasL (smallL xs 8) ((aroundI x_ 40) - 5) ((aroundI y_ 40) - 5))), (65, .slice A1 k3 cp4), (66, .int .i64 ((aroundI x_ 40) - 5)), (67, .int .i64 ((aroundI y_ 40) - 5))] [.gen (rowE (A31) g32 k33 cp34 25 4 (rvals (canR (smallL xs 8))) true), .gen (rowE (A23) g24 k25 cp26 25 4 (rvals (canR (xs.take 8))) true), .gen (rowE (A16) g17 k18 cp19 25 4 (rvals (canR (smallL xs 8))) true), .gen (rowE (A9) g10 k11 cp12 25 4 (rvals (canR (xs.take 8))) true), .gen (rowE (A1) g2 k3 cp4 25 4 (rvals (smallL xs 8)) true), .gen (rdE (A) g o n 4 (rvals xs))] rfl rfl (by kernel_rfl) (by kernel_rfl) ?_
      refine pl_step 18 10 rfl rfl ?_
      refine call_pure (d := 68) (.bool (hasL (smallL xs 8) ((aroundI x_ 40) - 5) ((aroundI y_ 40) - 5))) (by kernel_rfl) (fun w hT => refHasL A1 g2 0 k3 cp4 (smallL xs 8) ((aroundI x_ 40) - 5) ((aroundI y_ 40) - 5) w (hT.viewRo (.cons (i := 4) rfl Vw.rowRd .nil) rfl) (by omega)) ?_
      refine cont_split 64 (hasL (smallL xs 8) ((aroundI x_ 40) - 5) ((aroundI y_ 40) - 5)) rfl (fun c44_ => ?_) (fun c44_ => ?_)
      ·
        refine cont_recast 68 (.bool (hasL (smallL xs 8) ((aroundI x_ 40) - 5) ((aroundI y_ 40) - 5))) (.bool true) rfl (congrArg Value.bool c44_) ?_
        refine batch0 [0, 0, 0, 0] 22 6 [(71, .bool true), (72, .slice A9 k11 cp12)] [.gen (rowE (A31) g32 k33 cp34 25 4 (rvals (canR (smallL xs 8))) true), .gen (rowE (A23) g24 k25 cp26 25 4 (rvals (canR (xs.take 8))) true), .gen (rowE (A16) g17 k18 cp19 25 4 (rvals (canR (smallL xs 8))) true), .gen (rowE (A9) g10 k11 cp12 25 4 (rvals (canR (xs.take 8))) true), .gen (rowE (A1) g2 k3 cp4 25 4 (rvals (smallL xs 8)) true), .gen (rdE (A) g o n 4 (rvals xs))] rfl rfl (by kernel_rfl) (by kernel_rfl) ?_
        refine pl_step 23 5 rfl rfl ?_
        refine call_pure (d := 73) (.bool (decide ((canR (xs.take 8)) = canR (canR (xs.take 8))))) (by kernel_rfl) (fun w hT => regMay A9 g10 0 k11 cp12 (canR (xs.take 8)) w (hT.viewRo (.cons (i := 3) rfl Vw.rowRd .nil) rfl) (by omega)) ?_
        refine batch0 [0, 0] 25 3 [(75, .bool (decide ((canR (xs.take 8)) = canR (canR (xs.take 8)))))] [.gen (rowE (A31) g32 k33 cp34 25 4 (rvals (canR (smallL xs 8))) true), .gen (rowE (A23) g24 k25 cp26 25 4 (rvals (canR (xs.take 8))) true), .gen (rowE (A16) g17 k18 cp19 25 4 (rvals (canR (smallL xs 8))) true), .gen (rowE (A9) g10 k11 cp12 25 4 (rvals (canR (xs.take 8))) true), .gen (rowE (A1) g2 k3 cp4 25 4 (rvals (smallL xs 8)) true), .gen (rdE (A) g o n 4 (rvals xs))] rfl rfl (by kernel_rfl) (by kernel_rfl) ?_
        refine cont_recast 75 (.bool (decide ((canR (xs.take 8)) = canR (canR (xs.take 8))))) (.bool true) rfl (congrArg Value.bool (decide_eq_true (canR_idem _).symm)) ?_
        refine pl_step 26 2 rfl rfl ?_
        refine call_pure (d := 76) (.bool true) (by kernel_rfl) (fun w hT => lives2  w) ?_
        refine batch0 [0, 0] 28 0 [(6, .bool true)] [.gen (rowE (A31) g32 k33 cp34 25 4 (rvals (canR (smallL xs 8))) true), .gen (rowE (A23) g24 k25 cp26 25 4 (rvals (canR (xs.take 8))) true), .gen (rowE (A16) g17 k18 cp19 25 4 (rvals (canR (smallL xs 8))) true), .gen (rowE (A9) g10 k11 cp12 25 4 (rvals (canR (xs.take 8))) true), .gen (rowE (A1) g2 k3 cp4 25 4 (rvals (smallL xs 8)) true), .gen (rdE (A) g o n 4 (rvals xs))] rfl rfl (by kernel_rfl) (by kernel_rfl) ?_
        refine cont_done ?_
        refine then_normal ?_
        refine cont_ret ?_
        refine ret_one (.inl rfl) rfl 0 (.bool true) (by kernel_rfl) (by kernel_rfl) (fun w hT => ?_)
        exact ⟨rfl, hT.post rfl⟩
      refine cont_recast 68 (.bool (hasL (smallL xs 8) ((aroundI x_ 40) - 5) ((aroundI y_ 40) - 5))) (.bool false) rfl (congrArg Value.bool c44_) ?_
      refine batch0 [0, 0, 0, 0] 22 6 [(71, .bool true), (72, .slice A9 k11 cp12)] [.gen (rowE (A31) g32 k33 cp34 25 4 (rvals (canR (smallL xs 8))) true), .gen (rowE (A23) g24 k25 cp26 25 4 (rvals (canR (xs.take 8))) true), .gen (rowE (A16) g17 k18 cp19 25 4 (rvals (canR (smallL xs 8))) true), .gen (rowE (A9) g10 k11 cp12 25 4 (rvals (canR (xs.take 8))) true), .gen (rowE (A1) g2 k3 cp4 25 4 (rvals (smallL xs 8)) true), .gen (rdE (A) g o n 4 (rvals xs))] rfl rfl (by kernel_rfl) (by kernel_rfl) ?_
      refine pl_step 23 5 rfl rfl ?_
      refine call_pure (d := 73) (.bool (decide ((canR (xs.take 8)) = canR (canR (xs.take 8))))) (by kernel_rfl) (fun w hT => regMay A9 g10 0 k11 cp12 (canR (xs.take 8)) w (hT.viewRo (.cons (i := 3) rfl Vw.rowRd .nil) rfl) (by omega)) ?_
      refine batch0 [0, 0] 25 3 [(75, .bool (decide ((canR (xs.take 8)) = canR (canR (xs.take 8)))))] [.gen (rowE (A31) g32 k33 cp34 25 4 (rvals (canR (smallL xs 8))) true), .gen (rowE (A23) g24 k25 cp26 25 4 (rvals (canR (xs.take 8))) true), .gen (rowE (A16) g17 k18 cp19 25 4 (rvals (canR (smallL xs 8))) true), .gen (rowE (A9) g10 k11 cp12 25 4 (rvals (canR (xs.take 8))) true), .gen (rowE (A1) g2 k3 cp4 25 4 (rvals (smallL xs 8)) true), .gen (rdE (A) g o n 4 (rvals xs))] rfl rfl (by kernel_rfl) (by kernel_rfl) ?_
      refine cont_recast 75 (.bool (decide ((canR (xs.take 8)) = canR (canR (xs.take 8))))) (.bool true) rfl (congrArg Value.bool (decide_eq_true (canR_idem _).symm)) ?_
      refine pl_step 26 2 rfl rfl ?_
      refine call_pure (d := 76) (.bool true) (by kernel_rfl) (fun w hT => lives2  w) ?_
      refine batch0 [0, 0] 28 0 [(6, .bool true)] [.gen (rowE (A31) g32 k33 cp34 25 4 (rvals (canR (smallL xs 8))) true), .gen (rowE (A23) g24 k25 cp26 25 4 (rvals (canR (xs.take 8))) true), .gen (rowE (A16) g17 k18 cp19 25 4 (rvals (canR (smallL xs 8))) true), .gen (rowE (A9) g10 k11 cp12 25 4 (rvals (canR (xs.take 8))) true), .gen (rowE (A1) g2 k3 cp4 25 4 (rvals (smallL xs 8)) true), .gen (rdE (A) g o n 4 (rvals xs))] rfl rfl (by kernel_rfl) (by kernel_rfl) ?_
      refine cont_done ?_
      refine then_normal ?_
      refine cont_ret ?_
      refine ret_one (.inl rfl) rfl 0 (.bool true) (by kernel_rfl) (by kernel_rfl) (fun w hT => ?_)
      exact ⟨rfl, hT.post rfl⟩
    refine cont_recast 58 (.bool (hasL (xs.take 8) x_ y_)) (.bool false) rfl (congrArg Value.bool c43_) ?_
    refine batch0 [0, 0, 0, 0, 0] 13 15 [(7, .slice A1 k3 cp4), (8, .slice A9 k11 cp12), (10, .int .i64 ((aroundI x_ 40) - 5)), (11, .int .i64 ((aroundI y_ 40) - 5)), (60, .bool true), (61, .slice A16 k18 cp19), (62, .int .i64 ((aroundI x_ 40) - 5)), (63, .int .i64 ((aroundI y_ 40) - 5))] [.gen (rowE (A31) g32 k33 cp34 25 4 (rvals (canR (smallL xs 8))) true), .gen (rowE (A23) g24 k25 cp26 25 4 (rvals (canR (xs.take 8))) true), .gen (rowE (A16) g17 k18 cp19 25 4 (rvals (canR (smallL xs 8))) true), .gen (rowE (A9) g10 k11 cp12 25 4 (rvals (canR (xs.take 8))) true), .gen (rowE (A1) g2 k3 cp4 25 4 (rvals (smallL xs 8)) true), .gen (rdE (A) g o n 4 (rvals xs))] rfl rfl (by kernel_rfl) (by kernel_rfl) ?_
    refine pl_step 14 14 rfl rfl ?_
    refine call_pure (d := 64) (.bool (hasL (canR (smallL xs 8)) ((aroundI x_ 40) - 5) ((aroundI y_ 40) - 5))) (by kernel_rfl) (fun w hT => regHas A16 g17 0 k18 cp19 (canR (smallL xs 8)) ((aroundI x_ 40) - 5) ((aroundI y_ 40) - 5) w (hT.viewRo (.cons (i := 2) rfl Vw.rowRd .nil) rfl) (by omega)) ?_
    refine cont_recast 64 (.bool (hasL (canR (smallL xs 8)) ((aroundI x_ 40) - 5) ((aroundI y_ 40) - 5))) (.bool (hasL (smallL xs 8) ((aroundI x_ 40) - 5) ((aroundI y_ 40) - 5))) rfl (congrArg (Value.bool) (hasL_can _ _ _)) ?_
    refine batch0 [0, 0, 0] 17 11 [(8, .slice A9 k11 cp12), (60, .bool true), (64, .bool (hasL (smallL xs 8) ((aroundI x_ 40) - 5) ((aroundI y_ 40) - 5))), (65, .slice A1 k3 cp4), (66, .int .i64 ((aroundI x_ 40) - 5)), (67, .int .i64 ((aroundI y_ 40) - 5))] [.gen (rowE (A31) g32 k33 cp34 25 4 (rvals (canR (smallL xs 8))) true), .gen (rowE (A23) g24 k25 cp26 25 4 (rvals (canR (xs.take 8))) true), .gen (rowE (A16) g17 k18 cp19 25 4 (rvals (canR (smallL xs 8))) true), .gen (rowE (A9) g10 k11 cp12 25 4 (rvals (canR (xs.take 8))) true), .gen (rowE (A1) g2 k3 cp4 25 4 (rvals (smallL xs 8)) true), .gen (rdE (A) g o n 4 (rvals xs))] rfl rfl (by kernel_rfl) (by kernel_rfl) ?_
    refine pl_step 18 10 rfl rfl ?_
    refine call_pure (d := 68) (.bool (hasL (smallL xs 8) ((aroundI x_ 40) - 5) ((aroundI y_ 40) - 5))) (by kernel_rfl) (fun w hT => refHasL A1 g2 0 k3 cp4 (smallL xs 8) ((aroundI x_ 40) - 5) ((aroundI y_ 40) - 5) w (hT.viewRo (.cons (i := 4) rfl Vw.rowRd .nil) rfl) (by omega)) ?_
    refine cont_split 64 (hasL (smallL xs 8) ((aroundI x_ 40) - 5) ((aroundI y_ 40) - 5)) rfl (fun c47_ => ?_) (fun c47_ => ?_)
    ·
      refine cont_recast 68 (.bool (hasL (smallL xs 8) ((aroundI x_ 40) - 5) ((aroundI y_ 40) - 5))) (.bool true) rfl (congrArg Value.bool c47_) ?_
      refine batch0 [0, 0, 0, 0] 22 6 [(71, .bool true), (72, .slice A9 k11 cp12)] [.gen (rowE (A31) g32 k33 cp34 25 4 (rvals (canR (smallL xs 8))) true), .gen (rowE (A23) g24 k25 cp26 25 4 (rvals (canR (xs.take 8))) true), .gen (rowE (A16) g17 k18 cp19 25 4 (rvals (canR (smallL xs 8))) true), .gen (rowE (A9) g10 k11 cp12 25 4 (rvals (canR (xs.take 8))) true), .gen (rowE (A1) g2 k3 cp4 25 4 (rvals (smallL xs 8)) true), .gen (rdE (A) g o n 4 (rvals xs))] rfl rfl (by kernel_rfl) (by kernel_rfl) ?_
      refine pl_step 23 5 rfl rfl ?_
      refine call_pure (d := 73) (.bool (decide ((canR (xs.take 8)) = canR (canR (xs.take 8))))) (by kernel_rfl) (fun w hT => regMay A9 g10 0 k11 cp12 (canR (xs.take 8)) w (hT.viewRo (.cons (i := 3) rfl Vw.rowRd .nil) rfl) (by omega)) ?_
      refine batch0 [0, 0] 25 3 [(75, .bool (decide ((canR (xs.take 8)) = canR (canR (xs.take 8)))))] [.gen (rowE (A31) g32 k33 cp34 25 4 (rvals (canR (smallL xs 8))) true), .gen (rowE (A23) g24 k25 cp26 25 4 (rvals (canR (xs.take 8))) true), .gen (rowE (A16) g17 k18 cp19 25 4 (rvals (canR (smallL xs 8))) true), .gen (rowE (A9) g10 k11 cp12 25 4 (rvals (canR (xs.take 8))) true), .gen (rowE (A1) g2 k3 cp4 25 4 (rvals (smallL xs 8)) true), .gen (rdE (A) g o n 4 (rvals xs))] rfl rfl (by kernel_rfl) (by kernel_rfl) ?_
      refine cont_recast 75 (.bool (decide ((canR (xs.take 8)) = canR (canR (xs.take 8))))) (.bool true) rfl (congrArg Value.bool (decide_eq_true (canR_idem _).symm)) ?_
      refine pl_step 26 2 rfl rfl ?_
      refine call_pure (d := 76) (.bool true) (by kernel_rfl) (fun w hT => lives2  w) ?_
      refine batch0 [0, 0] 28 0 [(6, .bool true)] [.gen (rowE (A31) g32 k33 cp34 25 4 (rvals (canR (smallL xs 8))) true), .gen (rowE (A23) g24 k25 cp26 25 4 (rvals (canR (xs.take 8))) true), .gen (rowE (A16) g17 k18 cp19 25 4 (rvals (canR (smallL xs 8))) true), .gen (rowE (A9) g10 k11 cp12 25 4 (rvals (canR (xs.take 8))) true), .gen (rowE (A1) g2 k3 cp4 25 4 (rvals (smallL xs 8)) true), .gen (rdE (A) g o n 4 (rvals xs))] rfl rfl (by kernel_rfl) (by kernel_rfl) ?_
      refine cont_done ?_
      refine then_normal ?_
      refine cont_ret ?_
      refine ret_one (.inl rfl) rfl 0 (.bool true) (by kernel_rfl) (by kernel_rfl) (fun w hT => ?_)
      exact ⟨rfl, hT.post rfl⟩
    refine cont_recast 68 (.bool (hasL (smallL xs 8) ((aroundI x_ 40) - 5) ((aroundI y_ 40) - 5))) (.bool false) rfl (congrArg Value.bool c47_) ?_
    refine batch0 [0, 0, 0, 0] 22 6 [(71, .bool true), (72, .slice A9 k11 cp12)] [.gen (rowE (A31) g32 k33 cp34 25 4 (rvals (canR (smallL xs 8))) true), .gen (rowE (A23) g24 k25 cp26 25 4 (rvals (canR (xs.take 8))) true), .gen (rowE (A16) g17 k18 cp19 25 4 (rvals (canR (smallL xs 8))) true), .gen (rowE (A9) g10 k11 cp12 25 4 (rvals (canR (xs.take 8))) true), .gen (rowE (A1) g2 k3 cp4 25 4 (rvals (smallL xs 8)) true), .gen (rdE (A) g o n 4 (rvals xs))] rfl rfl (by kernel_rfl) (by kernel_rfl) ?_
    refine pl_step 23 5 rfl rfl ?_
    refine call_pure (d := 73) (.bool (decide ((canR (xs.take 8)) = canR (canR (xs.take 8))))) (by kernel_rfl) (fun w hT => regMay A9 g10 0 k11 cp12 (canR (xs.take 8)) w (hT.viewRo (.cons (i := 3) rfl Vw.rowRd .nil) rfl) (by omega)) ?_
    refine batch0 [0, 0] 25 3 [(75, .bool (decide ((canR (xs.take 8)) = canR (canR (xs.take 8)))))] [.gen (rowE (A31) g32 k33 cp34 25 4 (rvals (canR (smallL xs 8))) true), .gen (rowE (A23) g24 k25 cp26 25 4 (rvals (canR (xs.take 8))) true), .gen (rowE (A16) g17 k18 cp19 25 4 (rvals (canR (smallL xs 8))) true), .gen (rowE (A9) g10 k11 cp12 25 4 (rvals (canR (xs.take 8))) true), .gen (rowE (A1) g2 k3 cp4 25 4 (rvals (smallL xs 8)) true), .gen (rdE (A) g o n 4 (rvals xs))] rfl rfl (by kernel_rfl) (by kernel_rfl) ?_
    refine cont_recast 75 (.bool (decide ((canR (xs.take 8)) = canR (canR (xs.take 8))))) (.bool true) rfl (congrArg Value.bool (decide_eq_true (canR_idem _).symm)) ?_
    refine pl_step 26 2 rfl rfl ?_
    refine call_pure (d := 76) (.bool true) (by kernel_rfl) (fun w hT => lives2  w) ?_
    refine batch0 [0, 0] 28 0 [(6, .bool true)] [.gen (rowE (A31) g32 k33 cp34 25 4 (rvals (canR (smallL xs 8))) true), .gen (rowE (A23) g24 k25 cp26 25 4 (rvals (canR (xs.take 8))) true), .gen (rowE (A16) g17 k18 cp19 25 4 (rvals (canR (smallL xs 8))) true), .gen (rowE (A9) g10 k11 cp12 25 4 (rvals (canR (xs.take 8))) true), .gen (rowE (A1) g2 k3 cp4 25 4 (rvals (smallL xs 8)) true), .gen (rdE (A) g o n 4 (rvals xs))] rfl rfl (by kernel_rfl) (by kernel_rfl) ?_
    refine cont_done ?_
    refine then_normal ?_
    refine cont_ret ?_
    refine ret_one (.inl rfl) rfl 0 (.bool true) (by kernel_rfl) (by kernel_rfl) (fun w hT => ?_)
    exact ⟨rfl, hT.post rfl⟩
  replace c8_ := of_decide_eq_false c8_
  refine cont_false rfl ?_
  refine cont_skip ?_
  refine then_normal ?_
  refine cont_seq ?_
  refine cont_region 3 rfl ?_
  refine batch0 [0] 1 2 [(0, .slice A n cap), (1, .int .i64 x_), (2, .int .i64 y_), (7, .slice A1 k3 cp4), (19, .slice A n cap)] [.gen (rowE (A1) g2 k3 cp4 25 4 (rvals (smallL xs 8)) true), .gen (rdE (A) g o n 4 (rvals xs))] rfl rfl (by kernel_rfl) (by kernel_rfl) ?_
  refine pl_step 2 1 rfl rfl ?_
  refine call_gen (d := 20) (α := Option Addr × Nat × Nat × Nat) (fun x_ => .slice x_.1 x_.2.2.1 x_.2.2.2) (fun x_ => [.gen (rowE (x_.1) x_.2.1 x_.2.2.1 x_.2.2.2 25 4 (rvals (canR xs)) true), .gen (rowE (A1) g2 k3 cp4 25 4 (rvals (smallL xs 8)) true), .gen (rdE (A) g o n 4 (rvals xs))]) (fun x_ => True) (by kernel_rfl) (fun w hT => (regOf A g o n cap xs w (hT.viewRo (.cons (i := 1) rfl Vw.rd .nil) rfl) (by omega)).mono fun e w' ⟨A50, g51, k52, cp53, he_, ht_⟩ => ⟨(A50, g51, k52, cp53), he_, trivial, hT.news ht_ rfl⟩) ?_
  rintro ⟨A50, g51, k52, cp53⟩ hf54_
  refine cont_norm [(0, .slice A n cap), (1, .int .i64 x_), (2, .int .i64 y_), (7, .slice A1 k3 cp4), (19, .slice A n cap), (20, .slice A50 k52 cp53)] [.gen (rowE (A50) g51 k52 cp53 25 4 (rvals (canR xs)) true), .gen (rowE (A1) g2 k3 cp4 25 4 (rvals (smallL xs 8)) true), .gen (rdE (A) g o n 4 (rvals xs))] (by kernel_rfl) rfl ?_
  refine cont_fact (F := (0 < k52 → (A50 : Option Addr) = some ⟨g51, 0, none⟩) ∧ (canR xs).length = k52 ∧ k52 ≤ cp53 ∧ cp53 ≤ maxLen) (fun w hT => Row.factsR (hT.ok 0 _ rfl)) (fun hr55_ => ?_)
  obtain ⟨hr55_a, hr55_l, hr55_c, hr55_m⟩ := hr55_
  unfold maxLen at hr55_m
  have hco56_ := canR_small (l := xs) (by first | omega | (rw [List.length_take]; omega) | simp)
  refine batch0 [0] 3 0 [(0, .slice A n cap), (1, .int .i64 x_), (2, .int .i64 y_), (7, .slice A1 k3 cp4), (8, .slice A50 k52 cp53)] [.gen (rowE (A50) g51 k52 cp53 25 4 (rvals (canR xs)) true), .gen (rowE (A1) g2 k3 cp4 25 4 (rvals (smallL xs 8)) true), .gen (rdE (A) g o n 4 (rvals xs))] rfl rfl (by kernel_rfl) (by kernel_rfl) ?_
  refine cont_done ?_
  refine then_normal ?_
  refine cont_seq ?_
  refine cont_region 3 rfl ?_
  refine batch0 [0] 1 2 [(0, .slice A n cap), (1, .int .i64 x_), (2, .int .i64 y_), (7, .slice A1 k3 cp4), (8, .slice A50 k52 cp53), (21, .slice A1 k3 cp4)] [.gen (rowE (A50) g51 k52 cp53 25 4 (rvals (canR xs)) true), .gen (rowE (A1) g2 k3 cp4 25 4 (rvals (smallL xs 8)) true), .gen (rdE (A) g o n 4 (rvals xs))] rfl rfl (by kernel_rfl) (by kernel_rfl) ?_
  refine pl_step 2 1 rfl rfl ?_
  refine call_gen (d := 22) (α := Option Addr × Nat × Nat × Nat) (fun x_ => .slice x_.1 x_.2.2.1 x_.2.2.2) (fun x_ => [.gen (rowE (x_.1) x_.2.1 x_.2.2.1 x_.2.2.2 25 4 (rvals (canR (smallL xs 8))) true), .gen (rowE (A50) g51 k52 cp53 25 4 (rvals (canR xs)) true), .gen (rowE (A1) g2 k3 cp4 25 4 (rvals (smallL xs 8)) true), .gen (rdE (A) g o n 4 (rvals xs))]) (fun x_ => True) (by kernel_rfl) (fun w hT => (regOf A1 g2 0 k3 cp4 (smallL xs 8) w (hT.viewRo (.cons (i := 1) rfl Vw.rowRd .nil) rfl) (by omega)).mono fun e w' ⟨A57, g58, k59, cp60, he_, ht_⟩ => ⟨(A57, g58, k59, cp60), he_, trivial, hT.news ht_ rfl⟩) ?_
  rintro ⟨A57, g58, k59, cp60⟩ hf61_
  refine cont_norm [(0, .slice A n cap), (1, .int .i64 x_), (2, .int .i64 y_), (7, .slice A1 k3 cp4), (8, .slice A50 k52 cp53), (21, .slice A1 k3 cp4), (22, .slice A57 k59 cp60)] [.gen (rowE (A57) g58 k59 cp60 25 4 (rvals (canR (smallL xs 8))) true), .gen (rowE (A50) g51 k52 cp53 25 4 (rvals (canR xs)) true), .gen (rowE (A1) g2 k3 cp4 25 4 (rvals (smallL xs 8)) true), .gen (rdE (A) g o n 4 (rvals xs))] (by kernel_rfl) rfl ?_
  refine cont_fact (F := (0 < k59 → (A57 : Option Addr) = some ⟨g58, 0, none⟩) ∧ (canR (smallL xs 8)).length = k59 ∧ k59 ≤ cp60 ∧ cp60 ≤ maxLen) (fun w hT => Row.factsR (hT.ok 0 _ rfl)) (fun hr62_ => ?_)
  obtain ⟨hr62_a, hr62_l, hr62_c, hr62_m⟩ := hr62_
  unfold maxLen at hr62_m
  have hco63_ := canR_small (l := (smallL xs 8)) (by first | omega | (rw [List.length_take]; omega) | simp)
  refine batch0 [0] 3 0 [(0, .slice A n cap), (1, .int .i64 x_), (2, .int .i64 y_), (7, .slice A1 k3 cp4), (8, .slice A50 k52 cp53), (9, .slice A57 k59 cp60)] [.gen (rowE (A57) g58 k59 cp60 25 4 (rvals (canR (smallL xs 8))) true), .gen (rowE (A50) g51 k52 cp53 25 4 (rvals (canR xs)) true), .gen (rowE (A1) g2 k3 cp4 25 4 (rvals (smallL xs 8)) true), .gen (rdE (A) g o n 4 (rvals xs))] rfl rfl (by kernel_rfl) (by kernel_rfl) ?_
  refine cont_done ?_
  refine then_normal ?_
  refine cont_seq ?_
  refine cont_seq ?_
  refine cont_region 22 rfl ?_
  refine batch0 [0, 0] 2 20 [(0, .slice A n cap), (1, .int .i64 x_), (2, .int .i64 y_), (7, .slice A1 k3 cp4), (8, .slice A50 k52 cp53), (9, .slice A57 k59 cp60), (23, .slice A50 k52 cp53), (24, .slice A n cap)] [.gen (rowE (A57) g58 k59 cp60 25 4 (rvals (canR (smallL xs 8))) true), .gen (rowE (A50) g51 k52 cp53 25 4 (rvals (canR xs)) true), .gen (rowE (A1) g2 k3 cp4 25 4 (rvals (smallL xs 8)) true), .gen (rdE (A) g o n 4 (rvals xs))] rfl rfl (by kernel_rfl) (by kernel_rfl) ?_
  refine pl_step 3 19 rfl rfl ?_
  refine call_gen (d := 25) (α := Option Addr × Nat × Nat × Nat) (fun x_ => .slice x_.1 x_.2.2.1 x_.2.2.2) (fun x_ => [.gen (rowE (x_.1) x_.2.1 x_.2.2.1 x_.2.2.2 25 4 (rvals (canR xs)) true), .gen (rowE (A57) g58 k59 cp60 25 4 (rvals (canR (smallL xs 8))) true), .gen (rowE (A50) g51 k52 cp53 25 4 (rvals (canR xs)) true), .gen (rowE (A1) g2 k3 cp4 25 4 (rvals (smallL xs 8)) true), .gen (rdE (A) g o n 4 (rvals xs))]) (fun x_ => True) (by kernel_rfl) (fun w hT => (refOf A g o n cap xs w (hT.viewRo (.cons (i := 3) rfl Vw.rd .nil) rfl) (by omega)).mono fun e w' ⟨A64, g65, k66, cp67, he_, ht_⟩ => ⟨(A64, g65, k66, cp67), he_, trivial, hT.news ht_ rfl⟩) ?_
  rintro ⟨A64, g65, k66, cp67⟩ hf68_
  refine cont_norm [(0, .slice A n cap), (1, .int .i64 x_), (2, .int .i64 y_), (7, .slice A1 k3 cp4), (8, .slice A50 k52 cp53), (9, .slice A57 k59 cp60), (23, .slice A50 k52 cp53), (24, .slice A n cap), (25, .slice A64 k66 cp67)] [.gen (rowE (A64) g65 k66 cp67 25 4 (rvals (canR xs)) true), .gen (rowE (A57) g58 k59 cp60 25 4 (rvals (canR (smallL xs 8))) true), .gen (rowE (A50) g51 k52 cp53 25 4 (rvals (canR xs)) true), .gen (rowE (A1) g2 k3 cp4 25 4 (rvals (smallL xs 8)) true), .gen (rdE (A) g o n 4 (rvals xs))] (by kernel_rfl) rfl ?_
  refine cont_fact (F := (0 < k66 → (A64 : Option Addr) = some ⟨g65, 0, none⟩) ∧ (canR xs).length = k66 ∧ k66 ≤ cp67 ∧ cp67 ≤ maxLen) (fun w hT => Row.factsR (hT.ok 0 _ rfl)) (fun hr69_ => ?_)
  obtain ⟨hr69_a, hr69_l, hr69_c, hr69_m⟩ := hr69_
  unfold maxLen at hr69_m
  have hco70_ := canR_small (l := xs) (by first | omega | (rw [List.length_take]; omega) | simp)
  refine pl_step 4 18 rfl rfl ?_
  refine call_pure (d := 26) (.bool (decide ((canR xs) = (canR xs)))) (by kernel_rfl) (fun w hT => refSame A50 g51 0 k52 cp53 (canR xs) A64 g65 0 k66 cp67 (canR xs) w (hT.viewRo (.cons (i := 2) rfl Vw.rowRd (.cons (i := 0) rfl Vw.rowRd .nil)) rfl) (by omega)) ?_
  refine batch0 [0, 0] 6 16 [(0, .slice A n cap), (1, .int .i64 x_), (2, .int .i64 y_), (7, .slice A1 k3 cp4), (8, .slice A50 k52 cp53), (9, .slice A57 k59 cp60), (28, .bool (!(decide ((canR xs) = (canR xs)))))] [.gen (rowE (A64) g65 k66 cp67 25 4 (rvals (canR xs)) true), .gen (rowE (A57) g58 k59 cp60 25 4 (rvals (canR (smallL xs 8))) true), .gen (rowE (A50) g51 k52 cp53 25 4 (rvals (canR xs)) true), .gen (rowE (A1) g2 k3 cp4 25 4 (rvals (smallL xs 8)) true), .gen (rdE (A) g o n 4 (rvals xs))] rfl rfl (by kernel_rfl) (by kernel_rfl) ?_
  refine cont_recast 28 (.bool (!(decide ((canR xs) = (canR xs))))) (.bool false) rfl (congrArg Value.bool (by rw [show (decide ((canR xs) = (canR xs))) = true from (decide_eq_true rfl)]; rfl)) ?_
  refine batch0 [0, 0] 8 14 [(0, .slice A n cap), (1, .int .i64 x_), (2, .int .i64 y_), (7, .slice A1 k3 cp4), (8, .slice A50 k52 cp53), (9, .slice A57 k59 cp60), (28, .bool false), (29, .slice A57 k59 cp60), (30, .slice A1 k3 cp4)] [.gen (rowE (A64) g65 k66 cp67 25 4 (rvals (canR xs)) true), .gen (rowE (A57) g58 k59 cp60 25 4 (rvals (canR (smallL xs 8))) true), .gen (rowE (A50) g51 k52 cp53 25 4 (rvals (canR xs)) true), .gen (rowE (A1) g2 k3 cp4 25 4 (rvals (smallL xs 8)) true), .gen (rdE (A) g o n 4 (rvals xs))] rfl rfl (by kernel_rfl) (by kernel_rfl) ?_
  refine pl_step 9 13 rfl rfl ?_
  refine call_gen (d := 31) (α := Option Addr × Nat × Nat × Nat) (fun x_ => .slice x_.1 x_.2.2.1 x_.2.2.2) (fun x_ => [.gen (rowE (x_.1) x_.2.1 x_.2.2.1 x_.2.2.2 25 4 (rvals (canR (smallL xs 8))) true), .gen (rowE (A64) g65 k66 cp67 25 4 (rvals (canR xs)) true), .gen (rowE (A57) g58 k59 cp60 25 4 (rvals (canR (smallL xs 8))) true), .gen (rowE (A50) g51 k52 cp53 25 4 (rvals (canR xs)) true), .gen (rowE (A1) g2 k3 cp4 25 4 (rvals (smallL xs 8)) true), .gen (rdE (A) g o n 4 (rvals xs))]) (fun x_ => True) (by kernel_rfl) (fun w hT => (refOf A1 g2 0 k3 cp4 (smallL xs 8) w (hT.viewRo (.cons (i := 3) rfl Vw.rowRd .nil) rfl) (by omega)).mono fun e w' ⟨A72, g73, k74, cp75, he_, ht_⟩ => ⟨(A72, g73, k74, cp75), he_, trivial, hT.news ht_ rfl⟩) ?_
  rintro ⟨A72, g73, k74, cp75⟩ hf76_
  refine cont_norm [(0, .slice A n cap), (1, .int .i64 x_), (2, .int .i64 y_), (7, .slice A1 k3 cp4), (8, .slice A50 k52 cp53), (9, .slice A57 k59 cp60), (28, .bool false), (29, .slice A57 k59 cp60), (30, .slice A1 k3 cp4), (31, .slice A72 k74 cp75)] [.gen (rowE (A72) g73 k74 cp75 25 4 (rvals (canR (smallL xs 8))) true), .gen (rowE (A64) g65 k66 cp67 25 4 (rvals (canR xs)) true), .gen (rowE (A57) g58 k59 cp60 25 4 (rvals (canR (smallL xs 8))) true), .gen (rowE (A50) g51 k52 cp53 25 4 (rvals (canR xs)) true), .gen (rowE (A1) g2 k3 cp4 25 4 (rvals (smallL xs 8)) true), .gen (rdE (A) g o n 4 (rvals xs))] (by kernel_rfl) rfl ?_
  refine cont_fact (F := (0 < k74 → (A72 : Option Addr) = some ⟨g73, 0, none⟩) ∧ (canR (smallL xs 8)).length = k74 ∧ k74 ≤ cp75 ∧ cp75 ≤ maxLen) (fun w hT => Row.factsR (hT.ok 0 _ rfl)) (fun hr77_ => ?_)
  obtain ⟨hr77_a, hr77_l, hr77_c, hr77_m⟩ := hr77_
  unfold maxLen at hr77_m
  have hco78_ := canR_small (l := (smallL xs 8)) (by first | omega | (rw [List.length_take]; omega) | simp)
  refine pl_step 10 12 rfl rfl ?_
  refine call_pure (d := 32) (.bool (decide ((canR (smallL xs 8)) = (canR (smallL xs 8))))) (by kernel_rfl) (fun w hT => refSame A57 g58 0 k59 cp60 (canR (smallL xs 8)) A72 g73 0 k74 cp75 (canR (smallL xs 8)) w (hT.viewRo (.cons (i := 2) rfl Vw.rowRd (.cons (i := 0) rfl Vw.rowRd .nil)) rfl) (by omega)) ?_
  refine batch0 [0, 0, 0] 13 9 [(0, .slice A n cap), (1, .int .i64 x_), (2, .int .i64 y_), (7, .slice A1 k3 cp4), (8, .slice A50 k52 cp53), (9, .slice A57 k59 cp60), (35, .bool (!(decide ((canR (smallL xs 8)) = (canR (smallL xs 8))))))] [.gen (rowE (A72) g73 k74 cp75 25 4 (rvals (canR (smallL xs 8))) true), .gen (rowE (A64) g65 k66 cp67 25 4 (rvals (canR xs)) true), .gen (rowE (A57) g58 k59 cp60 25 4 (rvals (canR (smallL xs 8))) true), .gen (rowE (A50) g51 k52 cp53 25 4 (rvals (canR xs)) true), .gen (rowE (A1) g2 k3 cp4 25 4 (rvals (smallL xs 8)) true), .gen (rdE (A) g o n 4 (rvals xs))] rfl rfl (by kernel_rfl) (by kernel_rfl) ?_
  refine cont_recast 35 (.bool (!(decide ((canR (smallL xs 8)) = (canR (smallL xs 8)))))) (.bool false) rfl (congrArg Value.bool (by rw [show (decide ((canR (smallL xs 8)) = (canR (smallL xs 8)))) = true from (decide_eq_true rfl)]; rfl)) ?_
  refine batch0 [0] 14 8 [(0, .slice A n cap), (1, .int .i64 x_), (2, .int .i64 y_), (7, .slice A1 k3 cp4), (8, .slice A50 k52 cp53), (9, .slice A57 k59 cp60), (35, .bool false), (36, .slice A50 k52 cp53)] [.gen (rowE (A72) g73 k74 cp75 25 4 (rvals (canR (smallL xs 8))) true), .gen (rowE (A64) g65 k66 cp67 25 4 (rvals (canR xs)) true), .gen (rowE (A57) g58 k59 cp60 25 4 (rvals (canR (smallL xs 8))) true), .gen (rowE (A50) g51 k52 cp53 25 4 (rvals (canR xs)) true), .gen (rowE (A1) g2 k3 cp4 25 4 (rvals (smallL xs 8)) true), .gen (rdE (A) g o n 4 (rvals xs))] rfl rfl (by kernel_rfl) (by kernel_rfl) ?_
  refine pl_step 15 7 rfl rfl ?_
  refine call_pure (d := 37) (.bool (decide ((canR xs) = canR (canR xs)))) (by kernel_rfl) (fun w hT => refMayL A50 g51 0 k52 cp53 (canR xs) w (hT.viewRo (.cons (i := 3) rfl Vw.rowRd .nil) rfl) (by omega) (by omega)) ?_
  refine batch0 [0, 0, 0] 18 4 [(0, .slice A n cap), (1, .int .i64 x_), (2, .int .i64 y_), (7, .slice A1 k3 cp4), (8, .slice A50 k52 cp53), (9, .slice A57 k59 cp60), (40, .bool (!(decide ((canR xs) = canR (canR xs)))))] [.gen (rowE (A72) g73 k74 cp75 25 4 (rvals (canR (smallL xs 8))) true), .gen (rowE (A64) g65 k66 cp67 25 4 (rvals (canR xs)) true), .gen (rowE (A57) g58 k59 cp60 25 4 (rvals (canR (smallL xs 8))) true), .gen (rowE (A50) g51 k52 cp53 25 4 (rvals (canR xs)) true), .gen (rowE (A1) g2 k3 cp4 25 4 (rvals (smallL xs 8)) true), .gen (rdE (A) g o n 4 (rvals xs))] rfl rfl (by kernel_rfl) (by kernel_rfl) ?_
  refine cont_recast 40 (.bool (!(decide ((canR xs) = canR (canR xs))))) (.bool false) rfl (congrArg Value.bool (by rw [show (decide ((canR xs) = canR (canR xs))) = true from (decide_eq_true (canR_idem _).symm)]; rfl)) ?_
  refine batch0 [0] 19 3 [(0, .slice A n cap), (1, .int .i64 x_), (2, .int .i64 y_), (7, .slice A1 k3 cp4), (8, .slice A50 k52 cp53), (9, .slice A57 k59 cp60), (40, .bool false), (41, .slice A57 k59 cp60)] [.gen (rowE (A72) g73 k74 cp75 25 4 (rvals (canR (smallL xs 8))) true), .gen (rowE (A64) g65 k66 cp67 25 4 (rvals (canR xs)) true), .gen (rowE (A57) g58 k59 cp60 25 4 (rvals (canR (smallL xs 8))) true), .gen (rowE (A50) g51 k52 cp53 25 4 (rvals (canR xs)) true), .gen (rowE (A1) g2 k3 cp4 25 4 (rvals (smallL xs 8)) true), .gen (rdE (A) g o n 4 (rvals xs))] rfl rfl (by kernel_rfl) (by kernel_rfl) ?_
  refine pl_step 20 2 rfl rfl ?_
  refine call_pure (d := 42) (.bool (decide ((canR (smallL xs 8)) = canR (canR (smallL xs 8))))) (by kernel_rfl) (fun w hT => refMayL A57 g58 0 k59 cp60 (canR (smallL xs 8)) w (hT.viewRo (.cons (i := 2) rfl Vw.rowRd .nil) rfl) (by omega) (by omega)) ?_
  refine batch0 [0, 0] 22 0 [(0, .slice A n cap), (1, .int .i64 x_), (2, .int .i64 y_), (7, .slice A1 k3 cp4), (8, .slice A50 k52 cp53), (9, .slice A57 k59 cp60), (44, .bool (!(decide ((canR (smallL xs 8)) = canR (canR (smallL xs 8))))))] [.gen (rowE (A72) g73 k74 cp75 25 4 (rvals (canR (smallL xs 8))) true), .gen (rowE (A64) g65 k66 cp67 25 4 (rvals (canR xs)) true), .gen (rowE (A57) g58 k59 cp60 25 4 (rvals (canR (smallL xs 8))) true), .gen (rowE (A50) g51 k52 cp53 25 4 (rvals (canR xs)) true), .gen (rowE (A1) g2 k3 cp4 25 4 (rvals (smallL xs 8)) true), .gen (rdE (A) g o n 4 (rvals xs))] rfl rfl (by kernel_rfl) (by kernel_rfl) ?_
  refine cont_done ?_
  refine then_normal ?_
  refine cont_recast 44 (.bool (!(decide ((canR (smallL xs 8)) = canR (canR (smallL xs 8)))))) (.bool false) rfl (congrArg Value.bool (by rw [show (decide ((canR (smallL xs 8)) = canR (canR (smallL xs 8)))) = true from (decide_eq_true (canR_idem _).symm)]; rfl)) ?_
  refine cont_false rfl ?_
  refine cont_skip ?_
  refine then_normal ?_
  refine cont_seq ?_
  refine cont_region 4 rfl ?_
  refine batch0 [0] 1 3 [(0, .slice A n cap), (1, .int .i64 x_), (2, .int .i64 y_), (7, .slice A1 k3 cp4), (8, .slice A50 k52 cp53), (9, .slice A57 k59 cp60), (45, .int .i64 x_)] [.gen (rowE (A72) g73 k74 cp75 25 4 (rvals (canR (smallL xs 8))) true), .gen (rowE (A64) g65 k66 cp67 25 4 (rvals (canR xs)) true), .gen (rowE (A57) g58 k59 cp60 25 4 (rvals (canR (smallL xs 8))) true), .gen (rowE (A50) g51 k52 cp53 25 4 (rvals (canR xs)) true), .gen (rowE (A1) g2 k3 cp4 25 4 (rvals (smallL xs 8)) true), .gen (rdE (A) g o n 4 (rvals xs))] rfl rfl (by kernel_rfl) (by kernel_rfl) ?_
  refine pl_step 2 2 rfl rfl ?_
  refine call_pure (d := 46) (.int .i64 (aroundI x_ 40)) (by kernel_rfl) (fun w hT => refAround x_ 40 w (by omega) (by omega)) ?_
  have hq82_ := aroundI_range x_ (m := 40) (by omega)
  refine batch0 [0] 3 1 [(0, .slice A n cap), (1, .int .i64 x_), (2, .int .i64 y_), (7, .slice A1 k3 cp4), (8, .slice A50 k52 cp53), (9, .slice A57 k59 cp60), (47, .int .i64 (IntKind.i64.wrap ((aroundI x_ 40) - 5)))] [.gen (rowE (A72) g73 k74 cp75 25 4 (rvals (canR (smallL xs 8))) true), .gen (rowE (A64) g65 k66 cp67 25 4 (rvals (canR xs)) true), .gen (rowE (A57) g58 k59 cp60 25 4 (rvals (canR (smallL xs 8))) true), .gen (rowE (A50) g51 k52 cp53 25 4 (rvals (canR xs)) true), .gen (rowE (A1) g2 k3 cp4 25 4 (rvals (smallL xs 8)) true), .gen (rdE (A) g o n 4 (rvals xs))] rfl rfl (by kernel_rfl) (by kernel_rfl) ?_
  refine cont_recast 47 (.int .i64 (IntKind.i64.wrap ((aroundI x_ 40) - 5))) (.int .i64 ((aroundI x_ 40) - 5)) rfl (wrapI (by omega) (by omega)) ?_
  refine batch0 [0] 4 0 [(0, .slice A n cap), (1, .int .i64 x_), (2, .int .i64 y_), (7, .slice A1 k3 cp4), (8, .slice A50 k52 cp53), (9, .slice A57 k59 cp60), (10, .int .i64 ((aroundI x_ 40) - 5))] [.gen (rowE (A72) g73 k74 cp75 25 4 (rvals (canR (smallL xs 8))) true), .gen (rowE (A64) g65 k66 cp67 25 4 (rvals (canR xs)) true), .gen (rowE (A57) g58 k59 cp60 25 4 (rvals (canR (smallL xs 8))) true), .gen (rowE (A50) g51 k52 cp53 25 4 (rvals (canR xs)) true), .gen (rowE (A1) g2 k3 cp4 25 4 (rvals (smallL xs 8)) true), .gen (rdE (A) g o n 4 (rvals xs))] rfl rfl (by kernel_rfl) (by kernel_rfl) ?_
  refine cont_done ?_
  refine then_normal ?_
  refine cont_seq ?_
  refine cont_region 4 rfl ?_
  refine batch0 [0] 1 3 [(0, .slice A n cap), (1, .int .i64 x_), (2, .int .i64 y_), (7, .slice A1 k3 cp4), (8, .slice A50 k52 cp53), (9, .slice A57 k59 cp60), (10, .int .i64 ((aroundI x_ 40) - 5)), (48, .int .i64 y_)] [.gen (rowE (A72) g73 k74 cp75 25 4 (rvals (canR (smallL xs 8))) true), .gen (rowE (A64) g65 k66 cp67 25 4 (rvals (canR xs)) true), .gen (rowE (A57) g58 k59 cp60 25 4 (rvals (canR (smallL xs 8))) true), .gen (rowE (A50) g51 k52 cp53 25 4 (rvals (canR xs)) true), .gen (rowE (A1) g2 k3 cp4 25 4 (rvals (smallL xs 8)) true), .gen (rdE (A) g o n 4 (rvals xs))] rfl rfl (by kernel_rfl) (by kernel_rfl) ?_
  refine pl_step 2 2 rfl rfl ?_
  refine call_pure (d := 49) (.int .i64 (aroundI y_ 40)) (by kernel_rfl) (fun w hT => refAround y_ 40 w (by omega) (by omega)) ?_
  have hq83_ := aroundI_range y_ (m := 40) (by omega)
  refine batch0 [0] 3 1 [(0, .slice A n cap), (1, .int .i64 x_), (2, .int .i64 y_), (7, .slice A1 k3 cp4), (8, .slice A50 k52 cp53), (9, .slice A57 k59 cp60), (10, .int .i64 ((aroundI x_ 40) - 5)), (50, .int .i64 (IntKind.i64.wrap ((aroundI y_ 40) - 5)))] [.gen (rowE (A72) g73 k74 cp75 25 4 (rvals (canR (smallL xs 8))) true), .gen (rowE (A64) g65 k66 cp67 25 4 (rvals (canR xs)) true), .gen (rowE (A57) g58 k59 cp60 25 4 (rvals (canR (smallL xs 8))) true), .gen (rowE (A50) g51 k52 cp53 25 4 (rvals (canR xs)) true), .gen (rowE (A1) g2 k3 cp4 25 4 (rvals (smallL xs 8)) true), .gen (rdE (A) g o n 4 (rvals xs))] rfl rfl (by kernel_rfl) (by kernel_rfl) ?_
  refine cont_recast 50 (.int .i64 (IntKind.i64.wrap ((aroundI y_ 40) - 5))) (.int .i64 ((aroundI y_ 40) - 5)) rfl (wrapI (by omega) (by omega)) ?_
  refine batch0 [0] 4 0 [(0, .slice A n cap), (1, .int .i64 x_), (2, .int .i64 y_), (7, .slice A1 k3 cp4), (8, .slice A50 k52 cp53), (9, .slice A57 k59 cp60), (10, .int .i64 ((aroundI x_ 40) - 5)), (11, .int .i64 ((aroundI y_ 40) - 5))] [.gen (rowE (A72) g73 k74 cp75 25 4 (rvals (canR (smallL xs 8))) true), .gen (rowE (A64) g65 k66 cp67 25 4 (rvals (canR xs)) true), .gen (rowE (A57) g58 k59 cp60 25 4 (rvals (canR (smallL xs 8))) true), .gen (rowE (A50) g51 k52 cp53 25 4 (rvals (canR xs)) true), .gen (rowE (A1) g2 k3 cp4 25 4 (rvals (smallL xs 8)) true), .gen (rdE (A) g o n 4 (rvals xs))] rfl rfl (by kernel_rfl) (by kernel_rfl) ?_
  refine cont_done ?_
  refine then_normal ?_
  refine cont_seq ?_
  refine cont_region 28 rfl ?_
  refine batch0 [0, 0, 0] 3 25 [(0, .slice A n cap), (1, .int .i64 x_), (2, .int .i64 y_), (7, .slice A1 k3 cp4), (8, .slice A50 k52 cp53), (9, .slice A57 k59 cp60), (10, .int .i64 ((aroundI x_ 40) - 5)), (11, .int .i64 ((aroundI y_ 40) - 5)), (51, .slice A50 k52 cp53), (52, .int .i64 x_), (53, .int .i64 y_)] [.gen (rowE (A72) g73 k74 cp75 25 4 (rvals (canR (smallL xs 8))) true), .gen (rowE (A64) g65 k66 cp67 25 4 (rvals (canR xs)) true), .gen (rowE (A57) g58 k59 cp60 25 4 (rvals (canR (smallL xs 8))) true), .gen (rowE (A50) g51 k52 cp53 25 4 (rvals (canR xs)) true), .gen (rowE (A1) g2 k3 cp4 25 4 (rvals (smallL xs 8)) true), .gen (rdE (A) g o n 4 (rvals xs))] rfl rfl (by kernel_rfl) (by kernel_rfl) ?_
  refine pl_step 4 24 rfl rfl ?_
  refine call_pure (d := 54) (.bool (hasL (canR xs) x_ y_)) (by kernel_rfl) (fun w hT => regHas A50 g51 0 k52 cp53 (canR xs) x_ y_ w (hT.viewRo (.cons (i := 3) rfl Vw.rowRd .nil) rfl) (by omega)) ?_
  refine cont_recast 54 (.bool (hasL (canR xs) x_ y_)) (.bool (hasL xs x_ y_)) rfl (congrArg (Value.bool) (hasL_can _ _ _)) ?_
  refine batch0 [0, 0, 0] 7 21 [(7, .slice A1 k3 cp4), (8, .slice A50 k52 cp53), (9, .slice A57 k59 cp60), (10, .int .i64 ((aroundI x_ 40) - 5)), (11, .int .i64 ((aroundI y_ 40) - 5)), (54, .bool (hasL xs x_ y_)), (55, .slice A n cap), (56, .int .i64 x_), (57, .int .i64 y_)] [.gen (rowE (A72) g73 k74 cp75 25 4 (rvals (canR (smallL xs 8))) true), .gen (rowE (A64) g65 k66 cp67 25 4 (rvals (canR xs)) true), .gen (rowE (A57) g58 k59 cp60 25 4 (rvals (canR (smallL xs 8))) true), .gen (rowE (A50) g51 k52 cp53 25 4 (rvals (canR xs)) true), .gen (rowE (A1) g2 k3 cp4 25 4 (rvals (smallL xs 8)) true), .gen (rdE (A) g o n 4 (rvals xs))] rfl rfl (by kernel_rfl) (by kernel_rfl) ?_
  refine pl_step 8 20 rfl rfl ?_
  refine call_pure (d := 58) (.bool (hasL xs x_ y_)) (by kernel_rfl) (fun w hT => refHasL A g o n cap xs x_ y_ w (hT.viewRo (.cons (i := 5) rfl Vw.rd .nil) rfl) (by omega)) ?_
  refine cont_split 54 (hasL xs x_ y_) rfl (fun c84_ => ?_) (fun c84_ => ?_)
  ·
    refine cont_recast 58 (.bool (hasL xs x_ y_)) (.bool true) rfl (congrArg Value.bool c84_) ?_
    refine batch0 [0, 0, 0, 0, 0] 13 15 [(7, .slice A1 k3 cp4), (8, .slice A50 k52 cp53), (10, .int .i64 ((aroundI x_ 40) - 5)), (11, .int .i64 ((aroundI y_ 40) - 5)), (60, .bool true), (61, .slice A57 k59 cp60), (62, .int .i64 ((aroundI x_ 40) - 5)), (63, .int .i64 ((aroundI y_ 40) - 5))] [.gen (rowE (A72) g73 k74 cp75 25 4 (rvals (canR (smallL xs 8))) true), .gen (rowE (A64) g65 k66 cp67 25 4 (rvals (canR xs)) true), .gen (rowE (A57) g58 k59 cp60 25 4 (rvals (canR (smallL xs 8))) true), .gen (rowE (A50) g51 k52 cp53 25 4 (rvals (canR xs)) true), .gen (rowE (A1) g2 k3 cp4 25 4 (rvals (smallL xs 8)) true), .gen (rdE (A) g o n 4 (rvals xs))] rfl rfl (by kernel_rfl) (by kernel_rfl) ?_
    refine pl_step 14 14 rfl rfl ?_
    refine call_pure (d := 64) (.bool (hasL (canR (smallL xs 8)) ((aroundI x_ 40) - 5) ((aroundI y_ 40) - 5))) (by kernel_rfl) (fun w hT => regHas A57 g58 0 k59 cp60 (canR (smallL xs 8)) ((aroundI x_ 40) - 5) ((aroundI y_ 40) - 5) w (hT.viewRo (.cons (i := 2) rfl Vw.rowRd .nil) rfl) (by omega)) ?_
    refine cont_recast 64 (.bool (hasL (canR (smallL xs 8)) ((aroundI x_ 40) - 5) ((aroundI y_ 40) - 5))) (.bool (hasL (smallL xs 8) ((aroundI x_ 40) - 5) ((aroundI y_ 40) - 5))) rfl (congrArg (Value.bool) (hasL_can _ _ _)) ?_
    refine batch0 [0, 0, 0] 17 11 [(8, .slice A50 k52 cp53), (60, .bool true), (64, .bool (hasL (smallL xs 8) ((aroundI x_ 40) - 5) ((aroundI y_ 40) - 5))), (65, .slice A1 k3 cp4), (66, .int .i64 ((aroundI x_ 40) - 5)), (67, .int .i64 ((aroundI y_ 40) - 5))] [.gen (rowE (A72) g73 k74 cp75 25 4 (rvals (canR (smallL xs 8))) true), .gen (rowE (A64) g65 k66 cp67 25 4 (rvals (canR xs)) true), .gen (rowE (A57) g58 k59 cp60 25 4 (rvals (canR (smallL xs 8))) true), .gen (rowE (A50) g51 k52 cp53 25 4 (rvals (canR xs)) true), .gen (rowE (A1) g2 k3 cp4 25 4 (rvals (smallL xs 8)) true), .gen (rdE (A) g o n 4 (rvals xs))] rfl rfl (by kernel_rfl) (by kernel_rfl) ?_
    refine pl_step 18 10 rfl rfl ?_
    refine call_pure (d := 68) (.bool (hasL (smallL xs 8) ((aroundI x_ 40) - 5) ((aroundI y_ 40) - 5))) (by kernel_rfl) (fun w hT => refHasL A1 g2 0 k3 cp4 (smallL xs 8) ((aroundI x_ 40) - 5) ((aroundI y_ 40) - 5) w (hT.viewRo (.cons (i := 4) rfl Vw.rowRd .nil) rfl) (by omega)) ?_
    refine cont_split 64 (hasL (smallL xs 8) ((aroundI x_ 40) - 5) ((aroundI y_ 40) - 5)) rfl (fun c85_ => ?_) (fun c85_ => ?_)
    ·
      refine cont_recast 68 (.bool (hasL (smallL xs 8) ((aroundI x_ 40) - 5) ((aroundI y_ 40) - 5))) (.bool true) rfl (congrArg Value.bool c85_) ?_
      refine batch0 [0, 0, 0, 0] 22 6 [(71, .bool true), (72, .slice A50 k52 cp53)] [.gen (rowE (A72) g73 k74 cp75 25 4 (rvals (canR (smallL xs 8))) true), .gen (rowE (A64) g65 k66 cp67 25 4 (rvals (canR xs)) true), .gen (rowE (A57) g58 k59 cp60 25 4 (rvals (canR (smallL xs 8))) true), .gen (rowE (A50) g51 k52 cp53 25 4 (rvals (canR xs)) true), .gen (rowE (A1) g2 k3 cp4 25 4 (rvals (smallL xs 8)) true), .gen (rdE (A) g o n 4 (rvals xs))] rfl rfl (by kernel_rfl) (by kernel_rfl) ?_
      refine pl_step 23 5 rfl rfl ?_
      refine call_pure (d := 73) (.bool (decide ((canR xs) = canR (canR xs)))) (by kernel_rfl) (fun w hT => regMay A50 g51 0 k52 cp53 (canR xs) w (hT.viewRo (.cons (i := 3) rfl Vw.rowRd .nil) rfl) (by omega)) ?_
      refine batch0 [0, 0] 25 3 [(75, .bool (decide ((canR xs) = canR (canR xs))))] [.gen (rowE (A72) g73 k74 cp75 25 4 (rvals (canR (smallL xs 8))) true), .gen (rowE (A64) g65 k66 cp67 25 4 (rvals (canR xs)) true), .gen (rowE (A57) g58 k59 cp60 25 4 (rvals (canR (smallL xs 8))) true), .gen (rowE (A50) g51 k52 cp53 25 4 (rvals (canR xs)) true), .gen (rowE (A1) g2 k3 cp4 25 4 (rvals (smallL xs 8)) true), .gen (rdE (A) g o n 4 (rvals xs))] rfl rfl (by kernel_rfl) (by kernel_rfl) ?_
      refine cont_recast 75 (.bool (decide ((canR xs) = canR (canR xs)))) (.bool true) rfl (congrArg Value.bool (decide_eq_true (canR_idem _).symm)) ?_
      refine pl_step 26 2 rfl rfl ?_
      refine call_pure (d := 76) (.bool true) (by kernel_rfl) (fun w hT => lives2  w) ?_
      refine batch0 [0, 0] 28 0 [(6, .bool true)] [.gen (rowE (A72) g73 k74 cp75 25 4 (rvals (canR (smallL xs 8))) true), .gen (rowE (A64) g65 k66 cp67 25 4 (rvals (canR xs)) true), .gen (rowE (A57) g58 k59 cp60 25 4 (rvals (canR (smallL xs 8))) true), .gen (rowE (A50) g51 k52 cp53 25 4 (rvals (canR xs)) true), .gen (rowE (A1) g2 k3 cp4 25 4 (rvals (smallL xs 8)) true), .gen (rdE (A) g o n 4 (rvals xs))] rfl rfl (by kernel_rfl) (by kernel_rfl) ?_
      refine cont_done ?_
      refine then_normal ?_
      refine cont_ret ?_
      refine ret_one (.inl rfl) rfl 0 (.bool true) (by kernel_rfl) (by kernel_rfl) (fun w hT => ?_)
      exact ⟨rfl, hT.post rfl⟩
    refine cont_recast 68 (.bool (hasL (smallL xs 8) ((aroundI x_ 40) - 5) ((aroundI y_ 40) - 5))) (.bool false) rfl (congrArg Value.bool c85_) ?_
    refine batch0 [0, 0, 0, 0] 22 6 [(71, .bool true), (72, .slice A50 k52 cp53)] [.gen (rowE (A72) g73 k74 cp75 25 4 (rvals (canR (smallL xs 8))) true), .gen (rowE (A64) g65 k66 cp67 25 4 (rvals (canR xs)) true), .gen (rowE (A57) g58 k59 cp60 25 4 (rvals (canR (smallL xs 8))) true), .gen (rowE (A50) g51 k52 cp53 25 4 (rvals (canR xs)) true), .gen (rowE (A1) g2 k3 cp4 25 4 (rvals (smallL xs 8)) true), .gen (rdE (A) g o n 4 (rvals xs))] rfl rfl (by kernel_rfl) (by kernel_rfl) ?_
    refine pl_step 23 5 rfl rfl ?_
    refine call_pure (d := 73) (.bool (decide ((canR xs) = canR (canR xs)))) (by kernel_rfl) (fun w hT => regMay A50 g51 0 k52 cp53 (canR xs) w (hT.viewRo (.cons (i := 3) rfl Vw.rowRd .nil) rfl) (by omega)) ?_
    refine batch0 [0, 0] 25 3 [(75, .bool (decide ((canR xs) = canR (canR xs))))] [.gen (rowE (A72) g73 k74 cp75 25 4 (rvals (canR (smallL xs 8))) true), .gen (rowE (A64) g65 k66 cp67 25 4 (rvals (canR xs)) true), .gen (rowE (A57) g58 k59 cp60 25 4 (rvals (canR (smallL xs 8))) true), .gen (rowE (A50) g51 k52 cp53 25 4 (rvals (canR xs)) true), .gen (rowE (A1) g2 k3 cp4 25 4 (rvals (smallL xs 8)) true), .gen (rdE (A) g o n 4 (rvals xs))] rfl rfl (by kernel_rfl) (by kernel_rfl) ?_
    refine cont_recast 75 (.bool (decide ((canR xs) = canR (canR xs)))) (.bool true) rfl (congrArg Value.bool (decide_eq_true (canR_idem _).symm)) ?_
    refine pl_step 26 2 rfl rfl ?_
    refine call_pure (d := 76) (.bool true) (by kernel_rfl) (fun w hT => lives2  w) ?_
    refine batch0 [0, 0] 28 0 [(6, .bool true)] [.gen (rowE (A72) g73 k74 cp75 25 4 (rvals (canR (smallL xs 8))) true), .gen (rowE (A64) g65 k66 cp67 25 4 (rvals (canR xs)) true), .gen (rowE (A57) g58 k59 cp60 25 4 (rvals (canR (smallL xs 8))) true), .gen (rowE (A50) g51 k52 cp53 25 4 (rvals (canR xs)) true), .gen (rowE (A1) g2 k3 cp4 25 4 (rvals (smallL xs 8)) true), .gen (rdE (A) g o n 4 (rvals xs))] rfl rfl (by kernel_rfl) (by kernel_rfl) ?_
    refine cont_done ?_
    refine then_normal ?_
    refine cont_ret ?_
    refine ret_one (.inl rfl) rfl 0 (.bool true) (by kernel_rfl) (by kernel_rfl) (fun w hT => ?_)
    exact ⟨rfl, hT.post rfl⟩
  refine cont_recast 58 (.bool (hasL xs x_ y_)) (.bool false) rfl (congrArg Value.bool c84_) ?_
  refine batch0 [0, 0, 0, 0, 0] 13 15 [(7, .slice A1 k3 cp4), (8, .slice A50 k52 cp53), (10, .int .i64 ((aroundI x_ 40) - 5)), (11, .int .i64 ((aroundI y_ 40) - 5)), (60, .bool true), (61, .slice A57 k59 cp60), (62, .int .i64 ((aroundI x_ 40) - 5)), (63, .int .i64 ((aroundI y_ 40) - 5))] [.gen (rowE (A72) g73 k74 cp75 25 4 (rvals (canR (smallL xs 8))) true), .gen (rowE (A64) g65 k66 cp67 25 4 (rvals (canR xs)) true), .gen (rowE (A57) g58 k59 cp60 25 4 (rvals (canR (smallL xs 8))) true), .gen (rowE (A50) g51 k52 cp53 25 4 (rvals (canR xs)) true), .gen (rowE (A1) g2 k3 cp4 25 4 (rvals (smallL xs 8)) true), .gen (rdE (A) g o n 4 (rvals xs))] rfl rfl (by kernel_rfl) (by kernel_rfl) ?_
  refine pl_step 14 14 rfl rfl ?_
  refine call_pure (d := 64) (.bool (hasL (canR (smallL xs 8)) ((aroundI x_ 40) - 5) ((aroundI y_ 40) - 5))) (by kernel_rfl) (fun w hT => regHas A57 g58 0 k59 cp60 (canR (smallL xs 8)) ((aroundI x_ 40) - 5) ((aroundI y_ 40) - 5) w (hT.viewRo (.cons (i := 2) rfl Vw.rowRd .nil) rfl) (by omega)) ?_
  refine cont_recast 64 (.bool (hasL (canR (smallL xs 8)) ((aroundI x_ 40) - 5) ((aroundI y_ 40) - 5))) (.bool (hasL (smallL xs 8) ((aroundI x_ 40) - 5) ((aroundI y_ 40) - 5))) rfl (congrArg (Value.bool) (hasL_can _ _ _)) ?_
  refine batch0 [0, 0, 0] 17 11 [(8, .slice A50 k52 cp53), (60, .bool true), (64, .bool (hasL (smallL xs 8) ((aroundI x_ 40) - 5) ((aroundI y_ 40) - 5))), (65, .slice A1 k3 cp4), (66, .int .i64 ((aroundI x_ 40) - 5)), (67, .int .i64 ((aroundI y_ 40) - 5))] [.gen (rowE (A72) g73 k74 cp75 25 4 (rvals (canR (smallL xs 8))) true), .gen (rowE (A64) g65 k66 cp67 25 4 (rvals (canR xs)) true), .gen (rowE (A57) g58 k59 cp60 25 4 (rvals (canR (smallL xs 8))) true), .gen (rowE (A50) g51 k52 cp53 25 4 (rvals (canR xs)) true), .gen (rowE (A1) g2 k3 cp4 25 4 (rvals (smallL xs 8)) true), .gen (rdE (A) g o n 4 (rvals xs))] rfl rfl (by kernel_rfl) (by kernel_rfl) ?_
  refine pl_step 18 10 rfl rfl ?_
  refine call_pure (d := 68) (.bool (hasL (smallL xs 8) ((aroundI x_ 40) - 5) ((aroundI y_ 40) - 5))) (by kernel_rfl) (fun w hT => refHasL A1 g2 0 k3 cp4 (smallL xs 8) ((aroundI x_ 40) - 5) ((aroundI y_ 40) - 5) w (hT.viewRo (.cons (i := 4) rfl Vw.rowRd .nil) rfl) (by omega)) ?_
  refine cont_split 64 (hasL (smallL xs 8) ((aroundI x_ 40) - 5) ((aroundI y_ 40) - 5)) rfl (fun c88_ => ?_) (fun c88_ => ?_)
  ·
    refine cont_recast 68 (.bool (hasL (smallL xs 8) ((aroundI x_ 40) - 5) ((aroundI y_ 40) - 5))) (.bool true) rfl (congrArg Value.bool c88_) ?_
    refine batch0 [0, 0, 0, 0] 22 6 [(71, .bool true), (72, .slice A50 k52 cp53)] [.gen (rowE (A72) g73 k74 cp75 25 4 (rvals (canR (smallL xs 8))) true), .gen (rowE (A64) g65 k66 cp67 25 4 (rvals (canR xs)) true), .gen (rowE (A57) g58 k59 cp60 25 4 (rvals (canR (smallL xs 8))) true), .gen (rowE (A50) g51 k52 cp53 25 4 (rvals (canR xs)) true), .gen (rowE (A1) g2 k3 cp4 25 4 (rvals (smallL xs 8)) true), .gen (rdE (A) g o n 4 (rvals xs))] rfl rfl (by kernel_rfl) (by kernel_rfl) ?_
    refine pl_step 23 5 rfl rfl ?_
    refine call_pure (d := 73) (.bool (decide ((canR xs) = canR (canR xs)))) (by kernel_rfl) (fun w hT => regMay A50 g51 0 k52 cp53 (canR xs) w (hT.viewRo (.cons (i := 3) rfl Vw.rowRd .nil) rfl) (by omega)) ?_
    refine batch0 [0, 0] 25 3 [(75, .bool (decide ((canR xs) = canR (canR xs))))] [.gen (rowE (A72) g73 k74 cp75 25 4 (rvals (canR (smallL xs 8))) true), .gen (rowE (A64) g65 k66 cp67 25 4 (rvals (canR xs)) true), .gen (rowE (A57) g58 k59 cp60 25 4 (rvals (canR (smallL xs 8))) true), .gen (rowE (A50) g51 k52 cp53 25 4 (rvals (canR xs)) true), .gen (rowE (A1) g2 k3 cp4 25 4 (rvals (smallL xs 8)) true), .gen (rdE (A) g o n 4 (rvals xs))] rfl rfl (by kernel_rfl) (by kernel_rfl) ?_
    refine cont_recast 75 (.bool (decide ((canR xs) = canR (canR xs)))) (.bool true) rfl (congrArg Value.bool (decide_eq_true (canR_idem _).symm)) ?_
    refine pl_step 26 2 rfl rfl ?_
    refine call_pure (d := 76) (.bool true) (by kernel_rfl) (fun w hT => lives2  w) ?_
    refine batch0 [0, 0] 28 0 [(6, .bool true)] [.gen (rowE (A72) g73 k74 cp75 25 4 (rvals (canR (smallL xs 8))) true), .gen (rowE (A64) g65 k66 cp67 25 4 (rvals (canR xs)) true), .gen (rowE (A57) g58 k59 cp60 25 4 (rvals (canR (smallL xs 8))) true), .gen (rowE (A50) g51 k52 cp53 25 4 (rvals (canR xs)) true), .gen (rowE (A1) g2 k3 cp4 25 4 (rvals (smallL xs 8)) true), .gen (rdE (A) g o n 4 (rvals xs))] rfl rfl (by kernel_rfl) (by kernel_rfl) ?_
    refine cont_done ?_
    refine then_normal ?_
    refine cont_ret ?_
    refine ret_one (.inl rfl) rfl 0 (.bool true) (by kernel_rfl) (by kernel_rfl) (fun w hT => ?_)
    exact ⟨rfl, hT.post rfl⟩
  refine cont_recast 68 (.bool (hasL (smallL xs 8) ((aroundI x_ 40) - 5) ((aroundI y_ 40) - 5))) (.bool false) rfl (congrArg Value.bool c88_) ?_
  refine batch0 [0, 0, 0, 0] 22 6 [(71, .bool true), (72, .slice A50 k52 cp53)] [.gen (rowE (A72) g73 k74 cp75 25 4 (rvals (canR (smallL xs 8))) true), .gen (rowE (A64) g65 k66 cp67 25 4 (rvals (canR xs)) true), .gen (rowE (A57) g58 k59 cp60 25 4 (rvals (canR (smallL xs 8))) true), .gen (rowE (A50) g51 k52 cp53 25 4 (rvals (canR xs)) true), .gen (rowE (A1) g2 k3 cp4 25 4 (rvals (smallL xs 8)) true), .gen (rdE (A) g o n 4 (rvals xs))] rfl rfl (by kernel_rfl) (by kernel_rfl) ?_
  refine pl_step 23 5 rfl rfl ?_
  refine call_pure (d := 73) (.bool (decide ((canR xs) = canR (canR xs)))) (by kernel_rfl) (fun w hT => regMay A50 g51 0 k52 cp53 (canR xs) w (hT.viewRo (.cons (i := 3) rfl Vw.rowRd .nil) rfl) (by omega)) ?_
  refine batch0 [0, 0] 25 3 [(75, .bool (decide ((canR xs) = canR (canR xs))))] [.gen (rowE (A72) g73 k74 cp75 25 4 (rvals (canR (smallL xs 8))) true), .gen (rowE (A64) g65 k66 cp67 25 4 (rvals (canR xs)) true), .gen (rowE (A57) g58 k59 cp60 25 4 (rvals (canR (smallL xs 8))) true), .gen (rowE (A50) g51 k52 cp53 25 4 (rvals (canR xs)) true), .gen (rowE (A1) g2 k3 cp4 25 4 (rvals (smallL xs 8)) true), .gen (rdE (A) g o n 4 (rvals xs))] rfl rfl (by kernel_rfl) (by kernel_rfl) ?_
  refine cont_recast 75 (.bool (decide ((canR xs) = canR (canR xs)))) (.bool true) rfl (congrArg Value.bool (decide_eq_true (canR_idem _).symm)) ?_
  refine pl_step 26 2 rfl rfl ?_
  refine call_pure (d := 76) (.bool true) (by kernel_rfl) (fun w hT => lives2  w) ?_
  refine batch0 [0, 0] 28 0 [(6, .bool true)] [.gen (rowE (A72) g73 k74 cp75 25 4 (rvals (canR (smallL xs 8))) true), .gen (rowE (A64) g65 k66 cp67 25 4 (rvals (canR xs)) true), .gen (rowE (A57) g58 k59 cp60 25 4 (rvals (canR (smallL xs 8))) true), .gen (rowE (A50) g51 k52 cp53 25 4 (rvals (canR xs)) true), .gen (rowE (A1) g2 k3 cp4 25 4 (rvals (smallL xs 8)) true), .gen (rdE (A) g o n 4 (rvals xs))] rfl rfl (by kernel_rfl) (by kernel_rfl) ?_
  refine cont_done ?_
  refine then_normal ?_
  refine cont_ret ?_
  refine ret_one (.inl rfl) rfl 0 (.bool true) (by kernel_rfl) (by kernel_rfl) (fun w hT => ?_)
  exact ⟨rfl, hT.post rfl⟩

end Go.Proofs.Ytimpjdfflffcfaa
