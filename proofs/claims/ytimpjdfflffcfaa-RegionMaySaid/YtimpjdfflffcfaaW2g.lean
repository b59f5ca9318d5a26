/- Contracts of functions of the given program, printed by a program of this project. -/
import Derived.Test.YtimpjdfflffcfaaL2e
import Derived.Test.YtimpjdfflffcfaaProg
set_option linter.unusedVariables false
set_option linter.unusedSimpArgs false
namespace Go.Proofs.Ytimpjdfflffcfaa
open Go Go.RowKit
set_option maxRecDepth 100000
set_option maxHeartbeats 8000000

theorem walkRegionMay (A : Option Addr) (g o n cap : Nat) (xs : List Rect) (at_ ra rb rc rd : Int) (w : World) (hr : Rd w A g o n 4 (rvals xs)) (hl : xs.length = n) (hc : n ≤ cap) (hm : cap ≤ maxLen) (hx : ∀ r ∈ xs, R64 r) (hat : -9223372036854775808 ≤ at_ ∧ at_ ≤ 9223372036854775807) (hra : -9223372036854775808 ≤ ra ∧ ra ≤ 9223372036854775807) (hrb : -9223372036854775808 ≤ rb ∧ rb ≤ 9223372036854775807) (hrc : -9223372036854775808 ≤ rc ∧ rc ≤ 9223372036854775807) (hrd : -9223372036854775808 ≤ rd ∧ rd ≤ 9223372036854775807) :
    Calls Try.prog 4 #[.slice A n cap, .int .i64 at_, .agg #[.int .i64 ra, .int .i64 rb, .int .i64 rc, .int .i64 rd]] w fun e w' => e = .returned (.bool true) ∧ Below w.heap.size w w' := by
  unfold maxLen at hm
  refine enter 58 [(0, .slice A n cap), (1, .int .i64 at_), (2, .agg #[.int .i64 ra, .int .i64 rb, .int .i64 rc, .int .i64 rd])] [.gen (rdE (A) g o n 4 (rvals xs))] Try.func4 rfl Try.ntmps4 rfl (by kernel_rfl) hr.tab ?_
  refine cont_seq ?_
  refine cont_region 2 rfl ?_
  refine batch1 [0, 0] 2 0 (fun b1 => [(0, .slice A n cap), (1, .int .i64 at_), (5, .pointer (some ⟨b1, 0, none⟩))]) (fun b1 => [.cells b1 [.int .i64 ra, .int .i64 rb, .int .i64 rc, .int .i64 rd] 25 true, .gen (rdE (A) g o n 4 (rvals xs))]) rfl rfl [0, 1, 5] (fun _ => rfl) (fun b1 => by kernel_rfl) (fun b1 => by kernel_rfl) (fun b1 => ?_)
  refine cont_done ?_
  refine then_normal ?_
  refine cont_seq ?_
  refine cont_region 3 rfl ?_
  refine batch0 [0] 1 2 [(0, .slice A n cap), (1, .int .i64 at_), (5, .pointer (some ⟨b1, 0, none⟩)), (9, .slice A n cap)] [.cells b1 [.int .i64 ra, .int .i64 rb, .int .i64 rc, .int .i64 rd] 25 true, .gen (rdE (A) g o n 4 (rvals xs))] rfl rfl (by kernel_rfl) (by kernel_rfl) ?_
  refine pl_step 2 1 rfl rfl ?_
  refine call_gen (d := 10) (α := Option Addr × Nat × Nat × Nat) (fun x_ => .slice x_.1 x_.2.2.1 x_.2.2.2) (fun x_ => [.gen (rowE (x_.1) x_.2.1 x_.2.2.1 x_.2.2.2 25 4 (rvals (canR (smallL xs 8))) true), .cells b1 [.int .i64 ra, .int .i64 rb, .int .i64 rc, .int .i64 rd] 25 true, .gen (rdE (A) g o n 4 (rvals xs))]) (fun x_ => True) (by kernel_rfl) (fun w hT => (refGood A g o n cap xs w (hT.viewRo (.cons (i := 1) rfl Vw.rd .nil) rfl) hx).mono fun e w' ⟨A2, g3, k4, cp5, he_, ht_⟩ => ⟨(A2, g3, k4, cp5), he_, trivial, hT.news ht_ rfl⟩) ?_
  rintro ⟨A2, g3, k4, cp5⟩ hf6_
  refine cont_norm [(0, .slice A n cap), (1, .int .i64 at_), (5, .pointer (some ⟨b1, 0, none⟩)), (9, .slice A n cap), (10, .slice A2 k4 cp5)] [.gen (rowE (A2) g3 k4 cp5 25 4 (rvals (canR (smallL xs 8))) true), .cells b1 [.int .i64 ra, .int .i64 rb, .int .i64 rc, .int .i64 rd] 25 true, .gen (rdE (A) g o n 4 (rvals xs))] (by kernel_rfl) rfl ?_
  refine cont_fact (F := (0 < k4 → (A2 : Option Addr) = some ⟨g3, 0, none⟩) ∧ (canR (smallL xs 8)).length = k4 ∧ k4 ≤ cp5 ∧ cp5 ≤ maxLen) (fun w hT => Row.factsR (hT.ok 0 _ rfl)) (fun hr7_ => ?_)
  obtain ⟨hr7_a, hr7_l, hr7_c, hr7_m⟩ := hr7_
  unfold maxLen at hr7_m
  obtain ⟨P, hP⟩ : ∃ y_ : List Rect, y_ = (canR (smallL xs 8)) := ⟨_, rfl⟩
  refine cont_rowEqR 0 (canR (smallL xs 8)) (P) rfl hP.symm ?_
  have hgP : Good P := by rw [hP]; exact Good.of _ _
  clear hP
  have hP := hgP
  have hlP_ := hP.len
  refine cont_fact (F := (0 < k4 → (A2 : Option Addr) = some ⟨g3, 0, none⟩) ∧ P.length = k4 ∧ k4 ≤ cp5 ∧ cp5 ≤ maxLen) (fun w hT => Row.factsR (hT.ok 0 _ rfl)) (fun hr8_ => ?_)
  obtain ⟨hr8_a, hr8_l, hr8_c, hr8_m⟩ := hr8_
  unfold maxLen at hr8_m
  refine batch0 [0] 3 0 [(0, .slice A n cap), (1, .int .i64 at_), (5, .pointer (some ⟨b1, 0, none⟩)), (7, .slice A2 k4 cp5)] [.gen (rowE (A2) g3 k4 cp5 25 4 (rvals P) true), .cells b1 [.int .i64 ra, .int .i64 rb, .int .i64 rc, .int .i64 rd] 25 true, .gen (rdE (A) g o n 4 (rvals xs))] rfl rfl (by kernel_rfl) (by kernel_rfl) ?_
  refine cont_done ?_
  refine then_normal ?_
  refine cont_seq ?_
  refine cont_seq ?_
  refine cont_region 3 rfl ?_
  refine batch0 [0, 0, 0] 3 0 [(0, .slice A n cap), (1, .int .i64 at_), (5, .pointer (some ⟨b1, 0, none⟩)), (7, .slice A2 k4 cp5), (13, .bool (decide ((n : Int) > 8)))] [.gen (rowE (A2) g3 k4 cp5 25 4 (rvals P) true), .cells b1 [.int .i64 ra, .int .i64 rb, .int .i64 rc, .int .i64 rd] 25 true, .gen (rdE (A) g o n 4 (rvals xs))] rfl rfl (by kernel_rfl) (by kernel_rfl) ?_
  refine cont_done ?_
  refine then_normal ?_
  refine cont_split 13 (decide ((n : Int) > 8)) rfl (fun c9_ => ?_) (fun c9_ => ?_)
  ·
    replace c9_ := of_decide_eq_true c9_
    refine cont_true rfl ?_
    refine cont_region 3 rfl ?_
    refine batch0 [0] 1 2 [(1, .int .i64 at_), (5, .pointer (some ⟨b1, 0, none⟩)), (7, .slice A2 k4 cp5), (14, .slice A n cap)] [.gen (rowE (A2) g3 k4 cp5 25 4 (rvals P) true), .cells b1 [.int .i64 ra, .int .i64 rb, .int .i64 rc, .int .i64 rd] 25 true, .gen (rdE (A) g o n 4 (rvals xs))] rfl rfl (by kernel_rfl) (by kernel_rfl) ?_
    refine pl_step 2 1 rfl rfl ?_
    refine cont_recast 14 (.slice A n cap) (.slice (some ⟨g, o, none⟩) n cap) rfl (by rw [hr.at_ (by omega)]) ?_
    refine sem_step 15 (Instr.sliceAt 22 (.slice (some ⟨g, o, none⟩) n cap) none (some (.int .i64 8)) none) (.slice (some ⟨g, o, none⟩) 8 cap) (by kernel_rfl) (fun w hT => run_sliceHi (e := 25) (sz := 4) _ (by kernel_rfl) (by kernel_rfl) (by omega) (by omega) (by omega) w) ?_
    refine batch0 [0] 3 0 [(0, .slice (some ⟨g, o, none⟩) 8 cap), (1, .int .i64 at_), (5, .pointer (some ⟨b1, 0, none⟩)), (7, .slice A2 k4 cp5)] [.gen (rowE (A2) g3 k4 cp5 25 4 (rvals P) true), .cells b1 [.int .i64 ra, .int .i64 rb, .int .i64 rc, .int .i64 rd] 25 true, .gen (rdE (A) g o n 4 (rvals xs))] rfl rfl (by kernel_rfl) (by kernel_rfl) ?_
    refine cont_done ?_
    refine then_normal ?_
    refine cont_seq ?_
    refine cont_seq ?_
    refine cont_region 10 rfl ?_
    refine batch0 [0] 1 9 [(0, .slice (some ⟨g, o, none⟩) 8 cap), (1, .int .i64 at_), (5, .pointer (some ⟨b1, 0, none⟩)), (7, .slice A2 k4 cp5), (16, .slice (some ⟨g, o, none⟩) 8 cap)] [.gen (rowE (A2) g3 k4 cp5 25 4 (rvals P) true), .cells b1 [.int .i64 ra, .int .i64 rb, .int .i64 rc, .int .i64 rd] 25 true, .gen (rdE (A) g o n 4 (rvals xs))] rfl rfl (by kernel_rfl) (by kernel_rfl) ?_
    refine pl_step 2 8 rfl rfl ?_
    refine call_pure (d := 17) (.bool (decide ((xs.take 8) = canR (xs.take 8)))) (by kernel_rfl) (fun w hT => regMay (some ⟨g, o, none⟩) g o 8 cap (xs.take 8) w (hT.viewRo (.cons (i := 2) rfl (Vw.rdHeadR (by omega) hr.at_ (by omega)) .nil) rfl) (by omega)) ?_
    refine batch0 [0] 3 7 [(1, .int .i64 at_), (5, .pointer (some ⟨b1, 0, none⟩)), (7, .slice A2 k4 cp5), (17, .bool (decide ((xs.take 8) = canR (xs.take 8)))), (18, .slice (some ⟨g, o, none⟩) 8 cap)] [.gen (rowE (A2) g3 k4 cp5 25 4 (rvals P) true), .cells b1 [.int .i64 ra, .int .i64 rb, .int .i64 rc, .int .i64 rd] 25 true, .gen (rdE (A) g o n 4 (rvals xs))] rfl rfl (by kernel_rfl) (by kernel_rfl) ?_
    refine pl_step 4 6 rfl rfl ?_
    refine call_pure (d := 19) (.bool (decide ((xs.take 8) = canR (xs.take 8)))) (by kernel_rfl) (fun w hT => refMayL (some ⟨g, o, none⟩) g o 8 cap (xs.take 8) w (hT.viewRo (.cons (i := 2) rfl (Vw.rdHeadR (by omega) hr.at_ (by omega)) .nil) rfl) (by omega) (by omega)) ?_
    refine cont_split 17 (decide ((xs.take 8) = canR (xs.take 8))) rfl (fun c10_ => ?_) (fun c10_ => ?_)
    ·
      refine cont_recast 19 (.bool (decide ((xs.take 8) = canR (xs.take 8)))) (.bool true) rfl (congrArg Value.bool c10_) ?_
      replace c10_ := of_decide_eq_true c10_
      refine batch0 [0, 0, 0] 7 3 [(1, .int .i64 at_), (5, .pointer (some ⟨b1, 0, none⟩)), (7, .slice A2 k4 cp5), (21, .bool false), (22, .slice A2 k4 cp5)] [.gen (rowE (A2) g3 k4 cp5 25 4 (rvals P) true), .cells b1 [.int .i64 ra, .int .i64 rb, .int .i64 rc, .int .i64 rd] 25 true, .gen (rdE (A) g o n 4 (rvals xs))] rfl rfl (by kernel_rfl) (by kernel_rfl) ?_
      refine pl_step 8 2 rfl rfl ?_
      refine call_pure (d := 23) (.bool (decide (P = canR P))) (by kernel_rfl) (fun w hT => regMay A2 g3 0 k4 cp5 P w (hT.viewRo (.cons (i := 0) rfl Vw.rowRd .nil) rfl) (by omega)) ?_
      refine batch0 [0, 0] 10 0 [(1, .int .i64 at_), (5, .pointer (some ⟨b1, 0, none⟩)), (7, .slice A2 k4 cp5), (25, .bool (!(decide (P = canR P))))] [.gen (rowE (A2) g3 k4 cp5 25 4 (rvals P) true), .cells b1 [.int .i64 ra, .int .i64 rb, .int .i64 rc, .int .i64 rd] 25 true, .gen (rdE (A) g o n 4 (rvals xs))] rfl rfl (by kernel_rfl) (by kernel_rfl) ?_
      refine cont_done ?_
      refine then_normal ?_
      refine cont_recast 25 (.bool (!(decide (P = canR P)))) (.bool false) rfl (congrArg Value.bool (by rw [show (decide (P = canR P)) = true from (decide_eq_true hP.can.symm)]; rfl)) ?_
      refine cont_false rfl ?_
      refine cont_skip ?_
      refine then_normal ?_
      refine cont_seq ?_
      refine cont_seq ?_
      refine cont_region 3 rfl ?_
      refine batch0 [0, 0, 0] 3 0 [(1, .int .i64 at_), (5, .pointer (some ⟨b1, 0, none⟩)), (7, .slice A2 k4 cp5), (28, .bool ((k4 : Int) == 0))] [.gen (rowE (A2) g3 k4 cp5 25 4 (rvals P) true), .cells b1 [.int .i64 ra, .int .i64 rb, .int .i64 rc, .int .i64 rd] 25 true, .gen (rdE (A) g o n 4 (rvals xs))] rfl rfl (by kernel_rfl) (by kernel_rfl) ?_
      refine cont_done ?_
      refine then_normal ?_
      refine cont_split 28 ((k4 : Int) == 0) rfl (fun c12_ => ?_) (fun c12_ => ?_)
      ·
        replace c12_ := eq_of_beqt c12_
        refine cont_true rfl ?_
        refine cont_seq ?_
        refine cont_region 2 rfl ?_
        refine pl_step 1 1 rfl rfl ?_
        refine call_pure (d := 29) (.bool true) (by kernel_rfl) (fun w hT => lives2  w) ?_
        refine batch0 [0] 2 0 [(6, .bool true)] [.gen (rowE (A2) g3 k4 cp5 25 4 (rvals P) true), .cells b1 [.int .i64 ra, .int .i64 rb, .int .i64 rc, .int .i64 rd] 25 true, .gen (rdE (A) g o n 4 (rvals xs))] rfl rfl (by kernel_rfl) (by kernel_rfl) ?_
        refine cont_forget 1 rfl ?_
        refine cont_done ?_
        refine then_normal ?_
        refine cont_ret ?_
        refine then_ret ?_
        refine ret_one (.inl rfl) rfl 0 (.bool true) (by kernel_rfl) (by kernel_rfl) (fun w hT => ?_)
        exact ⟨rfl, hT.post rfl⟩
      replace c12_ := ne_of_beqf c12_
      refine cont_false rfl ?_
      refine cont_skip ?_
      refine then_normal ?_
      refine cont_seq ?_
      refine cont_region 5 rfl ?_
      refine batch0 [0, 0, 0] 3 2 [(5, .pointer (some ⟨b1, 0, none⟩)), (7, .slice A2 k4 cp5), (30, .int .i64 at_), (32, .int .i64 (k4 : Int))] [.gen (rowE (A2) g3 k4 cp5 25 4 (rvals P) true), .cells b1 [.int .i64 ra, .int .i64 rb, .int .i64 rc, .int .i64 rd] 25 true, .gen (rdE (A) g o n 4 (rvals xs))] rfl rfl (by kernel_rfl) (by kernel_rfl) ?_
      refine pl_step 4 1 rfl rfl ?_
      refine call_pure (d := 33) (.int .i64 (aroundI at_ (k4 : Int))) (by kernel_rfl) (fun w hT => refAround at_ (k4 : Int) w (by omega) (by omega)) ?_
      have hq13_ := aroundI_range at_ (m := (k4 : Int)) (by omega)
      refine batch0 [0] 5 0 [(5, .pointer (some ⟨b1, 0, none⟩)), (7, .slice A2 k4 cp5), (8, .int .i64 (aroundI at_ (k4 : Int)))] [.gen (rowE (A2) g3 k4 cp5 25 4 (rvals P) true), .cells b1 [.int .i64 ra, .int .i64 rb, .int .i64 rc, .int .i64 rd] 25 true, .gen (rdE (A) g o n 4 (rvals xs))] rfl rfl (by kernel_rfl) (by kernel_rfl) ?_
      refine cont_done ?_
      refine then_normal ?_
      refine cont_seq ?_
      refine cont_region 6 rfl ?_
      refine batch0 [0, 0, 1] 3 3 [(7, .slice A2 k4 cp5), (8, .int .i64 (aroundI at_ (k4 : Int))), (34, .slice A2 k4 cp5), (35, .int .i64 (aroundI at_ (k4 : Int))), (36, .agg #[.int .i64 ra, .int .i64 rb, .int .i64 rc, .int .i64 rd])] [.gen (rowE (A2) g3 k4 cp5 25 4 (rvals P) true), .cells b1 [.int .i64 ra, .int .i64 rb, .int .i64 rc, .int .i64 rd] 25 true, .gen (rdE (A) g o n 4 (rvals xs))] rfl rfl (by kernel_rfl) (by kernel_rfl) ?_
      refine cont_forget 1 rfl ?_
      refine pl_step 4 2 rfl rfl ?_
      refine call_pure (d := 37) (.agg #[.int .i64 ((smallR (⟨ra, rb, rc, rd⟩)).x0), .int .i64 ((smallR (⟨ra, rb, rc, rd⟩)).y0), .int .i64 ((smallR (⟨ra, rb, rc, rd⟩)).x1), .int .i64 ((smallR (⟨ra, rb, rc, rd⟩)).y1)]) (by kernel_rfl) (fun w hT => refSmall (⟨ra, rb, rc, rd⟩) w ⟨hra, hrb, hrc, hrd⟩) ?_
      refine pl_step 5 1 rfl rfl ?_
      refine cont_recast 34 (.slice A2 k4 cp5) (.slice (some ⟨g3, 0, none⟩) k4 cp5) rfl (by rw [hr8_a (by omega)]) ?_
      refine sem_step 38 (Instr.indexAt 22 (.slice (some ⟨g3, 0, none⟩) k4 cp5) (.int .i64 (aroundI at_ (k4 : Int)))) (.pointer (some ⟨g3, (Int.toNat (aroundI at_ (k4 : Int))) * 4, none⟩)) (by kernel_rfl) (fun w hT => run_indexAt (e := 25) (sz := 4) _ (by kernel_rfl) (by kernel_rfl) (by omega) (by omega) (by omega) w) ?_
      refine pl_step 6 0 rfl rfl ?_
      refine sem_stepU (Instr.storeAt 25 (.pointer (some ⟨g3, (Int.toNat (aroundI at_ (k4 : Int))) * 4, none⟩)) (.agg #[.int .i64 ((smallR (⟨ra, rb, rc, rd⟩)).x0), .int .i64 ((smallR (⟨ra, rb, rc, rd⟩)).y0), .int .i64 ((smallR (⟨ra, rb, rc, rd⟩)).x1), .int .i64 ((smallR (⟨ra, rb, rc, rd⟩)).y1)])) (fun _ => [.gen (rowE (A2) g3 k4 cp5 25 4 (rvals (P.set (Int.toNat (aroundI at_ (k4 : Int))) (⟨(smallR (⟨ra, rb, rc, rd⟩)).x0, (smallR (⟨ra, rb, rc, rd⟩)).y0, (smallR (⟨ra, rb, rc, rd⟩)).x1, (smallR (⟨ra, rb, rc, rd⟩)).y1⟩ : Rect))) true), .gen (rdE (A) g o n 4 (rvals xs))]) (fun _ => True) (by kernel_rfl) (fun w hT => store_rectR hT (i := 0) (J := Int.toNat (aroundI at_ (k4 : Int))) (⟨(smallR (⟨ra, rb, rc, rd⟩)).x0, (smallR (⟨ra, rb, rc, rd⟩)).y0, (smallR (⟨ra, rb, rc, rd⟩)).x1, (smallR (⟨ra, rb, rc, rd⟩)).y1⟩ : Rect) rfl (by kernel_rfl) (by omega)) (fun _ _ => ?_)
      refine cont_done ?_
      refine then_normal ?_
      refine cont_seq ?_
      refine cont_seq ?_
      refine cont_region 5 rfl ?_
      obtain ⟨M14, hM14⟩ : ∃ y_ : List Rect, y_ = (P.set (Int.toNat (aroundI at_ (k4 : Int))) (⟨(smallR (⟨ra, rb, rc, rd⟩)).x0, (smallR (⟨ra, rb, rc, rd⟩)).y0, (smallR (⟨ra, rb, rc, rd⟩)).x1, (smallR (⟨ra, rb, rc, rd⟩)).y1⟩ : Rect)) := ⟨_, rfl⟩
      refine cont_rowEqR 0 (P.set (Int.toNat (aroundI at_ (k4 : Int))) (⟨(smallR (⟨ra, rb, rc, rd⟩)).x0, (smallR (⟨ra, rb, rc, rd⟩)).y0, (smallR (⟨ra, rb, rc, rd⟩)).x1, (smallR (⟨ra, rb, rc, rd⟩)).y1⟩ : Rect)) (M14) rfl hM14.symm ?_
      refine cont_norm [(7, .slice A2 k4 cp5), (8, .int .i64 (aroundI at_ (k4 : Int))), (34, .slice (some ⟨g3, 0, none⟩) k4 cp5), (35, .int .i64 (aroundI at_ (k4 : Int))), (36, .agg #[.int .i64 ra, .int .i64 rb, .int .i64 rc, .int .i64 rd]), (37, .agg #[.int .i64 ((smallR (⟨ra, rb, rc, rd⟩)).x0), .int .i64 ((smallR (⟨ra, rb, rc, rd⟩)).y0), .int .i64 ((smallR (⟨ra, rb, rc, rd⟩)).x1), .int .i64 ((smallR (⟨ra, rb, rc, rd⟩)).y1)]), (38, .pointer (some ⟨g3, (Int.toNat (aroundI at_ (k4 : Int))) * 4, none⟩))] [.gen (rowE (A2) g3 k4 cp5 25 4 (rvals M14) true), .gen (rdE (A) g o n 4 (rvals xs))] (by kernel_rfl) rfl ?_
      refine cont_fact (F := (0 < k4 → (A2 : Option Addr) = some ⟨g3, 0, none⟩) ∧ M14.length = k4 ∧ k4 ≤ cp5 ∧ cp5 ≤ maxLen) (fun w hT => Row.factsR (hT.ok 0 _ rfl)) (fun hr15_ => ?_)
      obtain ⟨hr15_a, hr15_l, hr15_c, hr15_m⟩ := hr15_
      unfold maxLen at hr15_m
      refine batch0 [0] 1 4 [(7, .slice A2 k4 cp5), (8, .int .i64 (aroundI at_ (k4 : Int))), (39, .slice A2 k4 cp5)] [.gen (rowE (A2) g3 k4 cp5 25 4 (rvals M14) true), .gen (rdE (A) g o n 4 (rvals xs))] rfl rfl (by kernel_rfl) (by kernel_rfl) ?_
      refine pl_step 2 3 rfl rfl ?_
      refine call_pure (d := 40) (.bool (decide (M14 = canR M14))) (by kernel_rfl) (fun w hT => regMay A2 g3 0 k4 cp5 M14 w (hT.viewRo (.cons (i := 0) rfl Vw.rowRd .nil) rfl) (by omega)) ?_
      refine batch0 [0] 3 2 [(7, .slice A2 k4 cp5), (8, .int .i64 (aroundI at_ (k4 : Int))), (40, .bool (decide (M14 = canR M14))), (41, .slice A2 k4 cp5)] [.gen (rowE (A2) g3 k4 cp5 25 4 (rvals M14) true), .gen (rdE (A) g o n 4 (rvals xs))] rfl rfl (by kernel_rfl) (by kernel_rfl) ?_
      refine pl_step 4 1 rfl rfl ?_
      refine call_pure (d := 42) (.bool (decide (M14 = canR M14))) (by kernel_rfl) (fun w hT => refMayL A2 g3 0 k4 cp5 M14 w (hT.viewRo (.cons (i := 0) rfl Vw.rowRd .nil) rfl) (by omega) (by omega)) ?_
      refine cont_split 40 (decide (M14 = canR M14)) rfl (fun c16_ => ?_) (fun c16_ => ?_)
      ·
        refine cont_recast 42 (.bool (decide (M14 = canR M14))) (.bool true) rfl (congrArg Value.bool c16_) ?_
        replace c16_ := of_decide_eq_true c16_
        refine batch0 [0] 5 0 [(7, .slice A2 k4 cp5), (8, .int .i64 (aroundI at_ (k4 : Int))), (43, .bool false)] [.gen (rowE (A2) g3 k4 cp5 25 4 (rvals M14) true), .gen (rdE (A) g o n 4 (rvals xs))] rfl rfl (by kernel_rfl) (by kernel_rfl) ?_
        refine cont_done ?_
        refine then_normal ?_
        refine cont_false rfl ?_
        refine cont_skip ?_
        refine then_normal ?_
        refine cont_seq ?_
        refine cont_region 7 rfl ?_
        refine batch0 [0, 0, 0] 3 4 [(7, .slice A2 k4 cp5), (44, .slice A2 k4 cp5), (45, .int .i64 (aroundI at_ (k4 : Int))), (46, .slice A2 k4 cp5)] [.gen (rowE (A2) g3 k4 cp5 25 4 (rvals M14) true), .gen (rdE (A) g o n 4 (rvals xs))] rfl rfl (by kernel_rfl) (by kernel_rfl) ?_
        refine pl_step 4 3 rfl rfl ?_
        refine cont_recast 46 (.slice A2 k4 cp5) (.slice (some ⟨g3, 0, none⟩) k4 cp5) rfl (by rw [hr15_a (by omega)]) ?_
        refine sem_step 47 (Instr.indexAt 22 (.slice (some ⟨g3, 0, none⟩) k4 cp5) (.int .i64 0)) (.pointer (some ⟨g3, 0 * 4, none⟩)) (by kernel_rfl) (fun w hT => run_indexAt (e := 25) (sz := 4) _ (by kernel_rfl) (by kernel_rfl) (by omega) (by omega) (by omega) w) ?_
        refine pl_step 5 2 rfl rfl ?_
        refine sem_step 48 (Instr.loadAt 25 (.pointer (some ⟨g3, 0 * 4, none⟩))) (.agg #[.int .i64 ((rget M14 0).x0), .int .i64 ((rget M14 0).y0), .int .i64 ((rget M14 0).x1), .int .i64 ((rget M14 0).y1)]) (by kernel_rfl) (fun w hT => run_loadN (m := 4) (cs := rcells (rget M14 0)) (by kernel_rfl) (by kernel_rfl) rfl (Rd.rect0 (Row.rd (hT.ok 0 _ rfl)) (by omega))) ?_
        refine pl_step 6 1 rfl rfl ?_
        refine cont_recast 44 (.slice A2 k4 cp5) (.slice (some ⟨g3, 0, none⟩) k4 cp5) rfl (by rw [hr15_a (by omega)]) ?_
        refine sem_step 49 (Instr.indexAt 22 (.slice (some ⟨g3, 0, none⟩) k4 cp5) (.int .i64 (aroundI at_ (k4 : Int)))) (.pointer (some ⟨g3, (Int.toNat (aroundI at_ (k4 : Int))) * 4, none⟩)) (by kernel_rfl) (fun w hT => run_indexAt (e := 25) (sz := 4) _ (by kernel_rfl) (by kernel_rfl) (by omega) (by omega) (by omega) w) ?_
        refine pl_step 7 0 rfl rfl ?_
        refine sem_stepU (Instr.storeAt 25 (.pointer (some ⟨g3, (Int.toNat (aroundI at_ (k4 : Int))) * 4, none⟩)) (.agg #[.int .i64 ((rget M14 0).x0), .int .i64 ((rget M14 0).y0), .int .i64 ((rget M14 0).x1), .int .i64 ((rget M14 0).y1)])) (fun _ => [.gen (rowE (A2) g3 k4 cp5 25 4 (rvals (M14.set (Int.toNat (aroundI at_ (k4 : Int))) (⟨(rget M14 0).x0, (rget M14 0).y0, (rget M14 0).x1, (rget M14 0).y1⟩ : Rect))) true), .gen (rdE (A) g o n 4 (rvals xs))]) (fun _ => True) (by kernel_rfl) (fun w hT => store_rectR hT (i := 0) (J := Int.toNat (aroundI at_ (k4 : Int))) (⟨(rget M14 0).x0, (rget M14 0).y0, (rget M14 0).x1, (rget M14 0).y1⟩ : Rect) rfl (by kernel_rfl) (by omega)) (fun _ _ => ?_)
        refine cont_done ?_
        refine then_normal ?_
        refine cont_seq ?_
        refine cont_region 9 rfl ?_
        obtain ⟨M17, hM17⟩ : ∃ y_ : List Rect, y_ = (M14.set (Int.toNat (aroundI at_ (k4 : Int))) (⟨(rget M14 0).x0, (rget M14 0).y0, (rget M14 0).x1, (rget M14 0).y1⟩ : Rect)) := ⟨_, rfl⟩
        refine cont_rowEqR 0 (M14.set (Int.toNat (aroundI at_ (k4 : Int))) (⟨(rget M14 0).x0, (rget M14 0).y0, (rget M14 0).x1, (rget M14 0).y1⟩ : Rect)) (M17) rfl hM17.symm ?_
        refine cont_norm [(7, .slice A2 k4 cp5), (44, .slice (some ⟨g3, 0, none⟩) k4 cp5), (45, .int .i64 (aroundI at_ (k4 : Int))), (46, .slice (some ⟨g3, 0, none⟩) k4 cp5), (47, .pointer (some ⟨g3, 0 * 4, none⟩)), (48, .agg #[.int .i64 ((rget M14 0).x0), .int .i64 ((rget M14 0).y0), .int .i64 ((rget M14 0).x1), .int .i64 ((rget M14 0).y1)]), (49, .pointer (some ⟨g3, (Int.toNat (aroundI at_ (k4 : Int))) * 4, none⟩))] [.gen (rowE (A2) g3 k4 cp5 25 4 (rvals M17) true), .gen (rdE (A) g o n 4 (rvals xs))] (by kernel_rfl) rfl ?_
        refine cont_fact (F := (0 < k4 → (A2 : Option Addr) = some ⟨g3, 0, none⟩) ∧ M17.length = k4 ∧ k4 ≤ cp5 ∧ cp5 ≤ maxLen) (fun w hT => Row.factsR (hT.ok 0 _ rfl)) (fun hr18_ => ?_)
        obtain ⟨hr18_a, hr18_l, hr18_c, hr18_m⟩ := hr18_
        unfold maxLen at hr18_m
        refine batch0 [0] 1 8 [(7, .slice A2 k4 cp5), (50, .slice A2 k4 cp5)] [.gen (rowE (A2) g3 k4 cp5 25 4 (rvals M17) true), .gen (rdE (A) g o n 4 (rvals xs))] rfl rfl (by kernel_rfl) (by kernel_rfl) ?_
        refine pl_step 2 7 rfl rfl ?_
        refine call_pure (d := 51) (.bool (decide (M17 = canR M17))) (by kernel_rfl) (fun w hT => regMay A2 g3 0 k4 cp5 M17 w (hT.viewRo (.cons (i := 0) rfl Vw.rowRd .nil) rfl) (by omega)) ?_
        refine batch0 [0] 3 6 [(51, .bool (decide (M17 = canR M17))), (52, .slice A2 k4 cp5)] [.gen (rowE (A2) g3 k4 cp5 25 4 (rvals M17) true), .gen (rdE (A) g o n 4 (rvals xs))] rfl rfl (by kernel_rfl) (by kernel_rfl) ?_
        refine pl_step 4 5 rfl rfl ?_
        refine call_pure (d := 53) (.bool (decide (M17 = canR M17))) (by kernel_rfl) (fun w hT => refMayL A2 g3 0 k4 cp5 M17 w (hT.viewRo (.cons (i := 0) rfl Vw.rowRd .nil) rfl) (by omega) (by omega)) ?_
        refine cont_split 51 (decide (M17 = canR M17)) rfl (fun c19_ => ?_) (fun c19_ => ?_)
        ·
          refine cont_recast 53 (.bool (decide (M17 = canR M17))) (.bool true) rfl (congrArg Value.bool c19_) ?_
          replace c19_ := of_decide_eq_true c19_
          refine batch0 [0, 0] 6 3 [(55, .bool true)] [.gen (rowE (A2) g3 k4 cp5 25 4 (rvals M17) true), .gen (rdE (A) g o n 4 (rvals xs))] rfl rfl (by kernel_rfl) (by kernel_rfl) ?_
          refine pl_step 7 2 rfl rfl ?_
          refine call_pure (d := 56) (.bool true) (by kernel_rfl) (fun w hT => lives2  w) ?_
          refine batch0 [0, 0] 9 0 [(6, .bool true)] [.gen (rowE (A2) g3 k4 cp5 25 4 (rvals M17) true), .gen (rdE (A) g o n 4 (rvals xs))] rfl rfl (by kernel_rfl) (by kernel_rfl) ?_
          refine cont_done ?_
          refine then_normal ?_
          refine cont_ret ?_
          refine ret_one (.inl rfl) rfl 0 (.bool true) (by kernel_rfl) (by kernel_rfl) (fun w hT => ?_)
          exact ⟨rfl, hT.post rfl⟩
        refine cont_recast 53 (.bool (decide (M17 = canR M17))) (.bool false) rfl (congrArg Value.bool c19_) ?_
        replace c19_ := of_decide_eq_false c19_
        refine batch0 [0, 0] 6 3 [(55, .bool true)] [.gen (rowE (A2) g3 k4 cp5 25 4 (rvals M17) true), .gen (rdE (A) g o n 4 (rvals xs))] rfl rfl (by kernel_rfl) (by kernel_rfl) ?_
        refine pl_step 7 2 rfl rfl ?_
        refine call_pure (d := 56) (.bool true) (by kernel_rfl) (fun w hT => lives2  w) ?_
        refine batch0 [0, 0] 9 0 [(6, .bool true)] [.gen (rowE (A2) g3 k4 cp5 25 4 (rvals M17) true), .gen (rdE (A) g o n 4 (rvals xs))] rfl rfl (by kernel_rfl) (by kernel_rfl) ?_
        refine cont_done ?_
        refine then_normal ?_
        refine cont_ret ?_
        refine ret_one (.inl rfl) rfl 0 (.bool true) (by kernel_rfl) (by kernel_rfl) (fun w hT => ?_)
        exact ⟨rfl, hT.post rfl⟩
      refine cont_recast 42 (.bool (decide (M14 = canR M14))) (.bool false) rfl (congrArg Value.bool c16_) ?_
      replace c16_ := of_decide_eq_false c16_
      refine batch0 [0] 5 0 [(7, .slice A2 k4 cp5), (8, .int .i64 (aroundI at_ (k4 : Int))), (43, .bool false)] [.gen (rowE (A2) g3 k4 cp5 25 4 (rvals M14) true), .gen (rdE (A) g o n 4 (rvals xs))] rfl rfl (by kernel_rfl) (by kernel_rfl) ?_
      refine cont_done ?_
      refine then_normal ?_
      refine cont_false rfl ?_
      refine cont_skip ?_
      refine then_normal ?_
      refine cont_seq ?_
      refine cont_region 7 rfl ?_
      refine batch0 [0, 0, 0] 3 4 [(7, .slice A2 k4 cp5), (44, .slice A2 k4 cp5), (45, .int .i64 (aroundI at_ (k4 : Int))), (46, .slice A2 k4 cp5)] [.gen (rowE (A2) g3 k4 cp5 25 4 (rvals M14) true), .gen (rdE (A) g o n 4 (rvals xs))] rfl rfl (by kernel_rfl) (by kernel_rfl) ?_
      refine pl_step 4 3 rfl rfl ?_
      refine cont_recast 46 (.slice A2 k4 cp5) (.slice (some ⟨g3, 0, none⟩) k4 cp5) rfl (by rw [hr15_a (by omega)]) ?_
      refine sem_step 47 (Instr.indexAt 22 (.slice (some ⟨g3, 0, none⟩) k4 cp5) (.int .i64 0)) (.pointer (some ⟨g3, 0 * 4, none⟩)) (by kernel_rfl) (fun w hT => run_indexAt (e := 25) (sz := 4) _ (by kernel_rfl) (by kernel_rfl) (by omega) (by omega) (by omega) w) ?_
      refine pl_step 5 2 rfl rfl ?_
      refine sem_step 48 (Instr.loadAt 25 (.pointer (some ⟨g3, 0 * 4, none⟩))) (.agg #[.int .i64 ((rget M14 0).x0), .int .i64 ((rget M14 0).y0), .int .i64 ((rget M14 0).x1), .int .i64 ((rget M14 0).y1)]) (by kernel_rfl) (fun w hT => run_loadN (m := 4) (cs := rcells (rget M14 0)) (by kernel_rfl) (by kernel_rfl) rfl (Rd.rect0 (Row.rd (hT.ok 0 _ rfl)) (by omega))) ?_
      refine pl_step 6 1 rfl rfl ?_
      refine cont_recast 44 (.slice A2 k4 cp5) (.slice (some ⟨g3, 0, none⟩) k4 cp5) rfl (by rw [hr15_a (by omega)]) ?_
      refine sem_step 49 (Instr.indexAt 22 (.slice (some ⟨g3, 0, none⟩) k4 cp5) (.int .i64 (aroundI at_ (k4 : Int)))) (.pointer (some ⟨g3, (Int.toNat (aroundI at_ (k4 : Int))) * 4, none⟩)) (by kernel_rfl) (fun w hT => run_indexAt (e := 25) (sz := 4) _ (by kernel_rfl) (by kernel_rfl) (by omega) (by omega) (by omega) w) ?_
      refine pl_step 7 0 rfl rfl ?_
      refine sem_stepU (Instr.storeAt 25 (.pointer (some ⟨g3, (Int.toNat (aroundI at_ (k4 : Int))) * 4, none⟩)) (.agg #[.int .i64 ((rget M14 0).x0), .int .i64 ((rget M14 0).y0), .int .i64 ((rget M14 0).x1), .int .i64 ((rget M14 0).y1)])) (fun _ => [.gen (rowE (A2) g3 k4 cp5 25 4 (rvals (M14.set (Int.toNat (aroundI at_ (k4 : Int))) (⟨(rget M14 0).x0, (rget M14 0).y0, (rget M14 0).x1, (rget M14 0).y1⟩ : Rect))) true), .gen (rdE (A) g o n 4 (rvals xs))]) (fun _ => True) (by kernel_rfl) (fun w hT => store_rectR hT (i := 0) (J := Int.toNat (aroundI at_ (k4 : Int))) (⟨(rget M14 0).x0, (rget M14 0).y0, (rget M14 0).x1, (rget M14 0).y1⟩ : Rect) rfl (by kernel_rfl) (by omega)) (fun _ _ => ?_)
      refine cont_done ?_
      refine then_normal ?_
      refine cont_seq ?_
      refine cont_region 9 rfl ?_
      obtain ⟨M20, hM20⟩ : ∃ y_ : List Rect, y_ = (M14.set (Int.toNat (aroundI at_ (k4 : Int))) (⟨(rget M14 0).x0, (rget M14 0).y0, (rget M14 0).x1, (rget M14 0).y1⟩ : Rect)) := ⟨_, rfl⟩
      refine cont_rowEqR 0 (M14.set (Int.toNat (aroundI at_ (k4 : Int))) (⟨(rget M14 0).x0, (rget M14 0).y0, (rget M14 0).x1, (rget M14 0).y1⟩ : Rect)) (M20) rfl hM20.symm ?_
      refine cont_norm [(7, .slice A2 k4 cp5), (44, .slice (some ⟨g3, 0, none⟩) k4 cp5), (45, .int .i64 (aroundI at_ (k4 : Int))), (46, .slice (some ⟨g3, 0, none⟩) k4 cp5), (47, .pointer (some ⟨g3, 0 * 4, none⟩)), (48, .agg #[.int .i64 ((rget M14 0).x0), .int .i64 ((rget M14 0).y0), .int .i64 ((rget M14 0).x1), .int .i64 ((rget M14 0).y1)]), (49, .pointer (some ⟨g3, (Int.toNat (aroundI at_ (k4 : Int))) * 4, none⟩))] [.gen (rowE (A2) g3 k4 cp5 25 4 (rvals M20) true), .gen (rdE (A) g o n 4 (rvals xs))] (by kernel_rfl) rfl ?_
      refine cont_fact (F := (0 < k4 → (A2 : Option Addr) = some ⟨g3, 0, none⟩) ∧ M20.length = k4 ∧ k4 ≤ cp5 ∧ cp5 ≤ maxLen) (fun w hT => Row.factsR (hT.ok 0 _ rfl)) (fun hr21_ => ?_)
      obtain ⟨hr21_a, hr21_l, hr21_c, hr21_m⟩ := hr21_
      unfold maxLen at hr21_m
      refine batch0 [0] 1 8 [(7, .slice A2 k4 cp5), (50, .slice A2 k4 cp5)] [.gen (rowE (A2) g3 k4 cp5 25 4 (rvals M20) true), .gen (rdE (A) g o n 4 (rvals xs))] rfl rfl (by kernel_rfl) (by kernel_rfl) ?_
      refine pl_step 2 7 rfl rfl ?_
      refine call_pure (d := 51) (.bool (decide (M20 = canR M20))) (by kernel_rfl) (fun w hT => regMay A2 g3 0 k4 cp5 M20 w (hT.viewRo (.cons (i := 0) rfl Vw.rowRd .nil) rfl) (by omega)) ?_
      refine batch0 [0] 3 6 [(51, .bool (decide (M20 = canR M20))), (52, .slice A2 k4 cp5)] [.gen (rowE (A2) g3 k4 cp5 25 4 (rvals M20) true), .gen (rdE (A) g o n 4 (rvals xs))] rfl rfl (by kernel_rfl) (by kernel_rfl) ?_
      refine pl_step 4 5 rfl rfl ?_
      refine call_pure (d := 53) (.bool (decide (M20 = canR M20))) (by kernel_rfl) (fun w hT => refMayL A2 g3 0 k4 cp5 M20 w (hT.viewRo (.cons (i := 0) rfl Vw.rowRd .nil) rfl) (by omega) (by omega)) ?_
      refine cont_split 51 (decide (M20 = canR M20)) rfl (fun c22_ => ?_) (fun c22_ => ?_)
      ·
        refine cont_recast 53 (.bool (decide (M20 = canR M20))) (.bool true) rfl (congrArg Value.bool c22_) ?_
        replace c22_ := of_decide_eq_true c22_
        refine batch0 [0, 0] 6 3 [(55, .bool true)] [.gen (rowE (A2) g3 k4 cp5 25 4 (rvals M20) true), .gen (rdE (A) g o n 4 (rvals xs))] rfl rfl (by kernel_rfl) (by kernel_rfl) ?_
        refine pl_step 7 2 rfl rfl ?_
        refine call_pure (d := 56) (.bool true) (by kernel_rfl) (fun w hT => lives2  w) ?_
        refine batch0 [0, 0] 9 0 [(6, .bool true)] [.gen (rowE (A2) g3 k4 cp5 25 4 (rvals M20) true), .gen (rdE (A) g o n 4 (rvals xs))] rfl rfl (by kernel_rfl) (by kernel_rfl) ?_
        refine cont_done ?_
        refine then_normal ?_
        refine cont_ret ?_
        refine ret_one (.inl rfl) rfl 0 (.bool true) (by kernel_rfl) (by kernel_rfl) (fun w hT => ?_)
        exact ⟨rfl, hT.post rfl⟩
      refine cont_recast 53 (.bool (decide (M20 = canR M20))) (.bool false) rfl (congrArg Value.bool c22_) ?_
      replace c22_ := of_decide_eq_false c22_
      refine batch0 [0, 0] 6 3 [(55, .bool true)] [.gen (rowE (A2) g3 k4 cp5 25 4 (rvals M20) true), .gen (rdE (A) g o n 4 (rvals xs))] rfl rfl (by kernel_rfl) (by kernel_rfl) ?_
      refine pl_step 7 2 rfl rfl ?_
      refine call_pure (d := 56) (.bool true) (by kernel_rfl) (fun w hT => lives2  w) ?_
      refine batch0 [0, 0] 9 0 [(6, .bool true)] [.gen (rowE (A2) g3 k4 cp5 25 4 (rvals M20) true), .gen (rdE (A) g o n 4 (rvals xs))] rfl rfl (by kernel_rfl) (by kernel_rfl) ?_
      refine cont_done ?_
      refine then_normal ?_
      refine cont_ret ?_
      refine ret_one (.inl rfl) rfl 0 (.bool true) (by kernel_rfl) (by kernel_rfl) (fun w hT => ?_)
      exact ⟨rfl, hT.post rfl⟩
    refine cont_recast 19 (.bool (decide ((xs.take 8) = canR (xs.take 8)))) (.bool false) rfl (congrArg Value.bool c10_) ?_
    replace c10_ := of_decide_eq_false c10_
    refine batch0 [0, 0, 0] 7 3 [(1, .int .i64 at_), (5, .pointer (some ⟨b1, 0, none⟩)), (7, .slice A2 k4 cp5), (21, .bool false), (22, .slice A2 k4 cp5)] [.gen (rowE (A2) g3 k4 cp5 25 4 (rvals P) true), .cells b1 [.int .i64 ra, .int .i64 rb, .int .i64 rc, .int .i64 rd] 25 true, .gen (rdE (A) g o n 4 (rvals xs))] rfl rfl (by kernel_rfl) (by kernel_rfl) ?_
    refine pl_step 8 2 rfl rfl ?_
    refine call_pure (d := 23) (.bool (decide (P = canR P))) (by kernel_rfl) (fun w hT => regMay A2 g3 0 k4 cp5 P w (hT.viewRo (.cons (i := 0) rfl Vw.rowRd .nil) rfl) (by omega)) ?_
    refine batch0 [0, 0] 10 0 [(1, .int .i64 at_), (5, .pointer (some ⟨b1, 0, none⟩)), (7, .slice A2 k4 cp5), (25, .bool (!(decide (P = canR P))))] [.gen (rowE (A2) g3 k4 cp5 25 4 (rvals P) true), .cells b1 [.int .i64 ra, .int .i64 rb, .int .i64 rc, .int .i64 rd] 25 true, .gen (rdE (A) g o n 4 (rvals xs))] rfl rfl (by kernel_rfl) (by kernel_rfl) ?_
    refine cont_done ?_
    refine then_normal ?_
    refine cont_recast 25 (.bool (!(decide (P = canR P)))) (.bool false) rfl (congrArg Value.bool (by rw [show (decide (P = canR P)) = true from (decide_eq_true hP.can.symm)]; rfl)) ?_
    refine cont_false rfl ?_
    refine cont_skip ?_
    refine then_normal ?_
    refine cont_seq ?_
    refine cont_seq ?_
    refine cont_region 3 rfl ?_
    refine batch0 [0, 0, 0] 3 0 [(1, .int .i64 at_), (5, .pointer (some ⟨b1, 0, none⟩)), (7, .slice A2 k4 cp5), (28, .bool ((k4 : Int) == 0))] [.gen (rowE (A2) g3 k4 cp5 25 4 (rvals P) true), .cells b1 [.int .i64 ra, .int .i64 rb, .int .i64 rc, .int .i64 rd] 25 true, .gen (rdE (A) g o n 4 (rvals xs))] rfl rfl (by kernel_rfl) (by kernel_rfl) ?_
    refine cont_done ?_
    refine then_normal ?_
    refine cont_split 28 ((k4 : Int) == 0) rfl (fun c24_ => ?_) (fun c24_ => ?_)
    ·
      replace c24_ := eq_of_beqt c24_
      refine cont_true rfl ?_
      refine cont_seq ?_
      refine cont_region 2 rfl ?_
      refine pl_step 1 1 rfl rfl ?_
      refine call_pure (d := 29) (.bool true) (by kernel_rfl) (fun w hT => lives2  w) ?_
      refine batch0 [0] 2 0 [(6, .bool true)] [.gen (rowE (A2) g3 k4 cp5 25 4 (rvals P) true), .cells b1 [.int .i64 ra, .int .i64 rb, .int .i64 rc, .int .i64 rd] 25 true, .gen (rdE (A) g o n 4 (rvals xs))] rfl rfl (by kernel_rfl) (by kernel_rfl) ?_
      refine cont_forget 1 rfl ?_
      refine cont_done ?_
      refine then_normal ?_
      refine cont_ret ?_
      refine then_ret ?_
      refine ret_one (.inl rfl) rfl 0 (.bool true) (by kernel_rfl) (by kernel_rfl) (fun w hT => ?_)
      exact ⟨rfl, hT.post rfl⟩
    replace c24_ := ne_of_beqf c24_
    refine cont_false rfl ?_
    refine cont_skip ?_
    refine then_normal ?_
    refine cont_seq ?_
    refine cont_region 5 rfl ?_
    refine batch0 [0, 0, 0] 3 2 [(5, .pointer (some ⟨b1, 0, none⟩)), (7, .slice A2 k4 cp5), (30, .int .i64 at_), (32, .int .i64 (k4 : Int))] [.gen (rowE (A2) g3 k4 cp5 25 4 (rvals P) true), .cells b1 [.int .i64 ra, .int .i64 rb, .int .i64 rc, .int .i64 rd] 25 true, .gen (rdE (A) g o n 4 (rvals xs))] rfl rfl (by kernel_rfl) (by kernel_rfl) ?_
    refine pl_step 4 1 rfl rfl ?_
    refine call_pure (d := 33) (.int .i64 (aroundI at_ (k4 : Int))) (by kernel_rfl) (fun w hT => refAround at_ (k4 : Int) w (by omega) (by omega)) ?_
    have hq25_ := aroundI_range at_ (m := (k4 : Int)) (by omega)
    refine batch0 [0] 5 0 [(5, .pointer (some ⟨b1, 0, none⟩)), (7, .slice A2 k4 cp5), (8, .int .i64 (aroundI at_ (k4 : Int)))] [.gen (rowE (A2) g3 k4 cp5 25 4 (rvals P) true), .cells b1 [.int .i64 ra, .int .i64 rb, .int .i64 rc, .int .i64 rd] 25 true, .gen (rdE (A) g o n 4 (rvals xs))] rfl rfl (by kernel_rfl) (by kernel_rfl) ?_
    refine cont_done ?_
    refine then_normal ?_
    refine cont_seq ?_
    refine cont_region 6 rfl ?_
    refine batch0 [0, 0, 1] 3 3 [(7, .slice A2 k4 cp5), (8, .int .i64 (aroundI at_ (k4 : Int))), (34, .slice A2 k4 cp5), (35, .int .i64 (aroundI at_ (k4 : Int))), (36, .agg #[.int .i64 ra, .int .i64 rb, .int .i64 rc, .int .i64 rd])] [.gen (rowE (A2) g3 k4 cp5 25 4 (rvals P) true), .cells b1 [.int .i64 ra, .int .i64 rb, .int .i64 rc, .int .i64 rd] 25 true, .gen (rdE (A) g o n 4 (rvals xs))] rfl rfl (by kernel_rfl) (by kernel_rfl) ?_
    refine cont_forget 1 rfl ?_
    refine pl_step 4 2 rfl rfl ?_
    refine call_pure (d := 37) (.agg #[.int .i64 ((smallR (⟨ra, rb, rc, rd⟩)).x0), .int .i64 ((smallR (⟨ra, rb, rc, rd⟩)).y0), .int .i64 ((smallR (⟨ra, rb, rc, rd⟩)).x1), .int .i64 ((smallR (⟨ra, rb, rc, rd⟩)).y1)]) (by kernel_rfl) (fun w hT => refSmall (⟨ra, rb, rc, rd⟩) w ⟨hra, hrb, hrc, hrd⟩) ?_
    refine pl_step 5 1 rfl rfl ?_
    refine cont_recast 34 (.slice A2 k4 cp5) (.slice (some ⟨g3, 0, none⟩) k4 cp5) rfl (by rw [hr8_a (by omega)]) ?_
    refine sem_step 38 (Instr.indexAt 22 (.slice (some ⟨g3, 0, none⟩) k4 cp5) (.int .i64 (aroundI at_ (k4 : Int)))) (.pointer (some ⟨g3, (Int.toNat (aroundI at_ (k4 : Int))) * 4, none⟩)) (by kernel_rfl) (fun w hT => run_indexAt (e := 25) (sz := 4) _ (by kernel_rfl) (by kernel_rfl) (by omega) (by omega) (by omega) w) ?_
    refine pl_step 6 0 rfl rfl ?_
    refine sem_stepU (Instr.storeAt 25 (.pointer (some ⟨g3, (Int.toNat (aroundI at_ (k4 : Int))) * 4, none⟩)) (.agg #[.int .i64 ((smallR (⟨ra, rb, rc, rd⟩)).x0), .int .i64 ((smallR (⟨ra, rb, rc, rd⟩)).y0), .int .i64 ((smallR (⟨ra, rb, rc, rd⟩)).x1), .int .i64 ((smallR (⟨ra, rb, rc, rd⟩)).y1)])) (fun _ => [.gen (rowE (A2) g3 k4 cp5 25 4 (rvals (P.set (Int.toNat (aroundI at_ (k4 : Int))) (⟨(smallR (⟨ra, rb, rc, rd⟩)).x0, (smallR (⟨ra, rb, rc, rd⟩)).y0, (smallR (⟨ra, rb, rc, rd⟩)).x1, (smallR (⟨ra, rb, rc, rd⟩)).y1⟩ : Rect))) true), .gen (rdE (A) g o n 4 (rvals xs))]) (fun _ => True) (by kernel_rfl) (fun w hT => store_rectR hT (i := 0) (J := Int.toNat (aroundI at_ (k4 : Int))) (⟨(smallR (⟨ra, rb, rc, rd⟩)).x0, (smallR (⟨ra, rb, rc, rd⟩)).y0, (smallR (⟨ra, rb, rc, rd⟩)).x1, (smallR (⟨ra, rb, rc, rd⟩)).y1⟩ : Rect) rfl (by kernel_rfl) (by omega)) (fun _ _ => ?_)
    refine cont_done ?_
    refine then_normal ?_
    refine cont_seq ?_
    refine cont_seq ?_
    refine cont_region 5 rfl ?_
    obtain ⟨M26, hM26⟩ : ∃ y_ : List Rect, y_ = (P.set (Int.toNat (aroundI at_ (k4 : Int))) (⟨(smallR (⟨ra, rb, rc, rd⟩)).x0, (smallR (⟨ra, rb, rc, rd⟩)).y0, (smallR (⟨ra, rb, rc, rd⟩)).x1, (smallR (⟨ra, rb, rc, rd⟩)).y1⟩ : Rect)) := ⟨_, rfl⟩
    refine cont_rowEqR 0 (P.set (Int.toNat (aroundI at_ (k4 : Int))) (⟨(smallR (⟨ra, rb, rc, rd⟩)).x0, (smallR (⟨ra, rb, rc, rd⟩)).y0, (smallR (⟨ra, rb, rc, rd⟩)).x1, (smallR (⟨ra, rb, rc, rd⟩)).y1⟩ : Rect)) (M26) rfl hM26.symm ?_
    refine cont_norm [(7, .slice A2 k4 cp5), (8, .int .i64 (aroundI at_ (k4 : Int))), (34, .slice (some ⟨g3, 0, none⟩) k4 cp5), (35, .int .i64 (aroundI at_ (k4 : Int))), (36, .agg #[.int .i64 ra, .int .i64 rb, .int .i64 rc, .int .i64 rd]), (37, .agg #[.int .i64 ((smallR (⟨ra, rb, rc, rd⟩)).x0), .int .i64 ((smallR (⟨ra, rb, rc, rd⟩)).y0), .int .i64 ((smallR (⟨ra, rb, rc, rd⟩)).x1), .int .i64 ((smallR (⟨ra, rb, rc, rd⟩)).y1)]), (38, .pointer (some ⟨g3, (Int.toNat (aroundI at_ (k4 : Int))) * 4, none⟩))] [.gen (rowE (A2) g3 k4 cp5 25 4 (rvals M26) true), .gen (rdE (A) g o n 4 (rvals xs))] (by kernel_rfl) rfl ?_
    refine cont_fact (F := (0 < k4 → (A2 : Option Addr) = some ⟨g3, 0, none⟩) ∧ M26.length = k4 ∧ k4 ≤ cp5 ∧ cp5 ≤ maxLen) (fun w hT => Row.factsR (hT.ok 0 _ rfl)) (fun hr27_ => ?_)
    obtain ⟨hr27_a, hr27_l, hr27_c, hr27_m⟩ := hr27_
    unfold maxLen at hr27_m
    refine batch0 [0] 1 4 [(7, .slice A2 k4 cp5), (8, .int .i64 (aroundI at_ (k4 : Int))), (39, .slice A2 k4 cp5)] [.gen (rowE (A2) g3 k4 cp5 25 4 (rvals M26) true), .gen (rdE (A) g o n 4 (rvals xs))] rfl rfl (by kernel_rfl) (by kernel_rfl) ?_
    refine pl_step 2 3 rfl rfl ?_
    refine call_pure (d := 40) (.bool (decide (M26 = canR M26))) (by kernel_rfl) (fun w hT => regMay A2 g3 0 k4 cp5 M26 w (hT.viewRo (.cons (i := 0) rfl Vw.rowRd .nil) rfl) (by omega)) ?_
    refine batch0 [0] 3 2 [(7, .slice A2 k4 cp5), (8, .int .i64 (aroundI at_ (k4 : Int))), (40, .bool (decide (M26 = canR M26))), (41, .slice A2 k4 cp5)] [.gen (rowE (A2) g3 k4 cp5 25 4 (rvals M26) true), .gen (rdE (A) g o n 4 (rvals xs))] rfl rfl (by kernel_rfl) (by kernel_rfl) ?_
    refine pl_step 4 1 rfl rfl ?_
    refine call_pure (d := 42) (.bool (decide (M26 = canR M26))) (by kernel_rfl) (fun w hT => refMayL A2 g3 0 k4 cp5 M26 w (hT.viewRo (.cons (i := 0) rfl Vw.rowRd .nil) rfl) (by omega) (by omega)) ?_
    refine cont_split 40 (decide (M26 = canR M26)) rfl (fun c28_ => ?_) (fun c28_ => ?_)
    ·
      refine cont_recast 42 (.bool (decide (M26 = canR M26))) (.bool true) rfl (congrArg Value.bool c28_) ?_
      replace c28_ := of_decide_eq_true c28_
      refine batch0 [0] 5 0 [(7, .slice A2 k4 cp5), (8, .int .i64 (aroundI at_ (k4 : Int))), (43, .bool false)] [.gen (rowE (A2) g3 k4 cp5 25 4 (rvals M26) true), .gen (rdE (A) g o n 4 (rvals xs))] rfl rfl (by kernel_rfl) (by kernel_rfl) ?_
      refine cont_done ?_
      refine then_normal ?_
      refine cont_false rfl ?_
      refine cont_skip ?_
      refine then_normal ?_
      refine cont_seq ?_
      refine cont_region 7 rfl ?_
      refine batch0 [0, 0, 0] 3 4 [(7, .slice A2 k4 cp5), (44, .slice A2 k4 cp5), (45, .int .i64 (aroundI at_ (k4 : Int))), (46, .slice A2 k4 cp5)] [.gen (rowE (A2) g3 k4 cp5 25 4 (rvals M26) true), .gen (rdE (A) g o n 4 (rvals xs))] rfl rfl (by kernel_rfl) (by kernel_rfl) ?_
      refine pl_step 4 3 rfl rfl ?_
      refine cont_recast 46 (.slice A2 k4 cp5) (.slice (some ⟨g3, 0, none⟩) k4 cp5) rfl (by rw [hr27_a (by omega)]) ?_
      refine sem_step 47 (Instr.indexAt 22 (.slice (some ⟨g3, 0, none⟩) k4 cp5) (.int .i64 0)) (.pointer (some ⟨g3, 0 * 4, none⟩)) (by kernel_rfl) (fun w hT => run_indexAt (e := 25) (sz := 4) _ (by kernel_rfl) (by kernel_rfl) (by omega) (by omega) (by omega) w) ?_
      refine pl_step 5 2 rfl rfl ?_
      refine sem_step 48 (Instr.loadAt 25 (.pointer (some ⟨g3, 0 * 4, none⟩))) (.agg #[.int .i64 ((rget M26 0).x0), .int .i64 ((rget M26 0).y0), .int .i64 ((rget M26 0).x1), .int .i64 ((rget M26 0).y1)]) (by kernel_rfl) (fun w hT => run_loadN (m := 4) (cs := rcells (rget M26 0)) (by kernel_rfl) (by kernel_rfl) rfl (Rd.rect0 (Row.rd (hT.ok 0 _ rfl)) (by omega))) ?_
      refine pl_step 6 1 rfl rfl ?_
      refine cont_recast 44 (.slice A2 k4 cp5) (.slice (some ⟨g3, 0, none⟩) k4 cp5) rfl (by rw [hr27_a (by omega)]) ?_
      refine sem_step 49 (Instr.indexAt 22 (.slice (some ⟨g3, 0, none⟩) k4 cp5) (.int .i64 (aroundI at_ (k4 : Int)))) (.pointer (some ⟨g3, (Int.toNat (aroundI at_ (k4 : Int))) * 4, none⟩)) (by kernel_rfl) (fun w hT => run_indexAt (e := 25) (sz := 4) _ (by kernel_rfl) (by kernel_rfl) (by omega) (by omega) (by omega) w) ?_
      refine pl_step 7 0 rfl rfl ?_
      refine sem_stepU (Instr.storeAt 25 (.pointer (some ⟨g3, (Int.toNat (aroundI at_ (k4 : Int))) * 4, none⟩)) (.agg #[.int .i64 ((rget M26 0).x0), .int .i64 ((rget M26 0).y0), .int .i64 ((rget M26 0).x1), .int .i64 ((rget M26 0).y1)])) (fun _ => [.gen (rowE (A2) g3 k4 cp5 25 4 (rvals (M26.set (Int.toNat (aroundI at_ (k4 : Int))) (⟨(rget M26 0).x0, (rget M26 0).y0, (rget M26 0).x1, (rget M26 0).y1⟩ : Rect))) true), .gen (rdE (A) g o n 4 (rvals xs))]) (fun _ => True) (by kernel_rfl) (fun w hT => store_rectR hT (i := 0) (J := Int.toNat (aroundI at_ (k4 : Int))) (⟨(rget M26 0).x0, (rget M26 0).y0, (rget M26 0).x1, (rget M26 0).y1⟩ : Rect) rfl (by kernel_rfl) (by omega)) (fun _ _ => ?_)
      refine cont_done ?_
      refine then_normal ?_
      refine cont_seq ?_
      refine cont_region 9 rfl ?_
      obtain ⟨M29, hM29⟩ : ∃ y_ : List Rect, y_ = (M26.set (Int.toNat (aroundI at_ (k4 : Int))) (⟨(rget M26 0).x0, (rget M26 0).y0, (rget M26 0).x1, (rget M26 0).y1⟩ : Rect)) := ⟨_, rfl⟩
      refine cont_rowEqR 0 (M26.set (Int.toNat (aroundI at_ (k4 : Int))) (⟨(rget M26 0).x0, (rget M26 0).y0, (rget M26 0).x1, (rget M26 0).y1⟩ : Rect)) (M29) rfl hM29.symm ?_
      refine cont_norm [(7, .slice A2 k4 cp5), (44, .slice (some ⟨g3, 0, none⟩) k4 cp5), (45, .int .i64 (aroundI at_ (k4 : Int))), (46, .slice (some ⟨g3, 0, none⟩) k4 cp5), (47, .pointer (some ⟨g3, 0 * 4, none⟩)), (48, .agg #[.int .i64 ((rget M26 0).x0), .int .i64 ((rget M26 0).y0), .int .i64 ((rget M26 0).x1), .int .i64 ((rget M26 0).y1)]), (49, .pointer (some ⟨g3, (Int.toNat (aroundI at_ (k4 : Int))) * 4, none⟩))] [.gen (rowE (A2) g3 k4 cp5 25 4 (rvals M29) true), .gen (rdE (A) g o n 4 (rvals xs))] (by kernel_rfl) rfl ?_
      refine cont_fact (F := (0 < k4 → (A2 : Option Addr) = some ⟨g3, 0, none⟩) ∧ M29.length = k4 ∧ k4 ≤ cp5 ∧ cp5 ≤ maxLen) (fun w hT => Row.factsR (hT.ok 0 _ rfl)) (fun hr30_ => ?_)
      obtain ⟨hr30_a, hr30_l, hr30_c, hr30_m⟩ := hr30_
      unfold maxLen at hr30_m
      refine batch0 [0] 1 8 [(7, .slice A2 k4 cp5), (50, .slice A2 k4 cp5)] [.gen (rowE (A2) g3 k4 cp5 25 4 (rvals M29) true), .gen (rdE (A) g o n 4 (rvals xs))] rfl rfl (by kernel_rfl) (by kernel_rfl) ?_
      refine pl_step 2 7 rfl rfl ?_
      refine call_pure (d := 51) (.bool (decide (M29 = canR M29))) (by kernel_rfl) (fun w hT => regMay A2 g3 0 k4 cp5 M29 w (hT.viewRo (.cons (i := 0) rfl Vw.rowRd .nil) rfl) (by omega)) ?_
      refine batch0 [0] 3 6 [(51, .bool (decide (M29 = canR M29))), (52, .slice A2 k4 cp5)] [.gen (rowE (A2) g3 k4 cp5 25 4 (rvals M29) true), .gen (rdE (A) g o n 4 (rvals xs))] rfl rfl (by kernel_rfl) (by kernel_rfl) ?_
      refine pl_step 4 5 rfl rfl ?_
      refine call_pure (d := 53) (.bool (decide (M29 = canR M29))) (by kernel_rfl) (fun w hT => refMayL A2 g3 0 k4 cp5 M29 w (hT.viewRo (.cons (i := 0) rfl Vw.rowRd .nil) rfl) (by omega) (by omega)) ?_
      refine cont_split 51 (decide (M29 = canR M29)) rfl (fun c31_ => ?_) (fun c31_ => ?_)
      ·
        refine cont_recast 53 (.bool (decide (M29 = canR M29))) (.bool true) rfl (congrArg Value.bool c31_) ?_
        replace c31_ := of_decide_eq_true c31_
        refine batch0 [0, 0] 6 3 [(55, .bool true)] [.gen (rowE (A2) g3 k4 cp5 25 4 (rvals M29) true), .gen (rdE (A) g o n 4 (rvals xs))] rfl rfl (by kernel_rfl) (by kernel_rfl) ?_
        refine pl_step 7 2 rfl rfl ?_
        refine call_pure (d := 56) (.bool true) (by kernel_rfl) (fun w hT => lives2  w) ?_
        refine batch0 [0, 0] 9 0 [(6, .bool true)] [.gen (rowE (A2) g3 k4 cp5 25 4 (rvals M29) true), .gen (rdE (A) g o n 4 (rvals xs))] rfl rfl (by kernel_rfl) (by kernel_rfl) ?_
        refine cont_done ?_
        refine then_normal ?_
        refine cont_ret ?_
        refine ret_one (.inl rfl) rfl 0 (.bool true) (by kernel_rfl) (by kernel_rfl) (fun w hT => ?_)
        exact ⟨rfl, hT.post rfl⟩
      refine cont_recast 53 (.bool (decide (M29 = canR M29))) (.bool false) rfl (congrArg Value.bool c31_) ?_
      replace c31_ := of_decide_eq_false c31_
      refine batch0 [0, 0] 6 3 [(55, .bool true)] [.gen (rowE (A2) g3 k4 cp5 25 4 (rvals M29) true), .gen (rdE (A) g o n 4 (rvals xs))] rfl rfl (by kernel_rfl) (by kernel_rfl) ?_
      refine pl_step 7 2 rfl rfl ?_
      refine call_pure (d := 56) (.bool true) (by kernel_rfl) (fun w hT => lives2  w) ?_
      refine batch0 [0, 0] 9 0 [(6, .bool true)] [.gen (rowE (A2) g3 k4 cp5 25 4 (rvals M29) true), .gen (rdE (A) g o n 4 (rvals xs))] rfl rfl (by kernel_rfl) (by kernel_rfl) ?_
      refine cont_done ?_
      refine then_normal ?_
      refine cont_ret ?_
      refine ret_one (.inl rfl) rfl 0 (.bool true) (by kernel_rfl) (by kernel_rfl) (fun w hT => ?_)
      exact ⟨rfl, hT.post rfl⟩
    refine cont_recast 42 (.bool (decide (M26 = canR M26))) (.bool false) rfl (congrArg Value.bool c28_) ?_
    replace c28_ := of_decide_eq_false c28_
    refine batch0 [0] 5 0 [(7, .slice A2 k4 cp5), (8, .int .i64 (aroundI at_ (k4 : Int))), (43, .bool false)] [.gen (rowE (A2) g3 k4 cp5 25 4 (rvals M26) true), .gen (rdE (A) g o n 4 (rvals xs))] rfl rfl (by kernel_rfl) (by kernel_rfl) ?_
    refine cont_done ?_
    refine then_normal ?_
    refine cont_false rfl ?_
    refine cont_skip ?_
    refine then_normal ?_
    refine cont_seq ?_
    refine cont_region 7 rfl ?_
    refine batch0 [0, 0, 0] 3 4 [(7, .slice A2 k4 cp5), (44, .slice A2 k4 cp5), (45, .int .i64 (aroundI at_ (k4 : Int))), (46, .slice A2 k4 cp5)] [.gen (rowE (A2) g3 k4 cp5 25 4 (rvals M26) true), .gen (rdE (A) g o n 4 (rvals xs))] rfl rfl (by kernel_rfl) (by kernel_rfl) ?_
    refine pl_step 4 3 rfl rfl ?_
    refine cont_recast 46 (.slice A2 k4 cp5) (.slice (some ⟨g3, 0, none⟩) k4 cp5) rfl (by rw [hr27_a (by omega)]) ?_
    refine sem_step 47 (Instr.indexAt 22 (.slice (some ⟨g3, 0, none⟩) k4 cp5) (.int .i64 0)) (.pointer (some ⟨g3, 0 * 4, none⟩)) (by kernel_rfl) (fun w hT => run_indexAt (e := 25) (sz := 4) _ (by kernel_rfl) (by kernel_rfl) (by omega) (by omega) (by omega) w) ?_
    refine pl_step 5 2 rfl rfl ?_
    refine sem_step 48 (Instr.loadAt 25 (.pointer (some ⟨g3, 0 * 4, none⟩))) (.agg #[.int .i64 ((rget M26 0).x0), .int .i64 ((rget M26 0).y0), .int .i64 ((rget M26 0).x1), .int .i64 ((rget M26 0).y1)]) (by kernel_rfl) (fun w hT => run_loadN (m := 4) (cs := rcells (rget M26 0)) (by kernel_rfl) (by kernel_rfl) rfl (Rd.rect0 (Row.rd (hT.ok 0 _ rfl)) (by omega))) ?_
    refine pl_step 6 1 rfl rfl ?_
    refine cont_recast 44 (.slice A2 k4 cp5) (.slice (some ⟨g3, 0, none⟩) k4 cp5) rfl (by rw [hr27_a (by omega)]) ?_
    refine sem_step 49 (Instr.indexAt 22 (.slice (some ⟨g3, 0, none⟩) k4 cp5) (.int .i64 (aroundI at_ (k4 : Int)))) (.pointer (some ⟨g3, (Int.toNat (aroundI at_ (k4 : Int))) * 4, none⟩)) (by kernel_rfl) (fun w hT => run_indexAt (e := 25) (sz := 4) _ (by kernel_rfl) (by kernel_rfl) (by omega) (by omega) (by omega) w) ?_
    refine pl_step 7 0 rfl rfl ?_
    refine sem_stepU (Instr.storeAt 25 (.pointer (some ⟨g3, (Int.toNat (aroundI at_ (k4 : Int))) * 4, none⟩)) (.agg #[.int .i64 ((rget M26 0).x0), .int .i64 ((rget M26 0).y0), .int .i64 ((rget M26 0).x1), .int .i64 ((rget M26 0).y1)])) (fun _ => [.gen (rowE (A2) g3 k4 cp5 25 4 (rvals (M26.set (Int.toNat (aroundI at_ (k4 : Int))) (⟨(rget M26 0).x0, (rget M26 0).y0, (rget M26 0).x1, (rget M26 0).y1⟩ : Rect))) true), .gen (rdE (A) g o n 4 (rvals xs))]) (fun _ => True) (by kernel_rfl) (fun w hT => store_rectR hT (i := 0) (J := Int.toNat (aroundI at_ (k4 : Int))) (⟨(rget M26 0).x0, (rget M26 0).y0, (rget M26 0).x1, (rget M26 0).y1⟩ : Rect) rfl (by kernel_rfl) (by omega)) (fun _ _ => ?_)
    refine cont_done ?_
    refine then_normal ?_
    refine cont_seq ?_
    refine cont_region 9 rfl ?_
    obtain ⟨M32, hM32⟩ : ∃ y_ : List Rect, y_ = (M26.set (Int.toNat (aroundI at_ (k4 : Int))) (⟨(rget M26 0).x0, (rget M26 0).y0, (rget M26 0).x1, (rget M26 0).y1⟩ : Rect)) := ⟨_, rfl⟩
    refine cont_rowEqR 0 (M26.set (Int.toNat (aroundI at_ (k4 : Int))) (⟨(rget M26 0).x0, (rget M26 0).y0, (rget M26 0).x1, (rget M26 0).y1⟩ : Rect)) (M32) rfl hM32.symm ?_
    refine cont_norm [(7, .slice A2 k4 cp5), (44, .slice (some ⟨g3, 0, none⟩) k4 cp5), (45, .int .i64 (aroundI at_ (k4 : Int))), (46, .slice (some ⟨g3, 0, none⟩) k4 cp5), (47, .pointer (some ⟨g3, 0 * 4, none⟩)), (48, .agg #[.int .i64 ((rget M26 0).x0), .int .i64 ((rget M26 0).y0), .int .i64 ((rget M26 0).x1), .int .i64 ((rget M26 0).y1)]), (49, .pointer (some ⟨g3, (Int.toNat (aroundI at_ (k4 : Int))) * 4, none⟩))] [.gen (rowE (A2) g3 k4 cp5 25 4 (rvals M32) true), .gen (rdE (A) g o n 4 (rvals xs))] (by kernel_rfl) rfl ?_
    refine cont_fact (F := (0 < k4 → (A2 : Option Addr) = some ⟨g3, 0, none⟩) ∧ M32.length = k4 ∧ k4 ≤ cp5 ∧ cp5 ≤ maxLen) (fun w hT => Row.factsR (hT.ok 0 _ rfl)) (fun hr33_ => ?_)
    obtain ⟨hr33_a, hr33_l, hr33_c, hr33_m⟩ := hr33_
    unfold maxLen at hr33_m
    refine batch0 [0] 1 8 [(7, .slice A2 k4 cp5), (50, .slice A2 k4 cp5)] [.gen (rowE (A2) g3 k4 cp5 25 4 (rvals M32) true), .gen (rdE (A) g o n 4 (rvals xs))] rfl rfl (by kernel_rfl) (by kernel_rfl) ?_
    refine pl_step 2 7 rfl rfl ?_
    refine call_pure (d := 51) (.bool (decide (M32 = canR M32))) (by kernel_rfl) (fun w hT => regMay A2 g3 0 k4 cp5 M32 w (hT.viewRo (.cons (i := 0) rfl Vw.rowRd .nil) rfl) (by omega)) ?_
    refine batch0 [0] 3 6 [(51, .bool (decide (M32 = canR M32))), (52, .slice A2 k4 cp5)] [.gen (rowE (A2) g3 k4 cp5 25 4 (rvals M32) true), .gen (rdE (A) g o n 4 (rvals xs))] rfl rfl (by kernel_rfl) (by kernel_rfl) ?_
    refine pl_step 4 5 rfl rfl ?_
    refine call_pure (d := 53) (.bool (decide (M32 = canR M32))) (by kernel_rfl) (fun w hT => refMayL A2 g3 0 k4 cp5 M32 w (hT.viewRo (.cons (i := 0) rfl Vw.rowRd .nil) rfl) (by omega) (by omega)) ?_
    refine cont_split 51 (decide (M32 = canR M32)) rfl (fun c34_ => ?_) (fun c34_ => ?_)
    ·
      refine cont_recast 53 (.bool (decide (M32 = canR M32))) (.bool true) rfl (congrArg Value.bool c34_) ?_
      replace c34_ := of_decide_eq_true c34_
      refine batch0 [0, 0] 6 3 [(55, .bool true)] [.gen (rowE (A2) g3 k4 cp5 25 4 (rvals M32) true), .gen (rdE (A) g o n 4 (rvals xs))] rfl rfl (by kernel_rfl) (by kernel_rfl) ?_
      refine pl_step 7 2 rfl rfl ?_
      refine call_pure (d := 56) (.bool true) (by kernel_rfl) (fun w hT => lives2  w) ?_
      refine batch0 [0, 0] 9 0 [(6, .bool true)] [.gen (rowE (A2) g3 k4 cp5 25 4 (rvals M32) true), .gen (rdE (A) g o n 4 (rvals xs))] rfl rfl (by kernel_rfl) (by kernel_rfl) ?_
      refine cont_done ?_
      refine then_normal ?_
      refine cont_ret ?_
      refine ret_one (.inl rfl) rfl 0 (.bool true) (by kernel_rfl) (by kernel_rfl) (fun w hT => ?_)
      exact ⟨rfl, hT.post rfl⟩
    refine cont_recast 53 (.bool (decide (M32 = canR M32))) (.bool false) rfl (congrArg Value.bool c34_) ?_
    replace c34_ := of_decide_eq_false c34_
    refine batch0 [0, 0] 6 3 [(55, .bool true)] [.gen (rowE (A2) g3 k4 cp5 25 4 (rvals M32) true), .gen (rdE (A) g o n 4 (rvals xs))] rfl rfl (by kernel_rfl) (by kernel_rfl) ?_
    refine pl_step 7 2 rfl rfl ?_
    refine call_pure (d := 56) (.bool true) (by kernel_rfl) (fun w hT => lives2  w) ?_
    refine batch0 [0, 0] 9 0 [(6, .bool true)] [.gen (rowE (A2) g3 k4 cp5 25 4 (rvals M32) true), .gen (rdE (A) g o n 4 (rvals xs))] rfl rfl (by kernel_rfl) (by kernel_rfl) ?_
    refine cont_done ?_
    refine then_normal ?_
    refine cont_ret ?_
    refine ret_one (.inl rfl) rfl 0 (.bool true) (by kernel_rfl) (by kernel_rfl) (fun w hT => ?_)
    exact ⟨rfl, hT.post rfl⟩
  replace c9_ := of_decide_eq_false c9_
  refine cont_false rfl ?_
  refine cont_skip ?_
  refine then_normal ?_
  refine cont_seq ?_
  refine cont_seq ?_
  refine cont_region 10 rfl ?_
  refine batch0 [0] 1 9 [(0, .slice A n cap), (1, .int .i64 at_), (5, .pointer (some ⟨b1, 0, none⟩)), (7, .slice A2 k4 cp5), (16, .slice A n cap)] [.gen (rowE (A2) g3 k4 cp5 25 4 (rvals P) true), .cells b1 [.int .i64 ra, .int .i64 rb, .int .i64 rc, .int .i64 rd] 25 true, .gen (rdE (A) g o n 4 (rvals xs))] rfl rfl (by kernel_rfl) (by kernel_rfl) ?_
  refine pl_step 2 8 rfl rfl ?_
  refine call_pure (d := 17) (.bool (decide (xs = canR xs))) (by kernel_rfl) (fun w hT => regMay A g o n cap xs w (hT.viewRo (.cons (i := 2) rfl Vw.rd .nil) rfl) (by omega)) ?_
  refine batch0 [0] 3 7 [(1, .int .i64 at_), (5, .pointer (some ⟨b1, 0, none⟩)), (7, .slice A2 k4 cp5), (17, .bool (decide (xs = canR xs))), (18, .slice A n cap)] [.gen (rowE (A2) g3 k4 cp5 25 4 (rvals P) true), .cells b1 [.int .i64 ra, .int .i64 rb, .int .i64 rc, .int .i64 rd] 25 true, .gen (rdE (A) g o n 4 (rvals xs))] rfl rfl (by kernel_rfl) (by kernel_rfl) ?_
  refine pl_step 4 6 rfl rfl ?_
  refine call_pure (d := 19) (.bool (decide (xs = canR xs))) (by kernel_rfl) (fun w hT => refMayL A g o n cap xs w (hT.viewRo (.cons (i := 2) rfl Vw.rd .nil) rfl) (by omega) (by omega)) ?_
  refine cont_split 17 (decide (xs = canR xs)) rfl (fun c35_ => ?_) (fun c35_ => ?_)
  ·
    refine cont_recast 19 (.bool (decide (xs = canR xs))) (.bool true) rfl (congrArg Value.bool c35_) ?_
    replace c35_ := of_decide_eq_true c35_
    refine batch0 [0, 0, 0] 7 3 [(1, .int .i64 at_), (5, .pointer (some ⟨b1, 0, none⟩)), (7, .slice A2 k4 cp5), (21, .bool false), (22, .slice A2 k4 cp5)] [.gen (rowE (A2) g3 k4 cp5 25 4 (rvals P) true), .cells b1 [.int .i64 ra, .int .i64 rb, .int .i64 rc, .int .i64 rd] 25 true, .gen (rdE (A) g o n 4 (rvals xs))] rfl rfl (by kernel_rfl) (by kernel_rfl) ?_
    refine pl_step 8 2 rfl rfl ?_
    refine call_pure (d := 23) (.bool (decide (P = canR P))) (by kernel_rfl) (fun w hT => regMay A2 g3 0 k4 cp5 P w (hT.viewRo (.cons (i := 0) rfl Vw.rowRd .nil) rfl) (by omega)) ?_
    refine batch0 [0, 0] 10 0 [(1, .int .i64 at_), (5, .pointer (some ⟨b1, 0, none⟩)), (7, .slice A2 k4 cp5), (25, .bool (!(decide (P = canR P))))] [.gen (rowE (A2) g3 k4 cp5 25 4 (rvals P) true), .cells b1 [.int .i64 ra, .int .i64 rb, .int .i64 rc, .int .i64 rd] 25 true, .gen (rdE (A) g o n 4 (rvals xs))] rfl rfl (by kernel_rfl) (by kernel_rfl) ?_
    refine cont_done ?_
    refine then_normal ?_
    refine cont_recast 25 (.bool (!(decide (P = canR P)))) (.bool false) rfl (congrArg Value.bool (by rw [show (decide (P = canR P)) = true from (decide_eq_true hP.can.symm)]; rfl)) ?_
    refine cont_false rfl ?_
    refine cont_skip ?_
    refine then_normal ?_
    refine cont_seq ?_
    refine cont_seq ?_
    refine cont_region 3 rfl ?_
    refine batch0 [0, 0, 0] 3 0 [(1, .int .i64 at_), (5, .pointer (some ⟨b1, 0, none⟩)), (7, .slice A2 k4 cp5), (28, .bool ((k4 : Int) == 0))] [.gen (rowE (A2) g3 k4 cp5 25 4 (rvals P) true), .cells b1 [.int .i64 ra, .int .i64 rb, .int .i64 rc, .int .i64 rd] 25 true, .gen (rdE (A) g o n 4 (rvals xs))] rfl rfl (by kernel_rfl) (by kernel_rfl) ?_
    refine cont_done ?_
    refine then_normal ?_
    refine cont_split 28 ((k4 : Int) == 0) rfl (fun c37_ => ?_) (fun c37_ => ?_)
    ·
      replace c37_ := eq_of_beqt c37_
      refine cont_true rfl ?_
      refine cont_seq ?_
      refine cont_region 2 rfl ?_
      refine pl_step 1 1 rfl rfl ?_
      refine call_pure (d := 29) (.bool true) (by kernel_rfl) (fun w hT => lives2  w) ?_
      refine batch0 [0] 2 0 [(6, .bool true)] [.gen (rowE (A2) g3 k4 cp5 25 4 (rvals P) true), .cells b1 [.int .i64 ra, .int .i64 rb, .int .i64 rc, .int .i64 rd] 25 true, .gen (rdE (A) g o n 4 (rvals xs))] rfl rfl (by kernel_rfl) (by kernel_rfl) ?_
      refine cont_forget 1 rfl ?_
      refine cont_done ?_
      refine then_normal ?_
      refine cont_ret ?_
      refine then_ret ?_
      refine ret_one (.inl rfl) rfl 0 (.bool true) (by kernel_rfl) (by kernel_rfl) (fun w hT => ?_)
      exact ⟨rfl, hT.post rfl⟩
    replace c37_ := ne_of_beqf c37_
    refine cont_false rfl ?_
    refine cont_skip ?_
    refine then_normal ?_
    refine cont_seq ?_
    refine cont_region 5 rfl ?_
    refine batch0 [0, 0, 0] 3 2 [(5, .pointer (some ⟨b1, 0, none⟩)), (7, .slice A2 k4 cp5), (30, .int .i64 at_), (32, .int .i64 (k4 : Int))] [.gen (rowE (A2) g3 k4 cp5 25 4 (rvals P) true), .cells b1 [.int .i64 ra, .int .i64 rb, .int .i64 rc, .int .i64 rd] 25 true, .gen (rdE (A) g o n 4 (rvals xs))] rfl rfl (by kernel_rfl) (by kernel_rfl) ?_
    refine pl_step 4 1 rfl rfl ?_
    refine call_pure (d := 33) (.int .i64 (aroundI at_ (k4 : Int))) (by kernel_rfl) (fun w hT => refAround at_ (k4 : Int) w (by omega) (by omega)) ?_
    have hq38_ := aroundI_range at_ (m := (k4 : Int)) (by omega)
    refine batch0 [0] 5 0 [(5, .pointer (some ⟨b1, 0, none⟩)), (7, .slice A2 k4 cp5), (8, .int .i64 (aroundI at_ (k4 : Int)))] [.gen (rowE (A2) g3 k4 cp5 25 4 (rvals P) true), .cells b1 [.int .i64 ra, .int .i64 rb, .int .i64 rc, .int .i64 rd] 25 true, .gen (rdE (A) g o n 4 (rvals xs))] rfl rfl (by kernel_rfl) (by kernel_rfl) ?_
    refine cont_done ?_
    refine then_normal ?_
    refine cont_seq ?_
    refine cont_region 6 rfl ?_
    refine batch0 [0, 0, 1] 3 3 [(7, .slice A2 k4 cp5), (8, .int .i64 (aroundI at_ (k4 : Int))), (34, .slice A2 k4 cp5), (35, .int .i64 (aroundI at_ (k4 : Int))), (36, .agg #[.int .i64 ra, .int .i64 rb, .int .i64 rc, .int .i64 rd])] [.gen (rowE (A2) g3 k4 cp5 25 4 (rvals P) true), .cells b1 [.int .i64 ra, .int .i64 rb, .int .i64 rc, .int .i64 rd] 25 true, .gen (rdE (A) g o n 4 (rvals xs))] rfl rfl (by kernel_rfl) (by kernel_rfl) ?_
    refine cont_forget 1 rfl ?_
    refine pl_step 4 2 rfl rfl ?_
    refine call_pure (d := 37) (.agg #[.int .i64 ((smallR (⟨ra, rb, rc, rd⟩)).x0), .int .i64 ((smallR (⟨ra, rb, rc, rd⟩)).y0), .int .i64 ((smallR (⟨ra, rb, rc, rd⟩)).x1), .int .i64 ((smallR (⟨ra, rb, rc, rd⟩)).y1)]) (by kernel_rfl) (fun w hT => refSmall (⟨ra, rb, rc, rd⟩) w ⟨hra, hrb, hrc, hrd⟩) ?_
    refine pl_step 5 1 rfl rfl ?_
    refine cont_recast 34 (.slice A2 k4 cp5) (.slice (some ⟨g3, 0, none⟩) k4 cp5) rfl (by rw [hr8_a (by omega)]) ?_
    refine sem_step 38 (Instr.indexAt 22 (.slice (some ⟨g3, 0, none⟩) k4 cp5) (.int .i64 (aroundI at_ (k4 : Int)))) (.pointer (some ⟨g3, (Int.toNat (aroundI at_ (k4 : Int))) * 4, none⟩)) (by kernel_rfl) (fun w hT => run_indexAt (e := 25) (sz := 4) _ (by kernel_rfl) (by kernel_rfl) (by omega) (by omega) (by omega) w) ?_
    refine pl_step 6 0 rfl rfl ?_
    refine sem_stepU (Instr.storeAt 25 (.pointer (some ⟨g3, (Int.toNat (aroundI at_ (k4 : Int))) * 4, none⟩)) (.agg #[.int .i64 ((smallR (⟨ra, rb, rc, rd⟩)).x0), .int .i64 ((smallR (⟨ra, rb, rc, rd⟩)).y0), .int .i64 ((smallR (⟨ra, rb, rc, rd⟩)).x1), .int .i64 ((smallR (⟨ra, rb, rc, rd⟩)).y1)])) (fun _ => [.gen (rowE (A2) g3 k4 cp5 25 4 (rvals (P.set (Int.toNat (aroundI at_ (k4 : Int))) (⟨(smallR (⟨ra, rb, rc, rd⟩)).x0, (smallR (⟨ra, rb, rc, rd⟩)).y0, (smallR (⟨ra, rb, rc, rd⟩)).x1, (smallR (⟨ra, rb, rc, rd⟩)).y1⟩ : Rect))) true), .gen (rdE (A) g o n 4 (rvals xs))]) (fun _ => True) (by kernel_rfl) (fun w hT => store_rectR hT (i := 0) (J := Int.toNat (aroundI at_ (k4 : Int))) (⟨(smallR (⟨ra, rb, rc, rd⟩)).x0, (smallR (⟨ra, rb, rc, rd⟩)).y0, (smallR (⟨ra, rb, rc, rd⟩)).x1, (smallR (⟨ra, rb, rc, rd⟩)).y1⟩ : Rect) rfl (by kernel_rfl) (by omega)) (fun _ _ => ?_)
    refine cont_done ?_
    refine then_normal ?_
    refine cont_seq ?_
    refine cont_seq ?_
    refine cont_region 5 rfl ?_
    obtain ⟨M39, hM39⟩ : ∃ y_ : List Rect, y_ = (P.set (Int.toNat (aroundI at_ (k4 : Int))) (⟨(smallR (⟨ra, rb, rc, rd⟩)).x0, (smallR (⟨ra, rb, rc, rd⟩)).y0, (smallR (⟨ra, rb, rc, rd⟩)).x1, (smallR (⟨ra, rb, rc, rd⟩)).y1⟩ : Rect)) := ⟨_, rfl⟩
    refine cont_rowEqR 0 (P.set (Int.toNat (aroundI at_ (k4 : Int))) (⟨(smallR (⟨ra, rb, rc, rd⟩)).x0, (smallR (⟨ra, rb, rc, rd⟩)).y0, (smallR (⟨ra, rb, rc, rd⟩)).x1, (smallR (⟨ra, rb, rc, rd⟩)).y1⟩ : Rect)) (M39) rfl hM39.symm ?_
    refine cont_norm [(7, .slice A2 k4 cp5), (8, .int .i64 (aroundI at_ (k4 : Int))), (34, .slice (some ⟨g3, 0, none⟩) k4 cp5), (35, .int .i64 (aroundI at_ (k4 : Int))), (36, .agg #[.int .i64 ra, .int .i64 rb, .int .i64 rc, .int .i64 rd]), (37, .agg #[.int .i64 ((smallR (⟨ra, rb, rc, rd⟩)).x0), .int .i64 ((smallR (⟨ra, rb, rc, rd⟩)).y0), .int .i64 ((smallR (⟨ra, rb, rc, rd⟩)).x1), .int .i64 ((smallR (⟨ra, rb, rc, rd⟩)).y1)]), (38, .pointer (some ⟨g3, (Int.toNat (aroundI at_ (k4 : Int))) * 4, none⟩))] [.gen (rowE (A2) g3 k4 cp5 25 4 (rvals M39) true), .gen (rdE (A) g o n 4 (rvals xs))] (by kernel_rfl) rfl ?_
    refine cont_fact (F := (0 < k4 → (A2 : Option Addr) = some ⟨g3, 0, none⟩) ∧ M39.length = k4 ∧ k4 ≤ cp5 ∧ cp5 ≤ maxLen) (fun w hT => Row.factsR (hT.ok 0 _ rfl)) (fun hr40_ => ?_)
    obtain ⟨hr40_a, hr40_l, hr40_c, hr40_m⟩ := hr40_
    unfold maxLen at hr40_m
    refine batch0 [0] 1 4 [(7, .slice A2 k4 cp5), (8, .int .i64 (aroundI at_ (k4 : Int))), (39, .slice A2 k4 cp5)] [.gen (rowE (A2) g3 k4 cp5 25 4 (rvals M39) true), .gen (rdE (A) g o n 4 (rvals xs))] rfl rfl (by kernel_rfl) (by kernel_rfl) ?_
    refine pl_step 2 3 rfl rfl ?_
    refine call_pure (d := 40) (.bool (decide (M39 = canR M39))) (by kernel_rfl) (fun w hT => regMay A2 g3 0 k4 cp5 M39 w (hT.viewRo (.cons (i := 0) rfl Vw.rowRd .nil) rfl) (by omega)) ?_
    refine batch0 [0] 3 2 [(7, .slice A2 k4 cp5), (8, .int .i64 (aroundI at_ (k4 : Int))), (40, .bool (decide (M39 = canR M39))), (41, .slice A2 k4 cp5)] [.gen (rowE (A2) g3 k4 cp5 25 4 (rvals M39) true), .gen (rdE (A) g o n 4 (rvals xs))] rfl rfl (by kernel_rfl) (by kernel_rfl) ?_
    refine pl_step 4 1 rfl rfl ?_
    refine call_pure (d := 42) (.bool (decide (M39 = canR M39))) (by kernel_rfl) (fun w hT => refMayL A2 g3 0 k4 cp5 M39 w (hT.viewRo (.cons (i := 0) rfl Vw.rowRd .nil) rfl) (by omega) (by omega)) ?_
    refine cont_split 40 (decide (M39 = canR M39)) rfl (fun c41_ => ?_) (fun c41_ => ?_)
    ·
      refine cont_recast 42 (.bool (decide (M39 = canR M39))) (.bool true) rfl (congrArg Value.bool c41_) ?_
      replace c41_ := of_decide_eq_true c41_
      refine batch0 [0] 5 0 [(7, .slice A2 k4 cp5), (8, .int .i64 (aroundI at_ (k4 : Int))), (43, .bool false)] [.gen (rowE (A2) g3 k4 cp5 25 4 (rvals M39) true), .gen (rdE (A) g o n 4 (rvals xs))] rfl rfl (by kernel_rfl) (by kernel_rfl) ?_
      refine cont_done ?_
      refine then_normal ?_
      refine cont_false rfl ?_
      refine cont_skip ?_
      refine then_normal ?_
      refine cont_seq ?_
      refine cont_region 7 rfl ?_
      refine batch0 [0, 0, 0] 3 4 [(7, .slice A2 k4 cp5), (44, .slice A2 k4 cp5), (45, .int .i64 (aroundI at_ (k4 : Int))), (46, .slice A2 k4 cp5)] [.gen (rowE (A2) g3 k4 cp5 25 4 (rvals M39) true), .gen (rdE (A) g o n 4 (rvals xs))] rfl rfl (by kernel_rfl) (by kernel_rfl) ?_
      refine pl_step 4 3 rfl rfl ?_
      refine cont_recast 46 (.slice A2 k4 cp5) (.slice (some ⟨g3, 0, none⟩) k4 cp5) rfl (by rw [hr40_a (by omega)]) ?_
      refine sem_step 47 (Instr.indexAt 22 (.slice (some ⟨g3, 0, none⟩) k4 cp5) (.int .i64 0)) (.pointer (some ⟨g3, 0 * 4, none⟩)) (by kernel_rfl) (fun w hT => run_indexAt (e := 25) (sz := 4) _ (by kernel_rfl) (by kernel_rfl) (by omega) (by omega) (by omega) w) ?_
      refine pl_step 5 2 rfl rfl ?_
      refine sem_step 48 (Instr.loadAt 25 (.pointer (some ⟨g3, 0 * 4, none⟩))) (.agg #[.int .i64 ((rget M39 0).x0), .int .i64 ((rget M39 0).y0), .int .i64 ((rget M39 0).x1), .int .i64 ((rget M39 0).y1)]) (by kernel_rfl) (fun w hT => run_loadN (m := 4) (cs := rcells (rget M39 0)) (by kernel_rfl) (by kernel_rfl) rfl (Rd.rect0 (Row.rd (hT.ok 0 _ rfl)) (by omega))) ?_
      refine pl_step 6 1 rfl rfl ?_
      refine cont_recast 44 (.slice A2 k4 cp5) (.slice (some ⟨g3, 0, none⟩) k4 cp5) rfl (by rw [hr40_a (by omega)]) ?_
      refine sem_step 49 (Instr.indexAt 22 (.slice (some ⟨g3, 0, none⟩) k4 cp5) (.int .i64 (aroundI at_ (k4 : Int)))) (.pointer (some ⟨g3, (Int.toNat (aroundI at_ (k4 : Int))) * 4, none⟩)) (by kernel_rfl) (fun w hT => run_indexAt (e := 25) (sz := 4) _ (by kernel_rfl) (by kernel_rfl) (by omega) (by omega) (by omega) w) ?_
      refine pl_step 7 0 rfl rfl ?_
      refine sem_stepU (Instr.storeAt 25 (.pointer (some ⟨g3, (Int.toNat (aroundI at_ (k4 : Int))) * 4, none⟩)) (.agg #[.int .i64 ((rget M39 0).x0), .int .i64 ((rget M39 0).y0), .int .i64 ((rget M39 0).x1), .int .i64 ((rget M39 0).y1)])) (fun _ => [.gen (rowE (A2) g3 k4 cp5 25 4 (rvals (M39.set (Int.toNat (aroundI at_ (k4 : Int))) (⟨(rget M39 0).x0, (rget M39 0).y0, (rget M39 0).x1, (rget M39 0).y1⟩ : Rect))) true), .gen (rdE (A) g o n 4 (rvals xs))]) (fun _ => True) (by kernel_rfl) (fun w hT => store_rectR hT (i := 0) (J := Int.toNat (aroundI at_ (k4 : Int))) (⟨(rget M39 0).x0, (rget M39 0).y0, (rget M39 0).x1, (rget M39 0).y1⟩ : Rect) rfl (by kernel_rfl) (by omega)) (fun _ _ => ?_)
      refine cont_done ?_
      refine then_normal ?_
      refine cont_seq ?_
      refine cont_region 9 rfl ?_
      obtain ⟨M42, hM42⟩ : ∃ y_ : List Rect, y_ = (M39.set (Int.toNat (aroundI at_ (k4 : Int))) (⟨(rget M39 0).x0, (rget M39 0).y0, (rget M39 0).x1, (rget M39 0).y1⟩ : Rect)) := ⟨_, rfl⟩
      refine cont_rowEqR 0 (M39.set (Int.toNat (aroundI at_ (k4 : Int))) (⟨(rget M39 0).x0, (rget M39 0).y0, (rget M39 0).x1, (rget M39 0).y1⟩ : Rect)) (M42) rfl hM42.symm ?_
      refine cont_norm [(7, .slice A2 k4 cp5), (44, .slice (some ⟨g3, 0, none⟩) k4 cp5), (45, .int .i64 (aroundI at_ (k4 : Int))), (46, .slice (some ⟨g3, 0, none⟩) k4 cp5), (47, .pointer (some ⟨g3, 0 * 4, none⟩)), (48, .agg #[.int .i64 ((rget M39 0).x0), .int .i64 ((rget M39 0).y0), .int .i64 ((rget M39 0).x1), .int .i64 ((rget M39 0).y1)]), (49, .pointer (some ⟨g3, (Int.toNat (aroundI at_ (k4 : Int))) * 4, none⟩))] [.gen (rowE (A2) g3 k4 cp5 25 4 (rvals M42) true), .gen (rdE (A) g o n 4 (rvals xs))] (by kernel_rfl) rfl ?_
      refine cont_fact (F := (0 < k4 → (A2 : Option Addr) = some ⟨g3, 0, none⟩) ∧ M42.length = k4 ∧ k4 ≤ cp5 ∧ cp5 ≤ maxLen) (fun w hT => Row.factsR (hT.ok 0 _ rfl)) (fun hr43_ => ?_)
      obtain ⟨hr43_a, hr43_l, hr43_c, hr43_m⟩ := hr43_
      unfold maxLen at hr43_m
      refine batch0 [0] 1 8 [(7, .slice A2 k4 cp5), (50, .slice A2 k4 cp5)] [.gen (rowE (A2) g3 k4 cp5 25 4 (rvals M42) true), .gen (rdE (A) g o n 4 (rvals xs))] rfl rfl (by kernel_rfl) (by kernel_rfl) ?_
      refine pl_step 2 7 rfl rfl ?_
      refine call_pure (d := 51) (.bool (decide (M42 = canR M42))) (by kernel_rfl) (fun w hT => regMay A2 g3 0 k4 cp5 M42 w (hT.viewRo (.cons (i := 0) rfl Vw.rowRd .nil) rfl) (by omega)) ?_
      refine batch0 [0] 3 6 [(51, .bool (decide (M42 = canR M42))), (52, .slice A2 k4 cp5)] [.gen (rowE (A2) g3 k4 cp5 25 4 (rvals M42) true), .gen (rdE (A) g o n 4 (rvals xs))] rfl rfl (by kernel_rfl) (by kernel_rfl) ?_
      refine pl_step 4 5 rfl rfl ?_
      refine call_pure (d := 53) (.bool (decide (M42 = canR M42))) (by kernel_rfl) (fun w hT => refMayL A2 g3 0 k4 cp5 M42 w (hT.viewRo (.cons (i := 0) rfl Vw.rowRd .nil) rfl) (by omega) (by omega)) ?_
      refine cont_split 51 (decide (M42 = canR M42)) rfl (fun c44_ => ?_) (fun c44_ => ?_)
      ·
        refine cont_recast 53 (.bool (decide (M42 = canR M42))) (.bool true) rfl (congrArg Value.bool c44_) ?_
        replace c44_ := of_decide_eq_true c44_
        refine batch0 [0, 0] 6 3 [(55, .bool true)] [.gen (rowE (A2) g3 k4 cp5 25 4 (rvals M42) true), .gen (rdE (A) g o n 4 (rvals xs))] rfl rfl (by kernel_rfl) (by kernel_rfl) ?_
        refine pl_step 7 2 rfl rfl ?_
        refine call_pure (d := 56) (.bool true) (by kernel_rfl) (fun w hT => lives2  w) ?_
        refine batch0 [0, 0] 9 0 [(6, .bool true)] [.gen (rowE (A2) g3 k4 cp5 25 4 (rvals M42) true), .gen (rdE (A) g o n 4 (rvals xs))] rfl rfl (by kernel_rfl) (by kernel_rfl) ?_
        refine cont_done ?_
        refine then_normal ?_
        refine cont_ret ?_
        refine ret_one (.inl rfl) rfl 0 (.bool true) (by kernel_rfl) (by kernel_rfl) (fun w hT => ?_)
        exact ⟨rfl, hT.post rfl⟩
      refine cont_recast 53 (.bool (decide (M42 = canR M42))) (.bool false) rfl (congrArg Value.bool c44_) ?_
      replace c44_ := of_decide_eq_false c44_
      refine batch0 [0, 0] 6 3 [(55, .bool true)] [.gen (rowE (A2) g3 k4 cp5 25 4 (rvals M42) true), .gen (rdE (A) g o n 4 (rvals xs))] rfl rfl (by kernel_rfl) (by kernel_rfl) ?_
      refine pl_step 7 2 rfl rfl ?_
      refine call_pure (d := 56) (.bool true) (by kernel_rfl) (fun w hT => lives2  w) ?_
      refine batch0 [0, 0] 9 0 [(6, .bool true)] [.gen (rowE (A2) g3 k4 cp5 25 4 (rvals M42) true), .gen (rdE (A) g o n 4 (rvals xs))] rfl rfl (by kernel_rfl) (by kernel_rfl) ?_
      refine cont_done ?_
      refine then_normal ?_
      refine cont_ret ?_
      refine ret_one (.inl rfl) rfl 0 (.bool true) (by kernel_rfl) (by kernel_rfl) (fun w hT => ?_)
      exact ⟨rfl, hT.post rfl⟩
    refine cont_recast 42 (.bool (decide (M39 = canR M39))) (.bool false) rfl (congrArg Value.bool c41_) ?_
    replace c41_ := of_decide_eq_false c41_
    refine batch0 [0] 5 0 [(7, .slice A2 k4 cp5), (8, .int .i64 (aroundI at_ (k4 : Int))), (43, .bool false)] [.gen (rowE (A2) g3 k4 cp5 25 4 (rvals M39) true), .gen (rdE (A) g o n 4 (rvals xs))] rfl rfl (by kernel_rfl) (by kernel_rfl) ?_
    refine cont_done ?_
    refine then_normal ?_
    refine cont_false rfl ?_
    refine cont_skip ?_
    refine then_normal ?_
    refine cont_seq ?_
    refine cont_region 7 rfl ?_
    refine batch0 [0, 0, 0] 3 4 [(7, .slice A2 k4 cp5), (44, .slice A2 k4 cp5), (45, .int .i64 (aroundI at_ (k4 : Int))), (46, .slice A2 k4 cp5)] [.gen (rowE (A2) g3 k4 cp5 25 4 (rvals M39) true), .gen (rdE (A) g o n 4 (rvals xs))] rfl rfl (by kernel_rfl) (by kernel_rfl) ?_
    refine pl_step 4 3 rfl rfl ?_
    refine cont_recast 46 (.slice A2 k4 cp5) (.slice (some ⟨g3, 0, none⟩) k4 cp5) rfl (by rw [hr40_a (by omega)]) ?_
    refine sem_step 47 (Instr.indexAt 22 (.slice (some ⟨g3, 0, none⟩) k4 cp5) (.int .i64 0)) (.pointer (some ⟨g3, 0 * 4, none⟩)) (by kernel_rfl) (fun w hT => run_indexAt (e := 25) (sz := 4) _ (by kernel_rfl) (by kernel_rfl) (by omega) (by omega) (by omega) w) ?_
    refine pl_step 5 2 rfl rfl ?_
    refine sem_step 48 (Instr.loadAt 25 (.pointer (some ⟨g3, 0 * 4, none⟩))) (.agg #[.int .i64 ((rget M39 0).x0), .int .i64 ((rget M39 0).y0), .int .i64 ((rget M39 0).x1), .int .i64 ((rget M39 0).y1)]) (by kernel_rfl) (fun w hT => run_loadN (m := 4) (cs := rcells (rget M39 0)) (by kernel_rfl) (by kernel_rfl) rfl (Rd.rect0 (Row.rd (hT.ok 0 _ rfl)) (by omega))) ?_
    refine pl_step 6 1 rfl rfl ?_
    refine cont_recast 44 (.slice A2 k4 cp5) (.slice (some ⟨g3, 0, none⟩) k4 cp5) rfl (by rw [hr40_a (by omega)]) ?_
    refine sem_step 49 (Instr.indexAt 22 (.slice (some ⟨g3, 0, none⟩) k4 cp5) (.int .i64 (aroundI at_ (k4 : Int)))) (.pointer (some ⟨g3, (Int.toNat (aroundI at_ (k4 : Int))) * 4, none⟩)) (by kernel_rfl) (fun w hT => run_indexAt (e := 25) (sz := 4) _ (by kernel_rfl) (by kernel_rfl) (by omega) (by omega) (by omega) w) ?_
    refine pl_step 7 0 rfl rfl ?_
    refine sem_stepU (Instr.storeAt 25 (.pointer (some ⟨g3, (Int.toNat (aroundI at_ (k4 : Int))) * 4, none⟩)) (.agg #[.int .i64 ((rget M39 0).x0), .int .i64 ((rget M39 0).y0), .int .i64 ((rget M39 0).x1), .int .i64 ((rget M39 0).y1)])) (fun _ => [.gen (rowE (A2) g3 k4 cp5 25 4 (rvals (M39.set (Int.toNat (aroundI at_ (k4 : Int))) (⟨(rget M39 0).x0, (rget M39 0).y0, (rget M39 0).x1, (rget M39 0).y1⟩ : Rect))) true), .gen (rdE (A) g o n 4 (rvals xs))]) (fun _ => True) (by kernel_rfl) (fun w hT => store_rectR hT (i := 0) (J := Int.toNat (aroundI at_ (k4 : Int))) (⟨(rget M39 0).x0, (rget M39 0).y0, (rget M39 0).x1, (rget M39 0).y1⟩ : Rect) rfl (by kernel_rfl) (by omega)) (fun _ _ => ?_)
    refine cont_done ?_
    refine then_normal ?_
    refine cont_seq ?_
    refine cont_region 9 rfl ?_
    obtain ⟨M45, hM45⟩ : ∃ y_ : List Rect, y_ = (M39.set (Int.toNat (aroundI at_ (k4 : Int))) (⟨(rget M39 0).x0, (rget M39 0).y0, (rget M39 0).x1, (rget M39 0).y1⟩ : Rect)) := ⟨_, rfl⟩
    refine cont_rowEqR 0 (M39.set (Int.toNat (aroundI at_ (k4 : Int))) (⟨(rget M39 0).x0, (rget M39 0).y0, (rget M39 0).x1, (rget M39 0).y1⟩ : Rect)) (M45) rfl hM45.symm ?_
    refine cont_norm [(7, .slice A2 k4 cp5), (44, .slice (some ⟨g3, 0, none⟩) k4 cp5), (45, .int .i64 (aroundI at_ (k4 : Int))), (46, .slice (some ⟨g3, 0, none⟩) k4 cp5), (47, .pointer (some ⟨g3, 0 * 4, none⟩)), (48, .agg #[.int .i64 ((rget M39 0).x0), .int .i64 ((rget M39 0).y0), .int .i64 ((rget M39 0).x1), .int .i64 ((rget M39 0).y1)]), (49, .pointer (some ⟨g3, (Int.toNat (aroundI at_ (k4 : Int))) * 4, none⟩))] [.gen (rowE (A2) g3 k4 cp5 25 4 (rvals M45) true), .gen (rdE (A) g o n 4 (rvals xs))] (by kernel_rfl) rfl ?_
    refine cont_fact (F := (0 < k4 → (A2 : Option Addr) = some ⟨g3, 0, none⟩) ∧ M45.length = k4 ∧ k4 ≤ cp5 ∧ cp5 ≤ maxLen) (fun w hT => Row.factsR (hT.ok 0 _ rfl)) (fun hr46_ => ?_)
    obtain ⟨hr46_a, hr46_l, hr46_c, hr46_m⟩ := hr46_
    unfold maxLen at hr46_m
    refine batch0 [0] 1 8 [(7, .slice A2 k4 cp5), (50, .slice A2 k4 cp5)] [.gen (rowE (A2) g3 k4 cp5 25 4 (rvals M45) true), .gen (rdE (A) g o n 4 (rvals xs))] rfl rfl (by kernel_rfl) (by kernel_rfl) ?_
    refine pl_step 2 7 rfl rfl ?_
    refine call_pure (d := 51) (.bool (decide (M45 = canR M45))) (by kernel_rfl) (fun w hT => regMay A2 g3 0 k4 cp5 M45 w (hT.viewRo (.cons (i := 0) rfl Vw.rowRd .nil) rfl) (by omega)) ?_
    refine batch0 [0] 3 6 [(51, .bool (decide (M45 = canR M45))), (52, .slice A2 k4 cp5)] [.gen (rowE (A2) g3 k4 cp5 25 4 (rvals M45) true), .gen (rdE (A) g o n 4 (rvals xs))] rfl rfl (by kernel_rfl) (by kernel_rfl) ?_
    refine pl_step 4 5 rfl rfl ?_
    refine call_pure (d := 53) (.bool (decide (M45 = canR M45))) (by kernel_rfl) (fun w hT => refMayL A2 g3 0 k4 cp5 M45 w (hT.viewRo (.cons (i := 0) rfl Vw.rowRd .nil) rfl) (by omega) (by omega)) ?_
    refine cont_split 51 (decide (M45 = canR M45)) rfl (fun c47_ => ?_) (fun c47_ => ?_)
    ·
      refine cont_recast 53 (.bool (decide (M45 = canR M45))) (.bool true) rfl (congrArg Value.bool c47_) ?_
      replace c47_ := of_decide_eq_true c47_
      refine batch0 [0, 0] 6 3 [(55, .bool true)] [.gen (rowE (A2) g3 k4 cp5 25 4 (rvals M45) true), .gen (rdE (A) g o n 4 (rvals xs))] rfl rfl (by kernel_rfl) (by kernel_rfl) ?_
      refine pl_step 7 2 rfl rfl ?_
      refine call_pure (d := 56) (.bool true) (by kernel_rfl) (fun w hT => lives2  w) ?_
      refine batch0 [0, 0] 9 0 [(6, .bool true)] [.gen (rowE (A2) g3 k4 cp5 25 4 (rvals M45) true), .gen (rdE (A) g o n 4 (rvals xs))] rfl rfl (by kernel_rfl) (by kernel_rfl) ?_
      refine cont_done ?_
      refine then_normal ?_
      refine cont_ret ?_
      refine ret_one (.inl rfl) rfl 0 (.bool true) (by kernel_rfl) (by kernel_rfl) (fun w hT => ?_)
      exact ⟨rfl, hT.post rfl⟩
    refine cont_recast 53 (.bool (decide (M45 = canR M45))) (.bool false) rfl (congrArg Value.bool c47_) ?_
    replace c47_ := of_decide_eq_false c47_
    refine batch0 [0, 0] 6 3 [(55, .bool true)] [.gen (rowE (A2) g3 k4 cp5 25 4 (rvals M45) true), .gen (rdE (A) g o n 4 (rvals xs))] rfl rfl (by kernel_rfl) (by kernel_rfl) ?_
    refine pl_step 7 2 rfl rfl ?_
    refine call_pure (d := 56) (.bool true) (by kernel_rfl) (fun w hT => lives2  w) ?_
    refine batch0 [0, 0] 9 0 [(6, .bool true)] [.gen (rowE (A2) g3 k4 cp5 25 4 (rvals M45) true), .gen (rdE (A) g o n 4 (rvals xs))] rfl rfl (by kernel_rfl) (by kernel_rfl) ?_
    refine cont_done ?_
    refine then_normal ?_
    refine cont_ret ?_
    refine ret_one (.inl rfl) rfl 0 (.bool true) (by kernel_rfl) (by kernel_rfl) (fun w hT => ?_)
    exact ⟨rfl, hT.post rfl⟩
  refine cont_recast 19 (.bool (decide (xs = canR xs))) (.bool false) rfl (congrArg Value.bool c35_) ?_
  replace c35_ := of_decide_eq_false c35_
  refine batch0 [0, 0, 0] 7 3 [(1, .int .i64 at_), (5, .pointer (some ⟨b1, 0, none⟩)), (7, .slice A2 k4 cp5), (21, .bool false), (22, .slice A2 k4 cp5)] [.gen (rowE (A2) g3 k4 cp5 25 4 (rvals P) true), .cells b1 [.int .i64 ra, .int .i64 rb, .int .i64 rc, .int .i64 rd] 25 true, .gen (rdE (A) g o n 4 (rvals xs))] rfl rfl (by kernel_rfl) (by kernel_rfl) ?_
  refine pl_step 8 2 rfl rfl ?_
  refine call_pure (d := 23) (.bool (decide (P = canR P))) (by kernel_rfl) (fun w hT => regMay A2 g3 0 k4 cp5 P w (hT.viewRo (.cons (i := 0) rfl Vw.rowRd .nil) rfl) (by omega)) ?_
  refine batch0 [0, 0] 10 0 [(1, .int .i64 at_), (5, .pointer (some ⟨b1, 0, none⟩)), (7, .slice A2 k4 cp5), (25, .bool (!(decide (P = canR P))))] [.gen (rowE (A2) g3 k4 cp5 25 4 (rvals P) true), .cells b1 [.int .i64 ra, .int .i64 rb, .int .i64 rc, .int .i64 rd] 25 true, .gen (rdE (A) g o n 4 (rvals xs))] rfl rfl (by kernel_rfl) (by kernel_rfl) ?_
  refine cont_done ?_
  refine then_normal ?_
  refine cont_recast 25 (.bool (!(decide (P = canR P)))) (.bool false) rfl (congrArg Value.bool (by rw [show (decide (P = canR P)) = true from (decide_eq_true hP.can.symm)]; rfl)) ?_
  refine cont_false rfl ?_
  refine cont_skip ?_
  refine then_normal ?_
  refine cont_seq ?_
  refine cont_seq ?_
  refine cont_region 3 rfl ?_
  refine batch0 [0, 0, 0] 3 0 [(1, .int .i64 at_), (5, .pointer (some ⟨b1, 0, none⟩)), (7, .slice A2 k4 cp5), (28, .bool ((k4 : Int) == 0))] [.gen (rowE (A2) g3 k4 cp5 25 4 (rvals P) true), .cells b1 [.int .i64 ra, .int .i64 rb, .int .i64 rc, .int .i64 rd] 25 true, .gen (rdE (A) g o n 4 (rvals xs))] rfl rfl (by kernel_rfl) (by kernel_rfl) ?_
  refine cont_done ?_
  refine then_normal ?_
  refine cont_split 28 ((k4 : Int) == 0) rfl (fun c49_ => ?_) (fun c49_ => ?_)
  ·
    replace c49_ := eq_of_beqt c49_
    refine cont_true rfl ?_
    refine cont_seq ?_
    refine cont_region 2 rfl ?_
    refine pl_step 1 1 rfl rfl ?_
    refine call_pure (d := 29) (.bool true) (by kernel_rfl) (fun w hT => lives2  w) ?_
    refine batch0 [0] 2 0 [(6, .bool true)] [.gen (rowE (A2) g3 k4 cp5 25 4 (rvals P) true), .cells b1 [.int .i64 ra, .int .i64 rb, .int .i64 rc, .int .i64 rd] 25 true, .gen (rdE (A) g o n 4 (rvals xs))] rfl rfl (by kernel_rfl) (by kernel_rfl) ?_
    refine cont_forget 1 rfl ?_
    refine cont_done ?_
    refine then_normal ?_
    refine cont_ret ?_
    refine then_ret ?_
    refine ret_one (.inl rfl) rfl 0 (.bool true) (by kernel_rfl) (by kernel_rfl) (fun w hT => ?_)
    exact ⟨rfl, hT.post rfl⟩
  replace c49_ := ne_of_beqf c49_
  refine cont_false rfl ?_
  refine cont_skip ?_
  refine then_normal ?_
  refine cont_seq ?_
  refine cont_region 5 rfl ?_
  refine batch0 [0, 0, 0] 3 2 [(5, .pointer (some ⟨b1, 0, none⟩)), (7, .slice A2 k4 cp5), (30, .int .i64 at_), (32, .int .i64 (k4 : Int))] [.gen (rowE (A2) g3 k4 cp5 25 4 (rvals P) true), .cells b1 [.int .i64 ra, .int .i64 rb, .int .i64 rc, .int .i64 rd] 25 true, .gen (rdE (A) g o n 4 (rvals xs))] rfl rfl (by kernel_rfl) (by kernel_rfl) ?_
  refine pl_step 4 1 rfl rfl ?_
  refine call_pure (d := 33) (.int .i64 (aroundI at_ (k4 : Int))) (by kernel_rfl) (fun w hT => refAround at_ (k4 : Int) w (by omega) (by omega)) ?_
  have hq50_ := aroundI_range at_ (m := (k4 : Int)) (by omega)
  refine batch0 [0] 5 0 [(5, .pointer (some ⟨b1, 0, none⟩)), (7, .slice A2 k4 cp5), (8, .int .i64 (aroundI at_ (k4 : Int)))] [.gen (rowE (A2) g3 k4 cp5 25 4 (rvals P) true), .cells b1 [.int .i64 ra, .int .i64 rb, .int .i64 rc, .int .i64 rd] 25 true, .gen (rdE (A) g o n 4 (rvals xs))] rfl rfl (by kernel_rfl) (by kernel_rfl) ?_
  refine cont_done ?_
  refine then_normal ?_
  refine cont_seq ?_
  refine cont_region 6 rfl ?_
  refine batch0 [0, 0, 1] 3 3 [(7, .slice A2 k4 cp5), (8, .int .i64 (aroundI at_ (k4 : Int))), (34, .slice A2 k4 cp5), (35, .int .i64 (aroundI at_ (k4 : Int))), (36, .agg #[.int .i64 ra, .int .i64 rb, .int .i64 rc, .int .i64 rd])] [.gen (rowE (A2) g3 k4 cp5 25 4 (rvals P) true), .cells b1 [.int .i64 ra, .int .i64 rb, .int .i64 rc, .int .i64 rd] 25 true, .gen (rdE (A) g o n 4 (rvals xs))] rfl rfl (by kernel_rfl) (by kernel_rfl) ?_
  refine cont_forget 1 rfl ?_
  refine pl_step 4 2 rfl rfl ?_
  refine call_pure (d := 37) (.agg #[.int .i64 ((smallR (⟨ra, rb, rc, rd⟩)).x0), .int .i64 ((smallR (⟨ra, rb, rc, rd⟩)).y0), .int .i64 ((smallR (⟨ra, rb, rc, rd⟩)).x1), .int .i64 ((smallR (⟨ra, rb, rc, rd⟩)).y1)]) (by kernel_rfl) (fun w hT => refSmall (⟨ra, rb, rc, rd⟩) w ⟨hra, hrb, hrc, hrd⟩) ?_
  refine pl_step 5 1 rfl rfl ?_
  refine cont_recast 34 (.slice A2 k4 cp5) (.slice (some ⟨g3, 0, none⟩) k4 cp5) rfl (by rw [hr8_a (by omega)]) ?_
  refine sem_step 38 (Instr.indexAt 22 (.slice (some ⟨g3, 0, none⟩) k4 cp5) (.int .i64 (aroundI at_ (k4 : Int)))) (.pointer (some ⟨g3, (Int.toNat (aroundI at_ (k4 : Int))) * 4, none⟩)) (by kernel_rfl) (fun w hT => run_indexAt (e := 25) (sz := 4) _ (by kernel_rfl) (by kernel_rfl) (by omega) (by omega) (by omega) w) ?_
  refine pl_step 6 0 rfl rfl ?_
  refine sem_stepU (Instr.storeAt 25 (.pointer (some ⟨g3, (Int.toNat (aroundI at_ (k4 : Int))) * 4, none⟩)) (.agg #[.int .i64 ((smallR (⟨ra, rb, rc, rd⟩)).x0), .int .i64 ((smallR (⟨ra, rb, rc, rd⟩)).y0), .int .i64 ((smallR (⟨ra, rb, rc, rd⟩)).x1), .int .i64 ((smallR (⟨ra, rb, rc, rd⟩)).y1)])) (fun _ => [.gen (rowE (A2) g3 k4 cp5 25 4 (rvals (P.set (Int.toNat (aroundI at_ (k4 : Int))) (⟨(smallR (⟨ra, rb, rc, rd⟩)).x0, (smallR (⟨ra, rb, rc, rd⟩)).y0, (smallR (⟨ra, rb, rc, rd⟩)).x1, (smallR (⟨ra, rb, rc, rd⟩)).y1⟩ : Rect))) true), .gen (rdE (A) g o n 4 (rvals xs))]) (fun _ => True) (by kernel_rfl) (fun w hT => store_rectR hT (i := 0) (J := Int.toNat (aroundI at_ (k4 : Int))) (⟨(smallR (⟨ra, rb, rc, rd⟩)).x0, (smallR (⟨ra, rb, rc, rd⟩)).y0, (smallR (⟨ra, rb, rc, rd⟩)).x1, (smallR (⟨ra, rb, rc, rd⟩)).y1⟩ : Rect) rfl (by kernel_rfl) (by omega)) (fun _ _ => ?_)
  refine cont_done ?_
  refine then_normal ?_
  refine cont_seq ?_
  refine cont_seq ?_
  refine cont_region 5 rfl ?_
  obtain ⟨M51, hM51⟩ : ∃ y_ : List Rect, y_ = (P.set (Int.toNat (aroundI at_ (k4 : Int))) (⟨(smallR (⟨ra, rb, rc, rd⟩)).x0, (smallR (⟨ra, rb, rc, rd⟩)).y0, (smallR (⟨ra, rb, rc, rd⟩)).x1, (smallR (⟨ra, rb, rc, rd⟩)).y1⟩ : Rect)) := ⟨_, rfl⟩
  refine cont_rowEqR 0 (P.set (Int.toNat (aroundI at_ (k4 : Int))) (⟨(smallR (⟨ra, rb, rc, rd⟩)).x0, (smallR (⟨ra, rb, rc, rd⟩)).y0, (smallR (⟨ra, rb, rc, rd⟩)).x1, (smallR (⟨ra, rb, rc, rd⟩)).y1⟩ : Rect)) (M51) rfl hM51.symm ?_
  refine cont_norm [(7, .slice A2 k4 cp5), (8, .int .i64 (aroundI at_ (k4 : Int))), (34, .slice (some ⟨g3, 0, none⟩) k4 cp5), (35, .int .i64 (aroundI at_ (k4 : Int))), (36, .agg #[.int .i64 ra, .int .i64 rb, .int .i64 rc, .int .i64 rd]), (37, .agg #[.int .i64 ((smallR (⟨ra, rb, rc, rd⟩)).x0), .int .i64 ((smallR (⟨ra, rb, rc, rd⟩)).y0), .int .i64 ((smallR (⟨ra, rb, rc, rd⟩)).x1), .int .i64 ((smallR (⟨ra, rb, rc, rd⟩)).y1)]), (38, .pointer (some ⟨g3, (Int.toNat (aroundI at_ (k4 : Int))) * 4, none⟩))] [.gen (rowE (A2) g3 k4 cp5 25 4 (rvals M51) true), .gen (rdE (A) g o n 4 (rvals xs))] (by kernel_rfl) rfl ?_
  refine cont_fact (F := (0 < k4 → (A2 : Option Addr) = some ⟨g3, 0, none⟩) ∧ M51.length = k4 ∧ k4 ≤ cp5 ∧ cp5 ≤ maxLen) (fun w hT => Row.factsR (hT.ok 0 _ rfl)) (fun hr52_ => ?_)
  obtain ⟨hr52_a, hr52_l, hr52_c, hr52_m⟩ := hr52_
  unfold maxLen at hr52_m
  refine batch0 [0] 1 4 [(7, .slice A2 k4 cp5), (8, .int .i64 (aroundI at_ (k4 : Int))), (39, .slice A2 k4 cp5)] [.gen (rowE (A2) g3 k4 cp5 25 4 (rvals M51) true), .gen (rdE (A) g o n 4 (rvals xs))] rfl rfl (by kernel_rfl) (by kernel_rfl) ?_
  refine pl_step 2 3 rfl rfl ?_
  refine call_pure (d := 40) (.bool (decide (M51 = canR M51))) (by kernel_rfl) (fun w hT => regMay A2 g3 0 k4 cp5 M51 w (hT.viewRo (.cons (i := 0) rfl Vw.rowRd .nil) rfl) (by omega)) ?_
  refine batch0 [0] 3 2 [(7, .slice A2 k4 cp5), (8, .int .i64 (aroundI at_ (k4 : Int))), (40, .bool (decide (M51 = canR M51))), (41, .slice A2 k4 cp5)] [.gen (rowE (A2) g3 k4 cp5 25 4 (rvals M51) true), .gen (rdE (A) g o n 4 (rvals xs))] rfl rfl (by kernel_rfl) (by kernel_rfl) ?_
  refine pl_step 4 1 rfl rfl ?_
  refine call_pure (d := 42) (.bool (decide (M51 = canR M51))) (by kernel_rfl) (fun w hT => refMayL A2 g3 0 k4 cp5 M51 w (hT.viewRo (.cons (i := 0) rfl Vw.rowRd .nil) rfl) (by omega) (by omega)) ?_
  refine cont_split 40 (decide (M51 = canR M51)) rfl (fun c53_ => ?_) (fun c53_ => ?_)
  ·
    refine cont_recast 42 (.bool (decide (M51 = canR M51))) (.bool true) rfl (congrArg Value.bool c53_) ?_
    replace c53_ := of_decide_eq_true c53_
    refine batch0 [0] 5 0 [(7, .slice A2 k4 cp5), (8, .int .i64 (aroundI at_ (k4 : Int))), (43, .bool false)] [.gen (rowE (A2) g3 k4 cp5 25 4 (rvals M51) true), .gen (rdE (A) g o n 4 (rvals xs))] rfl rfl (by kernel_rfl) (by kernel_rfl) ?_
    refine cont_done ?_
    refine then_normal ?_
    refine cont_false rfl ?_
    refine cont_skip ?_
    refine then_normal ?_
    refine cont_seq ?_
    refine cont_region 7 rfl ?_
    refine batch0 [0, 0, 0] 3 4 [(7, .slice A2 k4 cp5), (44, .slice A2 k4 cp5), (45, .int .i64 (aroundI at_ (k4 : Int))), (46, .slice A2 k4 cp5)] [.gen (rowE (A2) g3 k4 cp5 25 4 (rvals M51) true), .gen (rdE (A) g o n 4 (rvals xs))] rfl rfl (by kernel_rfl) (by kernel_rfl) ?_
    refine pl_step 4 3 rfl rfl ?_
    refine cont_recast 46 (.slice A2 k4 cp5) (.slice (some ⟨g3, 0, none⟩) k4 cp5) rfl (by rw [hr52_a (by omega)]) ?_
    refine sem_step 47 (Instr.indexAt 22 (.slice (some ⟨g3, 0, none⟩) k4 cp5) (.int .i64 0)) (.pointer (some ⟨g3, 0 * 4, none⟩)) (by kernel_rfl) (fun w hT => run_indexAt (e := 25) (sz := 4) _ (by kernel_rfl) (by kernel_rfl) (by omega) (by omega) (by omega) w) ?_
    refine pl_step 5 2 rfl rfl ?_
    refine sem_step 48 (Instr.loadAt 25 (.pointer (some ⟨g3, 0 * 4, none⟩))) (.agg #[.int .i64 ((rget M51 0).x0), .int .i64 ((rget M51 0).y0), .int .i64 ((rget M51 0).x1), .int .i64 ((rget M51 0).y1)]) (by kernel_rfl) (fun w hT => run_loadN (m := 4) (cs := rcells (rget M51 0)) (by kernel_rfl) (by kernel_rfl) rfl (Rd.rect0 (Row.rd (hT.ok 0 _ rfl)) (by omega))) ?_
    refine pl_step 6 1 rfl rfl ?_
    refine cont_recast 44 (.slice A2 k4 cp5) (.slice (some ⟨g3, 0, none⟩) k4 cp5) rfl (by rw [hr52_a (by omega)]) ?_
    refine sem_step 49 (Instr.indexAt 22 (.slice (some ⟨g3, 0, none⟩) k4 cp5) (.int .i64 (aroundI at_ (k4 : Int)))) (.pointer (some ⟨g3, (Int.toNat (aroundI at_ (k4 : Int))) * 4, none⟩)) (by kernel_rfl) (fun w hT => run_indexAt (e := 25) (sz := 4) _ (by kernel_rfl) (by kernel_rfl) (by omega) (by omega) (by omega) w) ?_
    refine pl_step 7 0 rfl rfl ?_
    refine sem_stepU (Instr.storeAt 25 (.pointer (some ⟨g3, (Int.toNat (aroundI at_ (k4 : Int))) * 4, none⟩)) (.agg #[.int .i64 ((rget M51 0).x0), .int .i64 ((rget M51 0).y0), .int .i64 ((rget M51 0).x1), .int .i64 ((rget M51 0).y1)])) (fun _ => [.gen (rowE (A2) g3 k4 cp5 25 4 (rvals (M51.set (Int.toNat (aroundI at_ (k4 : Int))) (⟨(rget M51 0).x0, (rget M51 0).y0, (rget M51 0).x1, (rget M51 0).y1⟩ : Rect))) true), .gen (rdE (A) g o n 4 (rvals xs))]) (fun _ => True) (by kernel_rfl) (fun w hT => store_rectR hT (i := 0) (J := Int.toNat (aroundI at_ (k4 : Int))) (⟨(rget M51 0).x0, (rget M51 0).y0, (rget M51 0).x1, (rget M51 0).y1⟩ : Rect) rfl (by kernel_rfl) (by omega)) (fun _ _ => ?_)
    refine cont_done ?_
    refine then_normal ?_
    refine cont_seq ?_
    refine cont_region 9 rfl ?_
    obtain ⟨M54, hM54⟩ : ∃ y_ : List Rect, y_ = (M51.set (Int.toNat (aroundI at_ (k4 : Int))) (⟨(rget M51 0).x0, (rget M51 0).y0, (rget M51 0).x1, (rget M51 0).y1⟩ : Rect)) := ⟨_, rfl⟩
    refine cont_rowEqR 0 (M51.set (Int.toNat (aroundI at_ (k4 : Int))) (⟨(rget M51 0).x0, (rget M51 0).y0, (rget M51 0).x1, (rget M51 0).y1⟩ : Rect)) (M54) rfl hM54.symm ?_
    refine cont_norm [(7, .slice A2 k4 cp5), (44, .slice (some ⟨g3, 0, none⟩) k4 cp5), (45, .int .i64 (aroundI at_ (k4 : Int))), (46, .slice (some ⟨g3, 0, none⟩) k4 cp5), (47, .pointer (some ⟨g3, 0 * 4, none⟩)), (48, .agg #[.int .i64 ((rget M51 0).x0), .int .i64 ((rget M51 0).y0), .int .i64 ((rget M51 0).x1), .int .i64 ((rget M51 0).y1)]), (49, .pointer (some ⟨g3, (Int.toNat (aroundI at_ (k4 : Int))) * 4, none⟩))] [.gen (rowE (A2) g3 k4 cp5 25 4 (rvals M54) true), .gen (rdE (A) g o n 4 (rvals xs))] (by kernel_rfl) rfl ?_
    refine cont_fact (F := (0 < k4 → (A2 : Option Addr) = some ⟨g3, 0, none⟩) ∧ M54.length = k4 ∧ k4 ≤ cp5 ∧ cp5 ≤ maxLen) (fun w hT => Row.factsR (hT.ok 0 _ rfl)) (fun hr55_ => ?_)
    obtain ⟨hr55_a, hr55_l, hr55_c, hr55_m⟩ := hr55_
    unfold maxLen at hr55_m
    refine batch0 [0] 1 8 [(7, .slice A2 k4 cp5), (50, .slice A2 k4 cp5)] [.gen (rowE (A2) g3 k4 cp5 25 4 (rvals M54) true), .gen (rdE (A) g o n 4 (rvals xs))] rfl rfl (by kernel_rfl) (by kernel_rfl) ?_
    refine pl_step 2 7 rfl rfl ?_
    refine call_pure (d := 51) (.bool (decide (M54 = canR M54))) (by kernel_rfl) (fun w hT => regMay A2 g3 0 k4 cp5 M54 w (hT.viewRo (.cons (i := 0) rfl Vw.rowRd .nil) rfl) (by omega)) ?_
    refine batch0 [0] 3 6 [(51, .bool (decide (M54 = canR M54))), (52, .slice A2 k4 cp5)] [.gen (rowE (A2) g3 k4 cp5 25 4 (rvals M54) true), .gen (rdE (A) g o n 4 (rvals xs))] rfl rfl (by kernel_rfl) (by kernel_rfl) ?_
    refine pl_step 4 5 rfl rfl ?_
    refine call_pure (d := 53) (.bool (decide (M54 = canR M54))) (by kernel_rfl) (fun w hT => refMayL A2 g3 0 k4 cp5 M54 w (hT.viewRo (.cons (i := 0) rfl Vw.rowRd .nil) rfl) (by omega) (by omega)) ?_
    refine cont_split 51 (decide (M54 = canR M54)) rfl (fun c56_ => ?_) (fun c56_ => ?_)
    ·
      refine cont_recast 53 (.bool (decide (M54 = canR M54))) (.bool true) rfl (congrArg Value.bool c56_) ?_
      replace c56_ := of_decide_eq_true c56_
      refine batch0 [0, 0] 6 3 [(55, .bool true)] [.gen (rowE (A2) g3 k4 cp5 25 4 (rvals M54) true), .gen (rdE (A) g o n 4 (rvals xs))] rfl rfl (by kernel_rfl) (by kernel_rfl) ?_
      refine pl_step 7 2 rfl rfl ?_
      refine call_pure (d := 56) (.bool true) (by kernel_rfl) (fun w hT => lives2  w) ?_
      refine batch0 [0, 0] 9 0 [(6, .bool true)] [.gen (rowE (A2) g3 k4 cp5 25 4 (rvals M54) true), .gen (rdE (A) g o n 4 (rvals xs))] rfl rfl (by kernel_rfl) (by kernel_rfl) ?_
      refine cont_done ?_
      refine then_normal ?_
      refine cont_ret ?_
      refine ret_one (.inl rfl) rfl 0 (.bool true) (by kernel_rfl) (by kernel_rfl) (fun w hT => ?_)
      exact ⟨rfl, hT.post rfl⟩
    refine cont_recast 53 (.bool (decide (M54 = canR M54))) (.bool false) rfl (congrArg Value.bool c56_) ?_
    replace c56_ := of_decide_eq_false c56_
    refine batch0 [0, 0] 6 3 [(55, .bool true)] [.gen (rowE (A2) g3 k4 cp5 25 4 (rvals M54) true), .gen (rdE (A) g o n 4 (rvals xs))] rfl rfl (by kernel_rfl) (by kernel_rfl) ?_
    refine pl_step 7 2 rfl rfl ?_
    refine call_pure (d := 56) (.bool true) (by kernel_rfl) (fun w hT => lives2  w) ?_
    refine batch0 [0, 0] 9 0 [(6, .bool true)] [.gen (rowE (A2) g3 k4 cp5 25 4 (rvals M54) true), .gen (rdE (A) g o n 4 (rvals xs))] rfl rfl (by kernel_rfl) (by kernel_rfl) ?_
    refine cont_done ?_
    refine then_normal ?_
    refine cont_ret ?_
    refine ret_one (.inl rfl) rfl 0 (.bool true) (by kernel_rfl) (by kernel_rfl) (fun w hT => ?_)
    exact ⟨rfl, hT.post rfl⟩
  refine cont_recast 42 (.bool (decide (M51 = canR M51))) (.bool false) rfl (congrArg Value.bool c53_) ?_
  replace c53_ := of_decide_eq_false c53_
  refine batch0 [0] 5 0 [(7, .slice A2 k4 cp5), (8, .int .i64 (aroundI at_ (k4 : Int))), (43, .bool false)] [.gen (rowE (A2) g3 k4 cp5 25 4 (rvals M51) true), .gen (rdE (A) g o n 4 (rvals xs))] rfl rfl (by kernel_rfl) (by kernel_rfl) ?_
  refine cont_done ?_
  refine then_normal ?_
  refine cont_false rfl ?_
  refine cont_skip ?_
  refine then_normal ?_
  refine cont_seq ?_
  refine cont_region 7 rfl ?_
  refine batch0 [0, 0, 0] 3 4 [(7, .slice A2 k4 cp5), (44, .slice A2 k4 cp5), (45, .int .i64 (aroundI at_ (k4 : Int))), (46, .slice A2 k4 cp5)] [.gen (rowE (A2) g3 k4 cp5 25 4 (rvals M51) true), .gen (rdE (A) g o n 4 (rvals xs))] rfl rfl (by kernel_rfl) (by kernel_rfl) ?_
  refine pl_step 4 3 rfl rfl ?_
  refine cont_recast 46 (.slice A2 k4 cp5) (.slice (some ⟨g3, 0, none⟩) k4 cp5) rfl (by rw [hr52_a (by omega)]) ?_
  refine sem_step 47 (Instr.indexAt 22 (.slice (some ⟨g3, 0, none⟩) k4 cp5) (.int .i64 0)) (.pointer (some ⟨g3, 0 * 4, none⟩)) (by kernel_rfl) (fun w hT => run_indexAt (e := 25) (sz := 4) _ (by kernel_rfl) (by kernel_rfl) (by omega) (by omega) (by omega) w) ?_
  refine pl_step 5 2 rfl rfl ?_
  refine sem_step 48 (Instr.loadAt 25 (.pointer (some ⟨g3, 0 * 4, none⟩))) (.agg #[.int .i64 ((rget M51 0).x0), .int .i64 ((rget M51 0).y0), .int .i64 ((rget M51 0).x1), .int .i64 ((rget M51 0).y1)]) (by kernel_rfl) (fun w hT => run_loadN (m := 4) (cs := rcells (rget M51 0)) (by kernel_rfl) (by kernel_rfl) rfl (Rd.rect0 (Row.rd (hT.ok 0 _ rfl)) (by omega))) ?_
  refine pl_step 6 1 rfl rfl ?_
  refine cont_recast 44 (.slice A2 k4 cp5) (.slice (some ⟨g3, 0, none⟩) k4 cp5) rfl (by rw [hr52_a (by omega)]) ?_
  refine sem_step 49 (Instr.indexAt 22 (.slice (some ⟨g3, 0, none⟩) k4 cp5) (.int .i64 (aroundI at_ (k4 : Int)))) (.pointer (some ⟨g3, (Int.toNat (aroundI at_ (k4 : Int))) * 4, none⟩)) (by kernel_rfl) (fun w hT => run_indexAt (e := 25) (sz := 4) _ (by kernel_rfl) (by kernel_rfl) (by omega) (by omega) (by omega) w) ?_
  refine pl_step 7 0 rfl rfl ?_
  refine sem_stepU (Instr.storeAt 25 (.pointer (some ⟨g3, (Int.toNat (aroundI at_ (k4 : Int))) * 4, none⟩)) (.agg #[.int .i64 ((rget M51 0).x0), .int .i64 ((rget M51 0).y0), .int .i64 ((rget M51 0).x1), .int .i64 ((rget M51 0).y1)])) (fun _ => [.gen (rowE (A2) g3 k4 cp5 25 4 (rvals (M51.set (Int.toNat (aroundI at_ (k4 : Int))) (⟨(rget M51 0).x0, (rget M51 0).y0, (rget M51 0).x1, (rget M51 0).y1⟩ : Rect))) true), .gen (rdE (A) g o n 4 (rvals xs))]) (fun _ => True) (by kernel_rfl) (fun w hT => store_rectR hT (i := 0) (J := Int.toNat (aroundI at_ (k4 : Int))) (⟨(rget M51 0).x0, (rget M51 0).y0, (rget M51 0).x1, (rget M51 0).y1⟩ : Rect) rfl (by kernel_rfl) (by omega)) (fun _ _ => ?_)
  refine cont_done ?_
  refine then_normal ?_
  refine cont_seq ?_
  refine cont_region 9 rfl ?_
  obtain ⟨M57, hM57⟩ : ∃ y_ : List Rect, y_ = (M51.set (Int.toNat (aroundI at_ (k4 : Int))) (⟨(rget M51 0).x0, (rget M51 0).y0, (rget M51 0).x1, (rget M51 0).y1⟩ : Rect)) := ⟨_, rfl⟩
  refine cont_rowEqR 0 (M51.set (Int.toNat (aroundI at_ (k4 : Int))) (⟨(rget M51 0).x0, (rget M51 0).y0, (rget M51 0).x1, (rget M51 0).y1⟩ : Rect)) (M57) rfl hM57.symm ?_
  refine cont_norm [(7, .slice A2 k4 cp5), (44, .slice (some ⟨g3, 0, none⟩) k4 cp5), (45, .int .i64 (aroundI at_ (k4 : Int))), (46, .slice (some ⟨g3, 0, none⟩) k4 cp5), (47, .pointer (some ⟨g3, 0 * 4, none⟩)), (48, .agg #[.int .i64 ((rget M51 0).x0), .int .i64 ((rget M51 0).y0), .int .i64 ((rget M51 0).x1), .int .i64 ((rget M51 0).y1)]), (49, .pointer (some ⟨g3, (Int.toNat (aroundI at_ (k4 : Int))) * 4, none⟩))] [.gen (rowE (A2) g3 k4 cp5 25 4 (rvals M57) true), .gen (rdE (A) g o n 4 (rvals xs))] (by kernel_rfl) rfl ?_
  refine cont_fact (F := (0 < k4 → (A2 : Option Addr) = some ⟨g3, 0, none⟩) ∧ M57.length = k4 ∧ k4 ≤ cp5 ∧ cp5 ≤ maxLen) (fun w hT => Row.factsR (hT.ok 0 _ rfl)) (fun hr58_ => ?_)
  obtain ⟨hr58_a, hr58_l, hr58_c, hr58_m⟩ := hr58_
  unfold maxLen at hr58_m
  refine batch0 [0] 1 8 [(7, .slice A2 k4 cp5), (50, .slice A2 k4 cp5)] [.gen (rowE (A2) g3 k4 cp5 25 4 (rvals M57) true), .gen (rdE (A) g o n 4 (rvals xs))] rfl rfl (by kernel_rfl) (by kernel_rfl) ?_
  refine pl_step 2 7 rfl rfl ?_
  refine call_pure (d := 51) (.bool (decide (M57 = canR M57))) (by kernel_rfl) (fun w hT => regMay A2 g3 0 k4 cp5 M57 w (hT.viewRo (.cons (i := 0) rfl Vw.rowRd .nil) rfl) (by omega)) ?_
  refine batch0 [0] 3 6 [(51, .bool (decide (M57 = canR M57))), (52, .slice A2 k4 cp5)] [.gen (rowE (A2) g3 k4 cp5 25 4 (rvals M57) true), .gen (rdE (A) g o n 4 (rvals xs))] rfl rfl (by kernel_rfl) (by kernel_rfl) ?_
  refine pl_step 4 5 rfl rfl ?_
  refine call_pure (d := 53) (.bool (decide (M57 = canR M57))) (by kernel_rfl) (fun w hT => refMayL A2 g3 0 k4 cp5 M57 w (hT.viewRo (.cons (i := 0) rfl Vw.rowRd .nil) rfl) (by omega) (by omega)) ?_
  refine cont_split 51 (decide (M57 = canR M57)) rfl (fun c59_ => ?_) (fun c59_ => ?_)
  ·
    refine cont_recast 53 (.bool (decide (M57 = canR M57))) (.bool true) rfl (congrArg Value.bool c59_) ?_
    replace c59_ := of_decide_eq_true c59_
    refine batch0 [0, 0] 6 3 [(55, .bool true)] [.gen (rowE (A2) g3 k4 cp5 25 4 (rvals M57) true), .gen (rdE (A) g o n 4 (rvals xs))] rfl rfl (by kernel_rfl) (by kernel_rfl) ?_
    refine pl_step 7 2 rfl rfl ?_
    refine call_pure (d := 56) (.bool true) (by kernel_rfl) (fun w hT => lives2  w) ?_
    refine batch0 [0, 0] 9 0 [(6, .bool true)] [.gen (rowE (A2) g3 k4 cp5 25 4 (rvals M57) true), .gen (rdE (A) g o n 4 (rvals xs))] rfl rfl (by kernel_rfl) (by kernel_rfl) ?_
    refine cont_done ?_
    refine then_normal ?_
    refine cont_ret ?_
    refine ret_one (.inl rfl) rfl 0 (.bool true) (by kernel_rfl) (by kernel_rfl) (fun w hT => ?_)
    exact ⟨rfl, hT.post rfl⟩
  refine cont_recast 53 (.bool (decide (M57 = canR M57))) (.bool false) rfl (congrArg Value.bool c59_) ?_
  replace c59_ := of_decide_eq_false c59_
  refine batch0 [0, 0] 6 3 [(55, .bool true)] [.gen (rowE (A2) g3 k4 cp5 25 4 (rvals M57) true), .gen (rdE (A) g o n 4 (rvals xs))] rfl rfl (by kernel_rfl) (by kernel_rfl) ?_
  refine pl_step 7 2 rfl rfl ?_
  refine call_pure (d := 56) (.bool true) (by kernel_rfl) (fun w hT => lives2  w) ?_
  refine batch0 [0, 0] 9 0 [(6, .bool true)] [.gen (rowE (A2) g3 k4 cp5 25 4 (rvals M57) true), .gen (rdE (A) g o n 4 (rvals xs))] rfl rfl (by kernel_rfl) (by kernel_rfl) ?_
  refine cont_done ?_
  refine then_normal ?_
  refine cont_ret ?_
  refine ret_one (.inl rfl) rfl 0 (.bool true) (by kernel_rfl) (by kernel_rfl) (fun w hT => ?_)
  exact ⟨rfl, hT.post rfl⟩

end Go.Proofs.Ytimpjdfflffcfaa
