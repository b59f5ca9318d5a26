/- Contracts of functions of the given program, printed by a program of this project. -/
import Derived.Test.YtimpjdfflffcfaaL2f
import Derived.Test.YtimpjdfflffcfaaProg
set_option linter.unusedVariables false
set_option linter.unusedSimpArgs false
namespace Go.Proofs.Ytimpjdfflffcfaa
open Go Go.RowKit
set_option maxRecDepth 100000
set_option maxHeartbeats 8000000

theorem walkRegionHulls (A : Option Addr) (g o n cap : Nat) (xs : List Rect) (w : World) (hr : Rd w A g o n 4 (rvals xs)) (hl : xs.length = n) (hc : n ≤ cap) (hm : cap ≤ maxLen) (hx : ∀ r ∈ xs, R64 r) :
    Calls Try.prog 10 #[.slice A n cap] w fun e w' => e = .returned (.bool true) ∧ Below w.heap.size w w' := by
  unfold maxLen at hm
  refine enter 96 [(0, .slice A n cap)] [.gen (rdE (A) g o n 4 (rvals xs))] Try.func10 rfl Try.ntmps10 rfl (by kernel_rfl) hr.tab ?_
  refine cont_seq ?_
  refine cont_region 1 rfl ?_
  refine bS [0] 1 0 [(0, .slice A n cap)] ?_
  refine cont_done ?_
  refine then_normal ?_
  refine cont_seq ?_
  refine cont_region 3 rfl ?_
  refine bS [0] 1 2 [(10, .slice A n cap)] ?_
  refine pl_step 2 1 rfl rfl ?_
  refine call_gen (d := 11) (α := Option Addr × Nat × Nat × Nat) (fun x_ => .slice x_.1 x_.2.2.1 x_.2.2.2) (fun x_ => [.gen (rowE (x_.1) x_.2.1 x_.2.2.1 x_.2.2.2 25 4 (rvals (canR (smallL xs 8))) true), .gen (rdE (A) g o n 4 (rvals xs))]) (fun x_ => True) (by kernel_rfl) (fun w hT => (refGood A g o n cap xs w (hT.viewRo (.cons (i := 0) rfl Vw.rd .nil) rfl) hx).mono fun e w' ⟨A1, g2, k3, cp4, he_, ht_⟩ => ⟨(A1, g2, k3, cp4), he_, trivial, hT.news ht_ rfl⟩) ?_
  rintro ⟨A1, g2, k3, cp4⟩ hf5_
  refine cont_norm [(10, .slice A n cap), (11, .slice A1 k3 cp4)] [.gen (rowE (A1) g2 k3 cp4 25 4 (rvals (canR (smallL xs 8))) true), .gen (rdE (A) g o n 4 (rvals xs))] (by kernel_rfl) rfl ?_
  refine cont_fact (F := (0 < k3 → (A1 : Option Addr) = some ⟨g2, 0, none⟩) ∧ (canR (smallL xs 8)).length = k3 ∧ k3 ≤ cp4 ∧ cp4 ≤ maxLen) (fun w hT => Row.factsR (hT.ok 0 _ rfl)) (fun hr6_ => ?_)
  obtain ⟨hr6_a, hr6_l, hr6_c, hr6_m⟩ := hr6_
  unfold maxLen at hr6_m
  obtain ⟨P, hP⟩ : ∃ y_ : List Rect, y_ = (canR (smallL xs 8)) := ⟨_, rfl⟩
  refine cont_rowEqR 0 (canR (smallL xs 8)) (P) rfl hP.symm ?_
  have hgP : Good P := by rw [hP]; exact Good.of _ _
  clear hP
  have hP := hgP
  have hlP_ := hP.len
  refine cont_fact (F := (0 < k3 → (A1 : Option Addr) = some ⟨g2, 0, none⟩) ∧ P.length = k3 ∧ k3 ≤ cp4 ∧ cp4 ≤ maxLen) (fun w hT => Row.factsR (hT.ok 0 _ rfl)) (fun hr7_ => ?_)
  obtain ⟨hr7_a, hr7_l, hr7_c, hr7_m⟩ := hr7_
  unfold maxLen at hr7_m
  refine bS [0] 3 0 [(3, .slice A1 k3 cp4)] ?_
  refine cont_done ?_
  refine then_normal ?_
  refine cont_seq ?_
  refine cont_region 3 rfl ?_
  refine bS [0] 1 2 [(3, .slice A1 k3 cp4), (12, .slice A1 k3 cp4)] ?_
  refine pl_step 2 1 rfl rfl ?_
  have hkl8_ := keepL_length hullP P 0
  refine call_gen (d := 13) (α := Option Addr × Nat × Nat × Nat) (fun x_ => .slice x_.1 x_.2.2.1 x_.2.2.2) (fun x_ => [.gen (rowE (x_.1) x_.2.1 x_.2.2.1 x_.2.2.2 25 4 (rvals (keepL hullP P 0)) true), .gen (rowE (A1) g2 k3 cp4 25 4 (rvals P) true), .gen (rdE (A) g o n 4 (rvals xs))]) (fun x_ => True) (by kernel_rfl) (fun w hT => (regKeep A1 g2 0 k3 cp4 P 0 w (hT.viewRo (.cons (i := 0) rfl Vw.rowRd .nil) rfl) (by omega)).mono fun e w' ⟨A9, g10, k11, cp12, he_, ht_⟩ => ⟨(A9, g10, k11, cp12), he_, trivial, hT.news ht_ rfl⟩) ?_
  rintro ⟨A9, g10, k11, cp12⟩ hf13_
  refine cont_norm [(3, .slice A1 k3 cp4), (12, .slice A1 k3 cp4), (13, .slice A9 k11 cp12)] [.gen (rowE (A9) g10 k11 cp12 25 4 (rvals (keepL hullP P 0)) true), .gen (rowE (A1) g2 k3 cp4 25 4 (rvals P) true), .gen (rdE (A) g o n 4 (rvals xs))] (by kernel_rfl) rfl ?_
  refine cont_fact (F := (0 < k11 → (A9 : Option Addr) = some ⟨g10, 0, none⟩) ∧ (keepL hullP P 0).length = k11 ∧ k11 ≤ cp12 ∧ cp12 ≤ maxLen) (fun w hT => Row.factsR (hT.ok 0 _ rfl)) (fun hr14_ => ?_)
  obtain ⟨hr14_a, hr14_l, hr14_c, hr14_m⟩ := hr14_
  unfold maxLen at hr14_m
  refine bS [0] 3 0 [(3, .slice A1 k3 cp4), (4, .slice A9 k11 cp12)] ?_
  refine cont_done ?_
  refine then_normal ?_
  refine cont_seq ?_
  refine cont_seq ?_
  refine cont_region 3 rfl ?_
  refine bS [0, 0, 0] 3 0 [(3, .slice A1 k3 cp4), (16, .bool ((k11 : Int) != 0))] ?_
  refine cont_done ?_
  refine then_normal ?_
  refine cont_recast 16 (.bool ((k11 : Int) != 0)) (.bool false) rfl (congrArg Value.bool (by have h_ := keep0_len hullP P; rw [show k11 = 0 by omega]; rfl)) ?_
  refine cont_false rfl ?_
  refine cont_skip ?_
  refine then_normal ?_
  refine cont_seq ?_
  refine cont_seq ?_
  refine cont_region 3 rfl ?_
  refine bS [0, 0, 0] 3 0 [(3, .slice A1 k3 cp4), (19, .bool (decide ((k3 : Int) < 2)))] ?_
  refine cont_done ?_
  refine then_normal ?_
  refine cont_split 19 (decide ((k3 : Int) < 2)) rfl (fun c16_ => ?_) (fun c16_ => ?_)
  ·
    replace c16_ := of_decide_eq_true c16_
    refine cont_true rfl ?_
    refine cont_seq ?_
    refine cont_region 8 rfl ?_
    refine bS [0] 1 7 [(3, .slice A1 k3 cp4), (20, .slice A1 k3 cp4)] ?_
    refine pl_step 2 6 rfl rfl ?_
    have hkl17_ := keepL_length hullP P 1
    refine call_gen (d := 21) (α := Option Addr × Nat × Nat × Nat) (fun x_ => .slice x_.1 x_.2.2.1 x_.2.2.2) (fun x_ => [.gen (rowE (x_.1) x_.2.1 x_.2.2.1 x_.2.2.2 25 4 (rvals (keepL hullP P 1)) true), .gen (rowE (A9) g10 k11 cp12 25 4 (rvals (keepL hullP P 0)) true), .gen (rowE (A1) g2 k3 cp4 25 4 (rvals P) true), .gen (rdE (A) g o n 4 (rvals xs))]) (fun x_ => True) (by kernel_rfl) (fun w hT => (regKeep A1 g2 0 k3 cp4 P 1 w (hT.viewRo (.cons (i := 1) rfl Vw.rowRd .nil) rfl) (by omega)).mono fun e w' ⟨A18, g19, k20, cp21, he_, ht_⟩ => ⟨(A18, g19, k20, cp21), he_, trivial, hT.news ht_ rfl⟩) ?_
    rintro ⟨A18, g19, k20, cp21⟩ hf22_
    refine cont_norm [(3, .slice A1 k3 cp4), (20, .slice A1 k3 cp4), (21, .slice A18 k20 cp21)] [.gen (rowE (A18) g19 k20 cp21 25 4 (rvals (keepL hullP P 1)) true), .gen (rowE (A9) g10 k11 cp12 25 4 (rvals (keepL hullP P 0)) true), .gen (rowE (A1) g2 k3 cp4 25 4 (rvals P) true), .gen (rdE (A) g o n 4 (rvals xs))] (by kernel_rfl) rfl ?_
    refine cont_fact (F := (0 < k20 → (A18 : Option Addr) = some ⟨g19, 0, none⟩) ∧ (keepL hullP P 1).length = k20 ∧ k20 ≤ cp21 ∧ cp21 ≤ maxLen) (fun w hT => Row.factsR (hT.ok 0 _ rfl)) (fun hr23_ => ?_)
    obtain ⟨hr23_a, hr23_l, hr23_c, hr23_m⟩ := hr23_
    unfold maxLen at hr23_m
    refine bS [0] 3 5 [(21, .slice A18 k20 cp21), (22, .slice A1 k3 cp4)] ?_
    refine pl_step 4 4 rfl rfl ?_
    refine call_pure (d := 23) (.bool (decide ((keepL hullP P 1) = P))) (by kernel_rfl) (fun w hT => regSame A18 g19 0 k20 cp21 (keepL hullP P 1) A1 g2 0 k3 cp4 P w (hT.viewRo (.cons (i := 0) rfl Vw.rowRd (.cons (i := 2) rfl Vw.rowRd .nil)) rfl) (by omega)) ?_
    refine bS [0] 5 3 [(24, .bool (decide ((keepL hullP P 1) = P)))] ?_
    refine cont_recast 24 (.bool (decide ((keepL hullP P 1) = P))) (.bool true) rfl (congrArg Value.bool (decide_eq_true (keepL_all (by omega)))) ?_
    refine pl_step 6 2 rfl rfl ?_
    refine call_pure (d := 25) (.bool true) (by kernel_rfl) (fun w hT => lives2  w) ?_
    refine bS [0, 0] 8 0 [(2, .bool true)] ?_
    refine cont_done ?_
    refine then_normal ?_
    refine cont_ret ?_
    refine then_ret ?_
    refine ret_one (.inl rfl) rfl 0 (.bool true) (by kernel_rfl) (by kernel_rfl) (fun w hT => ?_)
    exact ⟨rfl, hT.post rfl⟩
  replace c16_ := of_decide_eq_false c16_
  refine cont_false rfl ?_
  refine cont_skip ?_
  refine then_normal ?_
  refine cont_seq ?_
  refine cont_region 3 rfl ?_
  refine bS [0] 1 2 [(3, .slice A1 k3 cp4), (27, .slice A1 k3 cp4)] ?_
  refine pl_step 2 1 rfl rfl ?_
  have hkl25_ := keepL_length hullP P 1
  refine call_gen (d := 28) (α := Option Addr × Nat × Nat × Nat) (fun x_ => .slice x_.1 x_.2.2.1 x_.2.2.2) (fun x_ => [.gen (rowE (x_.1) x_.2.1 x_.2.2.1 x_.2.2.2 25 4 (rvals (keepL hullP P 1)) true), .gen (rowE (A9) g10 k11 cp12 25 4 (rvals (keepL hullP P 0)) true), .gen (rowE (A1) g2 k3 cp4 25 4 (rvals P) true), .gen (rdE (A) g o n 4 (rvals xs))]) (fun x_ => True) (by kernel_rfl) (fun w hT => (regKeep A1 g2 0 k3 cp4 P 1 w (hT.viewRo (.cons (i := 1) rfl Vw.rowRd .nil) rfl) (by omega)).mono fun e w' ⟨A26, g27, k28, cp29, he_, ht_⟩ => ⟨(A26, g27, k28, cp29), he_, trivial, hT.news ht_ rfl⟩) ?_
  rintro ⟨A26, g27, k28, cp29⟩ hf30_
  refine cont_norm [(3, .slice A1 k3 cp4), (27, .slice A1 k3 cp4), (28, .slice A26 k28 cp29)] [.gen (rowE (A26) g27 k28 cp29 25 4 (rvals (keepL hullP P 1)) true), .gen (rowE (A9) g10 k11 cp12 25 4 (rvals (keepL hullP P 0)) true), .gen (rowE (A1) g2 k3 cp4 25 4 (rvals P) true), .gen (rdE (A) g o n 4 (rvals xs))] (by kernel_rfl) rfl ?_
  refine cont_fact (F := (0 < k28 → (A26 : Option Addr) = some ⟨g27, 0, none⟩) ∧ (keepL hullP P 1).length = k28 ∧ k28 ≤ cp29 ∧ cp29 ≤ maxLen) (fun w hT => Row.factsR (hT.ok 0 _ rfl)) (fun hr31_ => ?_)
  obtain ⟨hr31_a, hr31_l, hr31_c, hr31_m⟩ := hr31_
  unfold maxLen at hr31_m
  refine bS [0] 3 0 [(3, .slice A1 k3 cp4), (5, .slice A26 k28 cp29)] ?_
  refine cont_done ?_
  refine then_normal ?_
  refine cont_seq ?_
  refine cont_seq ?_
  refine cont_region 3 rfl ?_
  refine bS [0, 0, 0] 3 0 [(3, .slice A1 k3 cp4), (5, .slice A26 k28 cp29), (31, .bool ((k28 : Int) != 1))] ?_
  refine cont_done ?_
  refine then_normal ?_
  refine cont_recast 31 (.bool ((k28 : Int) != 1)) (.bool false) rfl (congrArg Value.bool (by have h_ := keep1_len hullP (l := P) (by omega); rw [show k28 = 1 by omega]; rfl)) ?_
  refine cont_false rfl ?_
  refine cont_skip ?_
  refine then_normal ?_
  refine cont_seq ?_
  refine cont_region 5 rfl ?_
  refine cont_rowEqR 0 (keepL hullP P 1) ([hullP P]) rfl (keepL_one (by omega) (by omega)) ?_
  refine cont_fact (F := (0 < k28 → (A26 : Option Addr) = some ⟨g27, 0, none⟩) ∧ [hullP P].length = k28 ∧ k28 ≤ cp29 ∧ cp29 ≤ maxLen) (fun w hT => Row.factsR (hT.ok 0 _ rfl)) (fun hr33_ => ?_)
  obtain ⟨hr33_a, hr33_l, hr33_c, hr33_m⟩ := hr33_
  unfold maxLen at hr33_m
  have hpl_ : rget [hullP P] 0 = hullP P := rfl
  have hl1_ : [hullP P].length = 1 := rfl
  refine bS [0] 1 4 [(3, .slice A1 k3 cp4), (5, .slice A26 k28 cp29), (32, .slice A26 k28 cp29)] ?_
  refine pl_step 2 3 rfl rfl ?_
  refine cont_recast 32 (.slice A26 k28 cp29) (.slice (some ⟨g27, 0, none⟩) k28 cp29) rfl (by rw [hr33_a (by omega)]) ?_
  refine sem_step 33 (Instr.indexAt 22 (.slice (some ⟨g27, 0, none⟩) k28 cp29) (.int .i64 0)) (.pointer (some ⟨g27, 0 * 4, none⟩)) (by kernel_rfl) (fun w hT => run_indexAt (e := 25) (sz := 4) _ (by kernel_rfl) (by kernel_rfl) (by omega) (by omega) (by omega) w) ?_
  refine pl_step 3 2 rfl rfl ?_
  refine sem_step 34 (Instr.loadAt 25 (.pointer (some ⟨g27, 0 * 4, none⟩))) (.agg #[.int .i64 ((rget [hullP P] 0).x0), .int .i64 ((rget [hullP P] 0).y0), .int .i64 ((rget [hullP P] 0).x1), .int .i64 ((rget [hullP P] 0).y1)]) (by kernel_rfl) (fun w hT => run_loadN (m := 4) (cs := rcells (rget [hullP P] 0)) (by kernel_rfl) (by kernel_rfl) rfl (Rd.rect0 (Row.rd (hT.ok 0 _ rfl)) (by omega))) ?_
  refine batch1 [0, 0] 5 0 (fun b34 => [(3, .slice A1 k3 cp4), (5, .slice A26 k28 cp29), (6, .pointer (some ⟨b34, 0, none⟩))]) (fun b34 => [.cells b34 [.int .i64 ((rget [hullP P] 0).x0), .int .i64 ((rget [hullP P] 0).y0), .int .i64 ((rget [hullP P] 0).x1), .int .i64 ((rget [hullP P] 0).y1)] 25 true, .gen (rowE (A26) g27 k28 cp29 25 4 (rvals [hullP P]) true), .gen (rowE (A9) g10 k11 cp12 25 4 (rvals (keepL hullP P 0)) true), .gen (rowE (A1) g2 k3 cp4 25 4 (rvals P) true), .gen (rdE (A) g o n 4 (rvals xs))]) rfl rfl [3, 5, 6] (fun _ => rfl) (fun b34 => by kernel_rfl) (fun b34 => by kernel_rfl) (fun b34 => ?_)
  refine cont_done ?_
  refine then_normal ?_
  refine cont_seq ?_
  refine cont_region 1 rfl ?_
  refine cont_norm [(3, .slice A1 k3 cp4), (5, .slice A26 k28 cp29), (6, .pointer (some ⟨b34, 0, none⟩))] [.cells b34 [.int .i64 ((hullP P).x0), .int .i64 ((hullP P).y0), .int .i64 ((hullP P).x1), .int .i64 ((hullP P).y1)] 25 true, .gen (rowE (A26) g27 k28 cp29 25 4 (rvals [hullP P]) true), .gen (rowE (A9) g10 k11 cp12 25 4 (rvals (keepL hullP P 0)) true), .gen (rowE (A1) g2 k3 cp4 25 4 (rvals P) true), .gen (rdE (A) g o n 4 (rvals xs))] (by kernel_rfl) (congrArg (fun c_ : List Value => ([.cells b34 c_ 25 true, .gen (rowE (A26) g27 k28 cp29 25 4 (rvals [hullP P]) true), .gen (rowE (A9) g10 k11 cp12 25 4 (rvals (keepL hullP P 0)) true), .gen (rowE (A1) g2 k3 cp4 25 4 (rvals P) true), .gen (rdE (A) g o n 4 (rvals xs))] : List Ent)) (rfl : cellsR (rget [hullP P] 0) = cellsR (hullP P))) ?_
  refine bS [0] 1 0 [(3, .slice A1 k3 cp4), (5, .slice A26 k28 cp29), (6, .pointer (some ⟨b34, 0, none⟩)), (7, .bool false)] ?_
  refine cont_done ?_
  refine then_normal ?_
  refine cont_seq ?_
  refine cont_region 1 rfl ?_
  refine bS [0] 1 0 [(3, .slice A1 k3 cp4), (5, .slice A26 k28 cp29), (6, .pointer (some ⟨b34, 0, none⟩)), (7, .bool false), (8, .bool false)] ?_
  refine cont_done ?_
  refine then_normal ?_
  refine cont_seq ?_
  refine cont_seq ?_
  refine cont_region 1 rfl ?_
  refine bS [0] 1 0 [(3, .slice A1 k3 cp4), (5, .slice A26 k28 cp29), (6, .pointer (some ⟨b34, 0, none⟩)), (7, .bool false), (8, .bool false), (9, .int .i64 0)] ?_
  refine cont_done ?_
  refine then_normal ?_
  refine cont_block ?_
  refine cont_recast 7 (.bool false) (.bool (touchS Rect.x0 (hullP P).x0 (P.take 0))) rfl (congrArg (Value.bool) (by rfl)) ?_
  refine cont_recast 8 (.bool false) (.bool (touchS Rect.x1 (hullP P).x1 (P.take 0))) rfl (congrArg (Value.bool) (by rfl)) ?_
  refine cont_loop (α := Nat) (fun x_ : Nat => x_ ≤ k3) (fun x_ : Nat => [(3, .slice A1 k3 cp4), (5, .slice A26 k28 cp29), (6, .pointer (some ⟨b34, 0, none⟩)), (7, .bool (touchS Rect.x0 (hullP P).x0 (P.take x_))), (8, .bool (touchS Rect.x1 (hullP P).x1 (P.take x_))), (9, .int .i64 (x_ : Int))]) (fun x_ : Nat => [.cells b34 [.int .i64 ((hullP P).x0), .int .i64 ((hullP P).y0), .int .i64 ((hullP P).x1), .int .i64 ((hullP P).y1)] 25 true, .gen (rowE (A26) g27 k28 cp29 25 4 (rvals [hullP P]) true), .gen (rowE (A9) g10 k11 cp12 25 4 (rvals (keepL hullP P 0)) true), .gen (rowE (A1) g2 k3 cp4 25 4 (rvals P) true), .gen (rdE (A) g o n 4 (rvals xs))]) (fun x_ : Nat => k3 - x_) 0 (by omega) (by kernel_rfl) (by kernel_rfl) ?_
  rintro i hinv35_
  replace hinv35_ : i ≤ k3 := hinv35_
  refine cont_norm [(3, .slice A1 k3 cp4), (5, .slice A26 k28 cp29), (6, .pointer (some ⟨b34, 0, none⟩)), (7, .bool (touchS Rect.x0 (hullP P).x0 (P.take i))), (8, .bool (touchS Rect.x1 (hullP P).x1 (P.take i))), (9, .int .i64 (i : Int))] [.cells b34 [.int .i64 ((hullP P).x0), .int .i64 ((hullP P).y0), .int .i64 ((hullP P).x1), .int .i64 ((hullP P).y1)] 25 true, .gen (rowE (A26) g27 k28 cp29 25 4 (rvals [hullP P]) true), .gen (rowE (A9) g10 k11 cp12 25 4 (rvals (keepL hullP P 0)) true), .gen (rowE (A1) g2 k3 cp4 25 4 (rvals P) true), .gen (rdE (A) g o n 4 (rvals xs))] (by kernel_rfl) rfl ?_
  have hi := hinv35_
  refine cont_seq ?_
  refine cont_seq ?_
  refine cont_region 4 rfl ?_
  refine bS [0, 0, 0, 0] 4 0 [(3, .slice A1 k3 cp4), (5, .slice A26 k28 cp29), (6, .pointer (some ⟨b34, 0, none⟩)), (7, .bool (touchS Rect.x0 (hullP P).x0 (P.take i))), (8, .bool (touchS Rect.x1 (hullP P).x1 (P.take i))), (9, .int .i64 (i : Int)), (38, .bool (decide ((i : Int) < (k3 : Int))))] ?_
  refine cont_done ?_
  refine then_normal ?_
  refine cont_split 38 (decide ((i : Int) < (k3 : Int))) rfl (fun c36_ => ?_) (fun c36_ => ?_)
  ·
    replace c36_ := of_decide_eq_true c36_
    refine cont_true rfl ?_
    refine cont_skip ?_
    refine then_normal ?_
    refine cont_seq ?_
    refine cont_block ?_
    refine cont_seq ?_
    refine drawn_enter 12 [] rfl (by kernel_rfl) ?_
    refine takes 0 [] [(0, 0), (1, 0)] 10 [1, 0] [(3, .slice A1 k3 cp4), (5, .slice A26 k28 cp29), (6, .pointer (some ⟨b34, 0, none⟩)), (7, .bool (touchS Rect.x0 (hullP P).x0 (P.take i))), (8, .bool (touchS Rect.x1 (hullP P).x1 (P.take i))), (9, .int .i64 (i : Int)), (42, .bool (touchS Rect.x0 (hullP P).x0 (P.take i)))] (by kernel_rfl) (pok_then (pok_blk (pok_then (pok_then (pok_blk (pok_then pok_body)))))) (by kernel_rfl) rfl rfl (by kernel_rfl) (by kernel_rfl) ?_
    refine cont_split 42 (touchS Rect.x0 (hullP P).x0 (P.take i)) rfl (fun c37_ => ?_) (fun c37_ => ?_)
    ·
      refine cont_recast 7 (.bool (touchS Rect.x0 (hullP P).x0 (P.take i))) (.bool true) rfl (congrArg Value.bool c37_) ?_
      refine takes 0 [] [(2, 0), (3, 0), (7, 0), (4, 0), (8, 0), (5, 0), (6, 0), (9, 0), (10, 0), (11, 0)] 0 [11, 10, 9, 6, 5, 8, 4, 7, 3, 2, 1, 0] [(3, .slice A1 k3 cp4), (5, .slice A26 k28 cp29), (6, .pointer (some ⟨b34, 0, none⟩)), (7, .bool true), (8, .bool (touchS Rect.x1 (hullP P).x1 (P.take i))), (9, .int .i64 (i : Int)), (43, undef), (44, undef), (45, undef), (46, undef), (47, undef), (48, undef), (49, undef), (50, undef)] (by kernel_rfl) (pok_then (pok_blk (pok_then (pok_then (pok_blk (pok_then pok_body)))))) (by kernel_rfl) rfl rfl (by kernel_rfl) (by kernel_rfl) ?_
      refine drawn_done (by kernel_rfl) ?_
      refine then_normal ?_
      refine drawn_enter 12 [] rfl (by kernel_rfl) ?_
      refine takes 0 [] [(0, 0), (1, 0)] 10 [1, 0] [(3, .slice A1 k3 cp4), (5, .slice A26 k28 cp29), (6, .pointer (some ⟨b34, 0, none⟩)), (7, .bool true), (8, .bool (touchS Rect.x1 (hullP P).x1 (P.take i))), (9, .int .i64 (i : Int)), (43, undef), (44, undef), (45, undef), (46, undef), (47, undef), (48, undef), (49, undef), (50, undef), (53, .bool (touchS Rect.x1 (hullP P).x1 (P.take i)))] (by kernel_rfl) (pok_blk (pok_then (pok_then (pok_blk (pok_then pok_body))))) (by kernel_rfl) rfl rfl (by kernel_rfl) (by kernel_rfl) ?_
      refine cont_split 53 (touchS Rect.x1 (hullP P).x1 (P.take i)) rfl (fun c38_ => ?_) (fun c38_ => ?_)
      ·
        refine cont_recast 8 (.bool (touchS Rect.x1 (hullP P).x1 (P.take i))) (.bool true) rfl (congrArg Value.bool c38_) ?_
        refine takes 0 [] [(2, 0), (3, 0), (7, 0), (4, 0), (8, 0), (5, 0), (6, 0), (9, 0), (10, 0), (11, 0)] 0 [11, 10, 9, 6, 5, 8, 4, 7, 3, 2, 1, 0] [(3, .slice A1 k3 cp4), (5, .slice A26 k28 cp29), (6, .pointer (some ⟨b34, 0, none⟩)), (7, .bool true), (8, .bool true), (9, .int .i64 (i : Int)), (43, undef), (44, undef), (45, undef), (46, undef), (47, undef), (48, undef), (49, undef), (50, undef), (54, undef), (55, undef), (56, undef), (57, undef), (58, undef), (59, undef), (60, undef), (61, undef)] (by kernel_rfl) (pok_blk (pok_then (pok_then (pok_blk (pok_then pok_body))))) (by kernel_rfl) rfl rfl (by kernel_rfl) (by kernel_rfl) ?_
        refine drawn_done (by kernel_rfl) ?_
        refine blk_normal ?_
        refine then_normal ?_
        refine cont_region 3 rfl ?_
        refine bS [0, 0] 2 1 [(3, .slice A1 k3 cp4), (5, .slice A26 k28 cp29), (6, .pointer (some ⟨b34, 0, none⟩)), (7, .bool true), (8, .bool true), (40, .int .i64 (IntKind.i64.wrap ((i : Int) + 1))), (43, undef), (44, undef), (45, undef), (46, undef), (47, undef), (48, undef), (49, undef), (50, undef), (54, undef), (55, undef), (56, undef), (57, undef), (58, undef), (59, undef), (60, undef), (61, undef)] ?_
        refine cont_recast 40 (.int .i64 (IntKind.i64.wrap ((i : Int) + 1))) (.int .i64 ((i : Int) + 1)) rfl (wrapI (by omega) (by omega)) ?_
        refine bS [0] 3 0 [(3, .slice A1 k3 cp4), (5, .slice A26 k28 cp29), (6, .pointer (some ⟨b34, 0, none⟩)), (7, .bool true), (8, .bool true), (9, .int .i64 ((i : Int) + 1)), (43, undef), (44, undef), (45, undef), (46, undef), (47, undef), (48, undef), (49, undef), (50, undef), (54, undef), (55, undef), (56, undef), (57, undef), (58, undef), (59, undef), (60, undef), (61, undef)] ?_
        refine cont_done ?_
        refine then_normal ?_
        refine cont_recast 7 (.bool true) (.bool (touchS Rect.x0 (hullP P).x0 (P.take (i + 1)))) rfl (congrArg (Value.bool) (by rw [← touchS_put (by omega), c37_]; rfl)) ?_
        refine cont_recast 8 (.bool true) (.bool (touchS Rect.x1 (hullP P).x1 (P.take (i + 1)))) rfl (congrArg (Value.bool) (by rw [← touchS_put (by omega), c38_]; rfl)) ?_
        refine cont_again (i + 1) (show (i + 1) ≤ k3 from (by omega)) (show k3 - (i + 1) < k3 - i from by omega) (by kernel_rfl) (by kernel_rfl)
      refine cont_recast 8 (.bool (touchS Rect.x1 (hullP P).x1 (P.take i))) (.bool false) rfl (congrArg Value.bool c38_) ?_
      refine takes 0 [] [(2, 0), (3, 0), (7, 0)] 7 [7, 3, 2, 1, 0] [(3, .slice A1 k3 cp4), (5, .slice A26 k28 cp29), (6, .pointer (some ⟨b34, 0, none⟩)), (7, .bool true), (8, .bool false), (9, .int .i64 (i : Int)), (43, undef), (44, undef), (45, undef), (46, undef), (47, undef), (48, undef), (49, undef), (50, undef), (53, .bool false), (54, .slice A1 k3 cp4), (55, .int .i64 (i : Int)), (59, .pointer (some ⟨b34, 2, none⟩))] (by kernel_rfl) (pok_blk (pok_then (pok_then (pok_blk (pok_then pok_body))))) (by kernel_rfl) rfl rfl (by kernel_rfl) (by kernel_rfl) ?_
      refine cont_recast 54 (.slice A1 k3 cp4) (.slice (some ⟨g2, 0, none⟩) k3 cp4) rfl (by rw [hr7_a (by omega)]) ?_
      refine sem_take 0 [] 4 6 56 (Instr.indexAt 22 (.slice (some ⟨g2, 0, none⟩) k3 cp4) (.int .i64 (i : Int))) (.pointer (some ⟨g2, i * 4, none⟩)) (by kernel_rfl) (pok_blk (pok_then (pok_then (pok_blk (pok_then pok_body))))) (by kernel_rfl) rfl (by kernel_rfl) (by kernel_rfl) (fun w hT => run_indexAt (e := 25) (sz := 4) _ (by kernel_rfl) (by kernel_rfl) (by omega) (by omega) (by omega) w) ?_
      refine takes 0 [] [(5, 0), (8, 0)] 4 [8, 5, 4, 7, 3, 2, 1, 0] [(3, .slice A1 k3 cp4), (5, .slice A26 k28 cp29), (6, .pointer (some ⟨b34, 0, none⟩)), (7, .bool true), (8, .bool false), (9, .int .i64 (i : Int)), (43, undef), (44, undef), (45, undef), (46, undef), (47, undef), (48, undef), (49, undef), (50, undef), (53, .bool false), (54, .slice (some ⟨g2, 0, none⟩) k3 cp4), (55, .int .i64 (i : Int)), (56, .pointer (some ⟨g2, i * 4, none⟩)), (57, .pointer (some ⟨g2, i * 4 + 2, none⟩)), (59, .pointer (some ⟨b34, 2, none⟩)), (60, .int .i64 ((hullP P).x1))] (by kernel_rfl) (pok_blk (pok_then (pok_then (pok_blk (pok_then pok_body))))) (by kernel_rfl) rfl rfl (by kernel_rfl) (by kernel_rfl) ?_
      refine sem_take 0 [] 6 3 58 (Instr.loadAt 3 (.pointer (some ⟨g2, i * 4 + 2, none⟩))) (.int .i64 ((rget P i).x1)) (by kernel_rfl) (pok_blk (pok_then (pok_then (pok_blk (pok_then pok_body))))) (by kernel_rfl) rfl (by kernel_rfl) (by kernel_rfl) (fun w hT => run_load1 (by kernel_rfl) (Rd.cellF0 (Row.rd (hT 3 _ rfl)) i 2 _ (by omega) rfl)) ?_
      refine takes 0 [] [(9, 0), (10, 0), (11, 0)] 0 [11, 10, 9, 6, 8, 5, 4, 7, 3, 2, 1, 0] [(3, .slice A1 k3 cp4), (5, .slice A26 k28 cp29), (6, .pointer (some ⟨b34, 0, none⟩)), (7, .bool true), (8, .bool (((rget P i).x1) == ((hullP P).x1))), (9, .int .i64 (i : Int)), (43, undef), (44, undef), (45, undef), (46, undef), (47, undef), (48, undef), (49, undef), (50, undef), (54, .slice (some ⟨g2, 0, none⟩) k3 cp4), (55, .int .i64 (i : Int)), (56, .pointer (some ⟨g2, i * 4, none⟩)), (57, .pointer (some ⟨g2, i * 4 + 2, none⟩)), (58, .int .i64 ((rget P i).x1)), (59, .pointer (some ⟨b34, 2, none⟩)), (60, .int .i64 ((hullP P).x1)), (61, .bool (((rget P i).x1) == ((hullP P).x1)))] (by kernel_rfl) (pok_blk (pok_then (pok_then (pok_blk (pok_then pok_body))))) (by kernel_rfl) rfl rfl (by kernel_rfl) (by kernel_rfl) ?_
      refine drawn_done (by kernel_rfl) ?_
      refine blk_normal ?_
      refine then_normal ?_
      refine cont_region 3 rfl ?_
      refine bS [0, 0] 2 1 [(3, .slice A1 k3 cp4), (5, .slice A26 k28 cp29), (6, .pointer (some ⟨b34, 0, none⟩)), (7, .bool true), (8, .bool (((rget P i).x1) == ((hullP P).x1))), (40, .int .i64 (IntKind.i64.wrap ((i : Int) + 1))), (43, undef), (44, undef), (45, undef), (46, undef), (47, undef), (48, undef), (49, undef), (50, undef), (54, .slice (some ⟨g2, 0, none⟩) k3 cp4), (55, .int .i64 (i : Int)), (56, .pointer (some ⟨g2, i * 4, none⟩)), (57, .pointer (some ⟨g2, i * 4 + 2, none⟩)), (58, .int .i64 ((rget P i).x1)), (59, .pointer (some ⟨b34, 2, none⟩)), (60, .int .i64 ((hullP P).x1)), (61, .bool (((rget P i).x1) == ((hullP P).x1)))] ?_
      refine cont_recast 40 (.int .i64 (IntKind.i64.wrap ((i : Int) + 1))) (.int .i64 ((i : Int) + 1)) rfl (wrapI (by omega) (by omega)) ?_
      refine bS [0] 3 0 [(3, .slice A1 k3 cp4), (5, .slice A26 k28 cp29), (6, .pointer (some ⟨b34, 0, none⟩)), (7, .bool true), (8, .bool (((rget P i).x1) == ((hullP P).x1))), (9, .int .i64 ((i : Int) + 1)), (43, undef), (44, undef), (45, undef), (46, undef), (47, undef), (48, undef), (49, undef), (50, undef), (54, .slice (some ⟨g2, 0, none⟩) k3 cp4), (55, .int .i64 (i : Int)), (56, .pointer (some ⟨g2, i * 4, none⟩)), (57, .pointer (some ⟨g2, i * 4 + 2, none⟩)), (58, .int .i64 ((rget P i).x1)), (59, .pointer (some ⟨b34, 2, none⟩)), (60, .int .i64 ((hullP P).x1)), (61, .bool (((rget P i).x1) == ((hullP P).x1)))] ?_
      refine cont_done ?_
      refine then_normal ?_
      refine cont_recast 7 (.bool true) (.bool (touchS Rect.x0 (hullP P).x0 (P.take (i + 1)))) rfl (congrArg (Value.bool) (by rw [← touchS_put (by omega), c37_]; rfl)) ?_
      refine cont_recast 8 (.bool (((rget P i).x1) == ((hullP P).x1))) (.bool (touchS Rect.x1 (hullP P).x1 (P.take (i + 1)))) rfl (congrArg (Value.bool) (by rw [← touchS_put (by omega), c38_]; first | rfl | (rw [Bool.false_or]))) ?_
      refine cont_again (i + 1) (show (i + 1) ≤ k3 from (by omega)) (show k3 - (i + 1) < k3 - i from by omega) (by kernel_rfl) (by kernel_rfl)
    refine cont_recast 7 (.bool (touchS Rect.x0 (hullP P).x0 (P.take i))) (.bool false) rfl (congrArg Value.bool c37_) ?_
    refine takes 0 [] [(2, 0), (3, 0), (7, 0)] 7 [7, 3, 2, 1, 0] [(3, .slice A1 k3 cp4), (5, .slice A26 k28 cp29), (6, .pointer (some ⟨b34, 0, none⟩)), (7, .bool false), (8, .bool (touchS Rect.x1 (hullP P).x1 (P.take i))), (9, .int .i64 (i : Int)), (42, .bool false), (43, .slice A1 k3 cp4), (44, .int .i64 (i : Int)), (48, .pointer (some ⟨b34, 0, none⟩))] (by kernel_rfl) (pok_then (pok_blk (pok_then (pok_then (pok_blk (pok_then pok_body)))))) (by kernel_rfl) rfl rfl (by kernel_rfl) (by kernel_rfl) ?_
    refine cont_recast 43 (.slice A1 k3 cp4) (.slice (some ⟨g2, 0, none⟩) k3 cp4) rfl (by rw [hr7_a (by omega)]) ?_
    refine sem_take 0 [] 4 6 45 (Instr.indexAt 22 (.slice (some ⟨g2, 0, none⟩) k3 cp4) (.int .i64 (i : Int))) (.pointer (some ⟨g2, i * 4, none⟩)) (by kernel_rfl) (pok_then (pok_blk (pok_then (pok_then (pok_blk (pok_then pok_body)))))) (by kernel_rfl) rfl (by kernel_rfl) (by kernel_rfl) (fun w hT => run_indexAt (e := 25) (sz := 4) _ (by kernel_rfl) (by kernel_rfl) (by omega) (by omega) (by omega) w) ?_
    refine takes 0 [] [(5, 0), (8, 0)] 4 [8, 5, 4, 7, 3, 2, 1, 0] [(3, .slice A1 k3 cp4), (5, .slice A26 k28 cp29), (6, .pointer (some ⟨b34, 0, none⟩)), (7, .bool false), (8, .bool (touchS Rect.x1 (hullP P).x1 (P.take i))), (9, .int .i64 (i : Int)), (42, .bool false), (43, .slice (some ⟨g2, 0, none⟩) k3 cp4), (44, .int .i64 (i : Int)), (45, .pointer (some ⟨g2, i * 4, none⟩)), (46, .pointer (some ⟨g2, i * 4, none⟩)), (48, .pointer (some ⟨b34, 0, none⟩)), (49, .int .i64 ((hullP P).x0))] (by kernel_rfl) (pok_then (pok_blk (pok_then (pok_then (pok_blk (pok_then pok_body)))))) (by kernel_rfl) rfl rfl (by kernel_rfl) (by kernel_rfl) ?_
    refine sem_take 0 [] 6 3 47 (Instr.loadAt 3 (.pointer (some ⟨g2, i * 4, none⟩))) (.int .i64 ((rget P i).x0)) (by kernel_rfl) (pok_then (pok_blk (pok_then (pok_then (pok_blk (pok_then pok_body)))))) (by kernel_rfl) rfl (by kernel_rfl) (by kernel_rfl) (fun w hT => run_load1 (by kernel_rfl) (Rd.cellF0 (Row.rd (hT 3 _ rfl)) i 0 _ (by omega) rfl)) ?_
    refine takes 0 [] [(9, 0), (10, 0), (11, 0)] 0 [11, 10, 9, 6, 8, 5, 4, 7, 3, 2, 1, 0] [(3, .slice A1 k3 cp4), (5, .slice A26 k28 cp29), (6, .pointer (some ⟨b34, 0, none⟩)), (7, .bool (((rget P i).x0) == ((hullP P).x0))), (8, .bool (touchS Rect.x1 (hullP P).x1 (P.take i))), (9, .int .i64 (i : Int)), (43, .slice (some ⟨g2, 0, none⟩) k3 cp4), (44, .int .i64 (i : Int)), (45, .pointer (some ⟨g2, i * 4, none⟩)), (46, .pointer (some ⟨g2, i * 4, none⟩)), (47, .int .i64 ((rget P i).x0)), (48, .pointer (some ⟨b34, 0, none⟩)), (49, .int .i64 ((hullP P).x0)), (50, .bool (((rget P i).x0) == ((hullP P).x0)))] (by kernel_rfl) (pok_then (pok_blk (pok_then (pok_then (pok_blk (pok_then pok_body)))))) (by kernel_rfl) rfl rfl (by kernel_rfl) (by kernel_rfl) ?_
    refine drawn_done (by kernel_rfl) ?_
    refine then_normal ?_
    refine drawn_enter 12 [] rfl (by kernel_rfl) ?_
    refine takes 0 [] [(0, 0), (1, 0)] 10 [1, 0] [(3, .slice A1 k3 cp4), (5, .slice A26 k28 cp29), (6, .pointer (some ⟨b34, 0, none⟩)), (7, .bool (((rget P i).x0) == ((hullP P).x0))), (8, .bool (touchS Rect.x1 (hullP P).x1 (P.take i))), (9, .int .i64 (i : Int)), (43, .slice (some ⟨g2, 0, none⟩) k3 cp4), (44, .int .i64 (i : Int)), (45, .pointer (some ⟨g2, i * 4, none⟩)), (46, .pointer (some ⟨g2, i * 4, none⟩)), (47, .int .i64 ((rget P i).x0)), (48, .pointer (some ⟨b34, 0, none⟩)), (49, .int .i64 ((hullP P).x0)), (50, .bool (((rget P i).x0) == ((hullP P).x0))), (53, .bool (touchS Rect.x1 (hullP P).x1 (P.take i)))] (by kernel_rfl) (pok_blk (pok_then (pok_then (pok_blk (pok_then pok_body))))) (by kernel_rfl) rfl rfl (by kernel_rfl) (by kernel_rfl) ?_
    refine cont_split 53 (touchS Rect.x1 (hullP P).x1 (P.take i)) rfl (fun c39_ => ?_) (fun c39_ => ?_)
    ·
      refine cont_recast 8 (.bool (touchS Rect.x1 (hullP P).x1 (P.take i))) (.bool true) rfl (congrArg Value.bool c39_) ?_
      refine takes 0 [] [(2, 0), (3, 0), (7, 0), (4, 0), (8, 0), (5, 0), (6, 0), (9, 0), (10, 0), (11, 0)] 0 [11, 10, 9, 6, 5, 8, 4, 7, 3, 2, 1, 0] [(3, .slice A1 k3 cp4), (5, .slice A26 k28 cp29), (6, .pointer (some ⟨b34, 0, none⟩)), (7, .bool (((rget P i).x0) == ((hullP P).x0))), (8, .bool true), (9, .int .i64 (i : Int)), (43, .slice (some ⟨g2, 0, none⟩) k3 cp4), (44, .int .i64 (i : Int)), (45, .pointer (some ⟨g2, i * 4, none⟩)), (46, .pointer (some ⟨g2, i * 4, none⟩)), (47, .int .i64 ((rget P i).x0)), (48, .pointer (some ⟨b34, 0, none⟩)), (49, .int .i64 ((hullP P).x0)), (50, .bool (((rget P i).x0) == ((hullP P).x0))), (54, undef), (55, undef), (56, undef), (57, undef), (58, undef), (59, undef), (60, undef), (61, undef)] (by kernel_rfl) (pok_blk (pok_then (pok_then (pok_blk (pok_then pok_body))))) (by kernel_rfl) rfl rfl (by kernel_rfl) (by kernel_rfl) ?_
      refine drawn_done (by kernel_rfl) ?_
      refine blk_normal ?_
      refine then_normal ?_
      refine cont_region 3 rfl ?_
      refine bS [0, 0] 2 1 [(3, .slice A1 k3 cp4), (5, .slice A26 k28 cp29), (6, .pointer (some ⟨b34, 0, none⟩)), (7, .bool (((rget P i).x0) == ((hullP P).x0))), (8, .bool true), (40, .int .i64 (IntKind.i64.wrap ((i : Int) + 1))), (43, .slice (some ⟨g2, 0, none⟩) k3 cp4), (44, .int .i64 (i : Int)), (45, .pointer (some ⟨g2, i * 4, none⟩)), (46, .pointer (some ⟨g2, i * 4, none⟩)), (47, .int .i64 ((rget P i).x0)), (48, .pointer (some ⟨b34, 0, none⟩)), (49, .int .i64 ((hullP P).x0)), (50, .bool (((rget P i).x0) == ((hullP P).x0))), (54, undef), (55, undef), (56, undef), (57, undef), (58, undef), (59, undef), (60, undef), (61, undef)] ?_
      refine cont_recast 40 (.int .i64 (IntKind.i64.wrap ((i : Int) + 1))) (.int .i64 ((i : Int) + 1)) rfl (wrapI (by omega) (by omega)) ?_
      refine bS [0] 3 0 [(3, .slice A1 k3 cp4), (5, .slice A26 k28 cp29), (6, .pointer (some ⟨b34, 0, none⟩)), (7, .bool (((rget P i).x0) == ((hullP P).x0))), (8, .bool true), (9, .int .i64 ((i : Int) + 1)), (43, .slice (some ⟨g2, 0, none⟩) k3 cp4), (44, .int .i64 (i : Int)), (45, .pointer (some ⟨g2, i * 4, none⟩)), (46, .pointer (some ⟨g2, i * 4, none⟩)), (47, .int .i64 ((rget P i).x0)), (48, .pointer (some ⟨b34, 0, none⟩)), (49, .int .i64 ((hullP P).x0)), (50, .bool (((rget P i).x0) == ((hullP P).x0))), (54, undef), (55, undef), (56, undef), (57, undef), (58, undef), (59, undef), (60, undef), (61, undef)] ?_
      refine cont_done ?_
      refine then_normal ?_
      refine cont_recast 7 (.bool (((rget P i).x0) == ((hullP P).x0))) (.bool (touchS Rect.x0 (hullP P).x0 (P.take (i + 1)))) rfl (congrArg (Value.bool) (by rw [← touchS_put (by omega), c37_]; first | rfl | (rw [Bool.false_or]))) ?_
      refine cont_recast 8 (.bool true) (.bool (touchS Rect.x1 (hullP P).x1 (P.take (i + 1)))) rfl (congrArg (Value.bool) (by rw [← touchS_put (by omega), c39_]; rfl)) ?_
      refine cont_again (i + 1) (show (i + 1) ≤ k3 from (by omega)) (show k3 - (i + 1) < k3 - i from by omega) (by kernel_rfl) (by kernel_rfl)
    refine cont_recast 8 (.bool (touchS Rect.x1 (hullP P).x1 (P.take i))) (.bool false) rfl (congrArg Value.bool c39_) ?_
    refine takes 0 [] [(2, 0), (3, 0), (7, 0)] 7 [7, 3, 2, 1, 0] [(3, .slice A1 k3 cp4), (5, .slice A26 k28 cp29), (6, .pointer (some ⟨b34, 0, none⟩)), (7, .bool (((rget P i).x0) == ((hullP P).x0))), (8, .bool false), (9, .int .i64 (i : Int)), (43, .slice (some ⟨g2, 0, none⟩) k3 cp4), (44, .int .i64 (i : Int)), (45, .pointer (some ⟨g2, i * 4, none⟩)), (46, .pointer (some ⟨g2, i * 4, none⟩)), (47, .int .i64 ((rget P i).x0)), (48, .pointer (some ⟨b34, 0, none⟩)), (49, .int .i64 ((hullP P).x0)), (50, .bool (((rget P i).x0) == ((hullP P).x0))), (53, .bool false), (54, .slice A1 k3 cp4), (55, .int .i64 (i : Int)), (59, .pointer (some ⟨b34, 2, none⟩))] (by kernel_rfl) (pok_blk (pok_then (pok_then (pok_blk (pok_then pok_body))))) (by kernel_rfl) rfl rfl (by kernel_rfl) (by kernel_rfl) ?_
    refine cont_recast 54 (.slice A1 k3 cp4) (.slice (some ⟨g2, 0, none⟩) k3 cp4) rfl (by rw [hr7_a (by omega)]) ?_
    refine sem_take 0 [] 4 6 56 (Instr.indexAt 22 (.slice (some ⟨g2, 0, none⟩) k3 cp4) (.int .i64 (i : Int))) (.pointer (some ⟨g2, i * 4, none⟩)) (by kernel_rfl) (pok_blk (pok_then (pok_then (pok_blk (pok_then pok_body))))) (by kernel_rfl) rfl (by kernel_rfl) (by kernel_rfl) (fun w hT => run_indexAt (e := 25) (sz := 4) _ (by kernel_rfl) (by kernel_rfl) (by omega) (by omega) (by omega) w) ?_
    refine takes 0 [] [(5, 0), (8, 0)] 4 [8, 5, 4, 7, 3, 2, 1, 0] [(3, .slice A1 k3 cp4), (5, .slice A26 k28 cp29), (6, .pointer (some ⟨b34, 0, none⟩)), (7, .bool (((rget P i).x0) == ((hullP P).x0))), (8, .bool false), (9, .int .i64 (i : Int)), (43, .slice (some ⟨g2, 0, none⟩) k3 cp4), (44, .int .i64 (i : Int)), (45, .pointer (some ⟨g2, i * 4, none⟩)), (46, .pointer (some ⟨g2, i * 4, none⟩)), (47, .int .i64 ((rget P i).x0)), (48, .pointer (some ⟨b34, 0, none⟩)), (49, .int .i64 ((hullP P).x0)), (50, .bool (((rget P i).x0) == ((hullP P).x0))), (53, .bool false), (54, .slice (some ⟨g2, 0, none⟩) k3 cp4), (55, .int .i64 (i : Int)), (56, .pointer (some ⟨g2, i * 4, none⟩)), (57, .pointer (some ⟨g2, i * 4 + 2, none⟩)), (59, .pointer (some ⟨b34, 2, none⟩)), (60, .int .i64 ((hullP P).x1))] (by kernel_rfl) (pok_blk (pok_then (pok_then (pok_blk (pok_then pok_body))))) (by kernel_rfl) rfl rfl (by kernel_rfl) (by kernel_rfl) ?_
    refine sem_take 0 [] 6 3 58 (Instr.loadAt 3 (.pointer (some ⟨g2, i * 4 + 2, none⟩))) (.int .i64 ((rget P i).x1)) (by kernel_rfl) (pok_blk (pok_then (pok_then (pok_blk (pok_then pok_body))))) (by kernel_rfl) rfl (by kernel_rfl) (by kernel_rfl) (fun w hT => run_load1 (by kernel_rfl) (Rd.cellF0 (Row.rd (hT 3 _ rfl)) i 2 _ (by omega) rfl)) ?_
    refine takes 0 [] [(9, 0), (10, 0), (11, 0)] 0 [11, 10, 9, 6, 8, 5, 4, 7, 3, 2, 1, 0] [(3, .slice A1 k3 cp4), (5, .slice A26 k28 cp29), (6, .pointer (some ⟨b34, 0, none⟩)), (7, .bool (((rget P i).x0) == ((hullP P).x0))), (8, .bool (((rget P i).x1) == ((hullP P).x1))), (9, .int .i64 (i : Int)), (43, .slice (some ⟨g2, 0, none⟩) k3 cp4), (44, .int .i64 (i : Int)), (45, .pointer (some ⟨g2, i * 4, none⟩)), (46, .pointer (some ⟨g2, i * 4, none⟩)), (47, .int .i64 ((rget P i).x0)), (48, .pointer (some ⟨b34, 0, none⟩)), (49, .int .i64 ((hullP P).x0)), (50, .bool (((rget P i).x0) == ((hullP P).x0))), (54, .slice (some ⟨g2, 0, none⟩) k3 cp4), (55, .int .i64 (i : Int)), (56, .pointer (some ⟨g2, i * 4, none⟩)), (57, .pointer (some ⟨g2, i * 4 + 2, none⟩)), (58, .int .i64 ((rget P i).x1)), (59, .pointer (some ⟨b34, 2, none⟩)), (60, .int .i64 ((hullP P).x1)), (61, .bool (((rget P i).x1) == ((hullP P).x1)))] (by kernel_rfl) (pok_blk (pok_then (pok_then (pok_blk (pok_then pok_body))))) (by kernel_rfl) rfl rfl (by kernel_rfl) (by kernel_rfl) ?_
    refine drawn_done (by kernel_rfl) ?_
    refine blk_normal ?_
    refine then_normal ?_
    refine cont_region 3 rfl ?_
    refine bS [0, 0] 2 1 [(3, .slice A1 k3 cp4), (5, .slice A26 k28 cp29), (6, .pointer (some ⟨b34, 0, none⟩)), (7, .bool (((rget P i).x0) == ((hullP P).x0))), (8, .bool (((rget P i).x1) == ((hullP P).x1))), (40, .int .i64 (IntKind.i64.wrap ((i : Int) + 1))), (43, .slice (some ⟨g2, 0, none⟩) k3 cp4), (44, .int .i64 (i : Int)), (45, .pointer (some ⟨g2, i * 4, none⟩)), (46, .pointer (some ⟨g2, i * 4, none⟩)), (47, .int .i64 ((rget P i).x0)), (48, .pointer (some ⟨b34, 0, none⟩)), (49, .int .i64 ((hullP P).x0)), (50, .bool (((rget P i).x0) == ((hullP P).x0))), (54, .slice (some ⟨g2, 0, none⟩) k3 cp4), (55, .int .i64 (i : Int)), (56, .pointer (some ⟨g2, i * 4, none⟩)), (57, .pointer (some ⟨g2, i * 4 + 2, none⟩)), (58, .int .i64 ((rget P i).x1)), (59, .pointer (some ⟨b34, 2, none⟩)), (60, .int .i64 ((hullP P).x1)), (61, .bool (((rget P i).x1) == ((hullP P).x1)))] ?_
    refine cont_recast 40 (.int .i64 (IntKind.i64.wrap ((i : Int) + 1))) (.int .i64 ((i : Int) + 1)) rfl (wrapI (by omega) (by omega)) ?_
    refine bS [0] 3 0 [(3, .slice A1 k3 cp4), (5, .slice A26 k28 cp29), (6, .pointer (some ⟨b34, 0, none⟩)), (7, .bool (((rget P i).x0) == ((hullP P).x0))), (8, .bool (((rget P i).x1) == ((hullP P).x1))), (9, .int .i64 ((i : Int) + 1)), (43, .slice (some ⟨g2, 0, none⟩) k3 cp4), (44, .int .i64 (i : Int)), (45, .pointer (some ⟨g2, i * 4, none⟩)), (46, .pointer (some ⟨g2, i * 4, none⟩)), (47, .int .i64 ((rget P i).x0)), (48, .pointer (some ⟨b34, 0, none⟩)), (49, .int .i64 ((hullP P).x0)), (50, .bool (((rget P i).x0) == ((hullP P).x0))), (54, .slice (some ⟨g2, 0, none⟩) k3 cp4), (55, .int .i64 (i : Int)), (56, .pointer (some ⟨g2, i * 4, none⟩)), (57, .pointer (some ⟨g2, i * 4 + 2, none⟩)), (58, .int .i64 ((rget P i).x1)), (59, .pointer (some ⟨b34, 2, none⟩)), (60, .int .i64 ((hullP P).x1)), (61, .bool (((rget P i).x1) == ((hullP P).x1)))] ?_
    refine cont_done ?_
    refine then_normal ?_
    refine cont_recast 7 (.bool (((rget P i).x0) == ((hullP P).x0))) (.bool (touchS Rect.x0 (hullP P).x0 (P.take (i + 1)))) rfl (congrArg (Value.bool) (by rw [← touchS_put (by omega), c37_]; first | rfl | (rw [Bool.false_or]))) ?_
    refine cont_recast 8 (.bool (((rget P i).x1) == ((hullP P).x1))) (.bool (touchS Rect.x1 (hullP P).x1 (P.take (i + 1)))) rfl (congrArg (Value.bool) (by rw [← touchS_put (by omega), c39_]; first | rfl | (rw [Bool.false_or]))) ?_
    refine cont_again (i + 1) (show (i + 1) ≤ k3 from (by omega)) (show k3 - (i + 1) < k3 - i from by omega) (by kernel_rfl) (by kernel_rfl)
  replace c36_ := of_decide_eq_false c36_
  refine cont_false rfl ?_
  refine cont_exit ?_
  refine then_exit ?_
  refine then_exit ?_
  refine blk_exit ?_
  refine then_normal ?_
  refine cont_seq ?_
  refine cont_recast 7 (.bool (touchS Rect.x0 (hullP P).x0 (P.take i))) (.bool (touchS Rect.x0 (hullP P).x0 P)) rfl (congrArg (Value.bool) (by rw [show i = k3 by omega, List.take_of_length_le (by omega)])) ?_
  refine cont_recast 8 (.bool (touchS Rect.x1 (hullP P).x1 (P.take i))) (.bool (touchS Rect.x1 (hullP P).x1 P)) rfl (congrArg (Value.bool) (by rw [show i = k3 by omega, List.take_of_length_le (by omega)])) ?_
  refine cont_norm [(3, .slice A1 k3 cp4), (5, .slice A26 k28 cp29), (6, .pointer (some ⟨b34, 0, none⟩)), (7, .bool (touchS Rect.x0 (hullP P).x0 P)), (8, .bool (touchS Rect.x1 (hullP P).x1 P)), (9, .int .i64 (i : Int)), (38, .bool false)] [.cells b34 [.int .i64 ((hullP P).x0), .int .i64 ((hullP P).y0), .int .i64 ((hullP P).x1), .int .i64 ((hullP P).y1)] 25 true, .gen (rowE (A26) g27 k28 cp29 25 4 (rvals [hullP P]) true), .gen (rowE (A9) g10 k11 cp12 25 4 (rvals (keepL hullP P 0)) true), .gen (rowE (A1) g2 k3 cp4 25 4 (rvals P) true), .gen (rdE (A) g o n 4 (rvals xs))] (by kernel_rfl) rfl ?_
  refine drawn_enter 34 [] rfl (by kernel_rfl) ?_
  refine takes 0 [] [(0, 0), (1, 0)] 32 [1, 0] [(3, .slice A1 k3 cp4), (5, .slice A26 k28 cp29), (6, .pointer (some ⟨b34, 0, none⟩)), (8, .bool (touchS Rect.x1 (hullP P).x1 P)), (64, .bool (touchS Rect.x0 (hullP P).x0 P))] (by kernel_rfl) (pok_then pok_body) (by kernel_rfl) rfl rfl (by kernel_rfl) (by kernel_rfl) ?_
  refine cont_recast 64 (.bool (touchS Rect.x0 (hullP P).x0 P)) (.bool true) rfl (congrArg Value.bool (touchS_all (hull_of hP.ne (by omega)).x0)) ?_
  refine takes 0 [] [(2, 0), (3, 0), (4, 0)] 29 [4, 3, 2, 1, 0] [(3, .slice A1 k3 cp4), (5, .slice A26 k28 cp29), (6, .pointer (some ⟨b34, 0, none⟩)), (67, .bool (touchS Rect.x1 (hullP P).x1 P))] (by kernel_rfl) (pok_then pok_body) (by kernel_rfl) rfl rfl (by kernel_rfl) (by kernel_rfl) ?_
  refine cont_recast 67 (.bool (touchS Rect.x1 (hullP P).x1 P)) (.bool true) rfl (congrArg Value.bool (touchS_all (hull_of hP.ne (by omega)).x1)) ?_
  refine takes 0 [] [(5, 0), (9, 0)] 27 [9, 5, 4, 3, 2, 1, 0] [(3, .slice A1 k3 cp4), (5, .slice A26 k28 cp29), (6, .pointer (some ⟨b34, 0, none⟩)), (67, .bool true), (68, .slice A1 k3 cp4), (72, .pointer (some ⟨b34, 1, none⟩))] (by kernel_rfl) (pok_then pok_body) (by kernel_rfl) rfl rfl (by kernel_rfl) (by kernel_rfl) ?_
  refine cont_recast 68 (.slice A1 k3 cp4) (.slice (some ⟨g2, 0, none⟩) k3 cp4) rfl (by rw [hr7_a (by omega)]) ?_
  refine sem_take 0 [] 6 26 69 (Instr.indexAt 22 (.slice (some ⟨g2, 0, none⟩) k3 cp4) (.int .i64 0)) (.pointer (some ⟨g2, 0 * 4, none⟩)) (by kernel_rfl) (pok_then pok_body) (by kernel_rfl) rfl (by kernel_rfl) (by kernel_rfl) (fun w hT => run_indexAt (e := 25) (sz := 4) _ (by kernel_rfl) (by kernel_rfl) (by omega) (by omega) (by omega) w) ?_
  refine takes 0 [] [(7, 0), (10, 0)] 24 [10, 7, 6, 9, 5, 4, 3, 2, 1, 0] [(3, .slice A1 k3 cp4), (5, .slice A26 k28 cp29), (6, .pointer (some ⟨b34, 0, none⟩)), (67, .bool true), (70, .pointer (some ⟨g2, 0 * 4 + 1, none⟩)), (73, .int .i64 ((hullP P).y0))] (by kernel_rfl) (pok_then pok_body) (by kernel_rfl) rfl rfl (by kernel_rfl) (by kernel_rfl) ?_
  refine sem_take 0 [] 8 23 71 (Instr.loadAt 3 (.pointer (some ⟨g2, 0 * 4 + 1, none⟩))) (.int .i64 ((rget P 0).y0)) (by kernel_rfl) (pok_then pok_body) (by kernel_rfl) rfl (by kernel_rfl) (by kernel_rfl) (fun w hT => run_load1 (by kernel_rfl) (Rd.cellF0 (Row.rd (hT 3 _ rfl)) 0 1 _ (by omega) rfl)) ?_
  refine takes 0 [] [(11, 0), (12, 0), (13, 0)] 20 [13, 12, 11, 8, 10, 7, 6, 9, 5, 4, 3, 2, 1, 0] [(3, .slice A1 k3 cp4), (5, .slice A26 k28 cp29), (6, .pointer (some ⟨b34, 0, none⟩)), (76, .bool (((rget P 0).y0) == ((hullP P).y0)))] (by kernel_rfl) (pok_then pok_body) (by kernel_rfl) rfl rfl (by kernel_rfl) (by kernel_rfl) ?_
  refine cont_recast 76 (.bool (((rget P 0).y0) == ((hullP P).y0))) (.bool true) rfl (congrArg Value.bool (by rw [(hull_ends hP (by omega)).1]; exact beq_self_eq_true _)) ?_
  refine takes 0 [] [(14, 0), (15, 0), (21, 0), (16, 0), (22, 0), (17, 0)] 14 [17, 22, 16, 21, 15, 14, 13, 12, 11, 8, 10, 7, 6, 9, 5, 4, 3, 2, 1, 0] [(3, .slice A1 k3 cp4), (5, .slice A26 k28 cp29), (76, .bool true), (77, .slice A1 k3 cp4), (80, .int .i64 (IntKind.i64.wrap ((k3 : Int) - 1))), (85, .int .i64 ((hullP P).y1))] (by kernel_rfl) (pok_then pok_body) (by kernel_rfl) rfl rfl (by kernel_rfl) (by kernel_rfl) ?_
  refine cont_recast 80 (.int .i64 (IntKind.i64.wrap ((k3 : Int) - 1))) (.int .i64 ((k3 - 1 : Nat) : Int)) rfl (by rw [show ((k3 - 1 : Nat) : Int) = (k3 : Int) - 1 by omega]; exact wrapI (by omega) (by omega)) ?_
  refine cont_recast 77 (.slice A1 k3 cp4) (.slice (some ⟨g2, 0, none⟩) k3 cp4) rfl (by rw [hr7_a (by omega)]) ?_
  refine sem_take 0 [] 18 13 81 (Instr.indexAt 22 (.slice (some ⟨g2, 0, none⟩) k3 cp4) (.int .i64 ((k3 - 1 : Nat) : Int))) (.pointer (some ⟨g2, (k3 - 1 : Nat) * 4, none⟩)) (by kernel_rfl) (pok_then pok_body) (by kernel_rfl) rfl (by kernel_rfl) (by kernel_rfl) (fun w hT => run_indexAt (e := 25) (sz := 4) _ (by kernel_rfl) (by kernel_rfl) (by omega) (by omega) (by omega) w) ?_
  refine takes 0 [] [(19, 0)] 12 [19, 18, 17, 22, 16, 21, 15, 14, 13, 12, 11, 8, 10, 7, 6, 9, 5, 4, 3, 2, 1, 0] [(3, .slice A1 k3 cp4), (5, .slice A26 k28 cp29), (76, .bool true), (82, .pointer (some ⟨g2, (k3 - 1 : Nat) * 4 + 3, none⟩)), (85, .int .i64 ((hullP P).y1))] (by kernel_rfl) (pok_then pok_body) (by kernel_rfl) rfl rfl (by kernel_rfl) (by kernel_rfl) ?_
  refine sem_take 0 [] 20 11 83 (Instr.loadAt 3 (.pointer (some ⟨g2, (k3 - 1 : Nat) * 4 + 3, none⟩))) (.int .i64 ((rget P (k3 - 1 : Nat)).y1)) (by kernel_rfl) (pok_then pok_body) (by kernel_rfl) rfl (by kernel_rfl) (by kernel_rfl) (fun w hT => run_load1 (by kernel_rfl) (Rd.cellF0 (Row.rd (hT 3 _ rfl)) (k3 - 1 : Nat) 3 _ (by omega) rfl)) ?_
  refine takes 0 [] [(23, 0), (24, 0), (25, 0)] 8 [25, 24, 23, 20, 19, 18, 17, 22, 16, 21, 15, 14, 13, 12, 11, 8, 10, 7, 6, 9, 5, 4, 3, 2, 1, 0] [(3, .slice A1 k3 cp4), (5, .slice A26 k28 cp29), (88, .bool (((rget P (k3 - 1 : Nat)).y1) == ((hullP P).y1)))] (by kernel_rfl) (pok_then pok_body) (by kernel_rfl) rfl rfl (by kernel_rfl) (by kernel_rfl) ?_
  refine cont_recast 88 (.bool (((rget P (k3 - 1 : Nat)).y1) == ((hullP P).y1))) (.bool true) rfl (congrArg Value.bool (by have h_ := (hull_ends hP (by omega)).2; rw [show P.length = k3 by omega] at h_; rw [h_]; exact beq_self_eq_true _)) ?_
  refine takes 0 [] [(26, 0), (27, 0)] 6 [27, 26, 25, 24, 23, 20, 19, 18, 17, 22, 16, 21, 15, 14, 13, 12, 11, 8, 10, 7, 6, 9, 5, 4, 3, 2, 1, 0] [(88, .bool true), (89, .slice A26 k28 cp29), (90, .slice A1 k3 cp4)] (by kernel_rfl) (pok_then pok_body) (by kernel_rfl) rfl rfl (by kernel_rfl) (by kernel_rfl) ?_
  refine drawn_one 28 5 rfl (by kernel_rfl) ?_
  refine call_pure (d := 91) (.bool (decide (regM lessB P [hullP P] = []))) (by kernel_rfl) (fun w hT => regCovers A26 g27 0 k28 cp29 [hullP P] A1 g2 0 k3 cp4 P w (hT.viewRo (.cons (i := 1) rfl Vw.rowRd (.cons (i := 3) rfl Vw.rowRd .nil)) rfl) (by omega)) ?_
  refine drawn_next 0 [] (by kernel_rfl) ?_
  refine takes 0 [] [(29, 0), (30, 0)] 3 [30, 29, 28, 27, 26, 25, 24, 23, 20, 19, 18, 17, 22, 16, 21, 15, 14, 13, 12, 11, 8, 10, 7, 6, 9, 5, 4, 3, 2, 1, 0] [(93, .bool (decide (regM lessB P [hullP P] = [])))] (by kernel_rfl) (pok_then pok_body) (by kernel_rfl) rfl rfl (by kernel_rfl) (by kernel_rfl) ?_
  refine cont_recast 93 (.bool (decide (regM lessB P [hullP P] = []))) (.bool true) rfl (congrArg Value.bool (decide_eq_true (by rw [← keepL_one (f := hullP) (l := P) (n := 1) (by omega) (by omega)]; exact keep_covers hP.ne (by omega)))) ?_
  refine drawn_one 31 2 rfl (by kernel_rfl) ?_
  refine call_pure (d := 94) (.bool true) (by kernel_rfl) (fun w hT => lives2  w) ?_
  refine drawn_next 0 [] (by kernel_rfl) ?_
  refine takes 0 [] [(32, 0), (33, 0)] 0 [33, 32, 31, 30, 29, 28, 27, 26, 25, 24, 23, 20, 19, 18, 17, 22, 16, 21, 15, 14, 13, 12, 11, 8, 10, 7, 6, 9, 5, 4, 3, 2, 1, 0] [(2, .bool true)] (by kernel_rfl) (pok_then pok_body) (by kernel_rfl) rfl rfl (by kernel_rfl) (by kernel_rfl) ?_
  refine drawn_done (by kernel_rfl) ?_
  refine then_normal ?_
  refine cont_ret ?_
  refine ret_one (.inl rfl) rfl 0 (.bool true) (by kernel_rfl) (by kernel_rfl) (fun w hT => ?_)
  exact ⟨rfl, hT.post rfl⟩

end Go.Proofs.Ytimpjdfflffcfaa
