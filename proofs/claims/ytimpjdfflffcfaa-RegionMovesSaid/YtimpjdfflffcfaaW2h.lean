/- Contracts of functions of the given program, printed by a program of this project. -/
import Derived.Test.YtimpjdfflffcfaaL2f
import Derived.Test.YtimpjdfflffcfaaProg
set_option linter.unusedVariables false
set_option linter.unusedSimpArgs false
namespace Go.Proofs.Ytimpjdfflffcfaa
open Go Go.RowKit
set_option maxRecDepth 100000
set_option maxHeartbeats 8000000

theorem walkRegionMovesA (A : Option Addr) (g o n cap : Nat) (xs : List Rect) (dx dy m : Int) (w : World) (hr : Rd w A g o n 4 (rvals xs)) (hl : xs.length = n) (hc : n ≤ cap) (hm : cap ≤ maxLen) (hx : ∀ r ∈ xs, R64 r) (hdx : -9223372036854775808 ≤ dx ∧ dx ≤ 9223372036854775807) (hdy : -9223372036854775808 ≤ dy ∧ dy ≤ 9223372036854775807) (hmm : -9223372036854775808 ≤ m ∧ m ≤ 9223372036854775807) (hkc : ((canR (smallL xs 8)).length : Int) ≤ m) :
    Calls Try.prog 11 #[.slice A n cap, .int .i64 dx, .int .i64 dy, .int .i64 m] w fun e w' => e = .returned (.bool true) ∧ Below w.heap.size w w' := by
  unfold maxLen at hm
  refine enter 111 [(0, .slice A n cap), (1, .int .i64 dx), (2, .int .i64 dy), (3, .int .i64 m)] [.gen (rdE (A) g o n 4 (rvals xs))] Try.func11 rfl Try.ntmps11 rfl (by kernel_rfl) hr.tab ?_
  refine cont_seq ?_
  refine cont_region 1 rfl ?_
  refine bS [0] 1 0 [(0, .slice A n cap), (1, .int .i64 dx), (2, .int .i64 dy), (3, .int .i64 m)] ?_
  refine cont_done ?_
  refine then_normal ?_
  refine cont_seq ?_
  refine cont_region 3 rfl ?_
  refine bS [0] 1 2 [(1, .int .i64 dx), (2, .int .i64 dy), (3, .int .i64 m), (19, .slice A n cap)] ?_
  refine pl_step 2 1 rfl rfl ?_
  refine call_gen (d := 20) (α := Option Addr × Nat × Nat × Nat) (fun x_ => .slice x_.1 x_.2.2.1 x_.2.2.2) (fun x_ => [.gen (rowE (x_.1) x_.2.1 x_.2.2.1 x_.2.2.2 25 4 (rvals (canR (smallL xs 8))) true), .gen (rdE (A) g o n 4 (rvals xs))]) (fun x_ => True) (by kernel_rfl) (fun w hT => (refGood A g o n cap xs w (hT.viewRo (.cons (i := 0) rfl Vw.rd .nil) rfl) hx).mono fun e w' ⟨A1, g2, k3, cp4, he_, ht_⟩ => ⟨(A1, g2, k3, cp4), he_, trivial, hT.news ht_ rfl⟩) ?_
  rintro ⟨A1, g2, k3, cp4⟩ hf5_
  refine cont_norm [(1, .int .i64 dx), (2, .int .i64 dy), (3, .int .i64 m), (19, .slice A n cap), (20, .slice A1 k3 cp4)] [.gen (rowE (A1) g2 k3 cp4 25 4 (rvals (canR (smallL xs 8))) true), .gen (rdE (A) g o n 4 (rvals xs))] (by kernel_rfl) rfl ?_
  refine cont_fact (F := (0 < k3 → (A1 : Option Addr) = some ⟨g2, 0, none⟩) ∧ (canR (smallL xs 8)).length = k3 ∧ k3 ≤ cp4 ∧ cp4 ≤ maxLen) (fun w hT => Row.factsR (hT.ok 0 _ rfl)) (fun hr6_ => ?_)
  obtain ⟨hr6_a, hr6_l, hr6_c, hr6_m⟩ := hr6_
  unfold maxLen at hr6_m
  obtain ⟨P, hP⟩ : ∃ y_ : List Rect, y_ = (canR (smallL xs 8)) := ⟨_, rfl⟩
  refine cont_rowEqR 0 (canR (smallL xs 8)) (P) rfl hP.symm ?_
  have hkP : (P.length : Int) ≤ m := by rw [hP]; exact hkc
  have hgP : Good P := by rw [hP]; exact Good.of _ _
  clear hP
  have hP := hgP
  have hlP_ := hP.len
  refine cont_fact (F := (0 < k3 → (A1 : Option Addr) = some ⟨g2, 0, none⟩) ∧ P.length = k3 ∧ k3 ≤ cp4 ∧ cp4 ≤ maxLen) (fun w hT => Row.factsR (hT.ok 0 _ rfl)) (fun hr7_ => ?_)
  obtain ⟨hr7_a, hr7_l, hr7_c, hr7_m⟩ := hr7_
  unfold maxLen at hr7_m
  have hmv : ∀ r ∈ P, moveP dx dy r = moveD dx dy r := fun r hr => move_same (boxed_rects hP.reg hP.box r hr)
  refine bS [0] 3 0 [(1, .int .i64 dx), (2, .int .i64 dy), (3, .int .i64 m), (9, .slice A1 k3 cp4)] ?_
  refine cont_done ?_
  refine then_normal ?_
  refine cont_seq ?_
  refine cont_region 9 rfl ?_
  refine bS [0, 0, 0] 3 6 [(1, .int .i64 dx), (2, .int .i64 dy), (3, .int .i64 m), (9, .slice A1 k3 cp4), (22, .slice A1 k3 cp4), (23, .int .i64 dx), (24, .int .i64 dy)] ?_
  refine pl_step 4 5 rfl rfl ?_
  have hel8_ := eachR_length (moveP dx dy) P
  refine call_gen (d := 25) (α := Option Addr × Nat × Nat × Nat) (fun x_ => .tuple #[.slice x_.1 x_.2.2.1 x_.2.2.2, .int .i64 (eachE (moveP dx dy) P)]) (fun x_ => [.gen (rowE (x_.1) x_.2.1 x_.2.2.1 x_.2.2.2 25 4 (rvals (eachR (moveP dx dy) P)) true), .gen (rowE (A1) g2 k3 cp4 25 4 (rvals P) true), .gen (rdE (A) g o n 4 (rvals xs))]) (fun x_ => True) (by kernel_rfl) (fun w hT => (regMove A1 g2 0 k3 cp4 P dx dy w (hT.viewRo (.cons (i := 0) rfl Vw.rowRd .nil) rfl) hP.far (by omega)).mono fun e w' ⟨A9, g10, k11, cp12, he_, ht_⟩ => ⟨(A9, g10, k11, cp12), he_, trivial, hT.news ht_ rfl⟩) ?_
  rintro ⟨A9, g10, k11, cp12⟩ hf13_
  refine cont_norm [(1, .int .i64 dx), (2, .int .i64 dy), (3, .int .i64 m), (9, .slice A1 k3 cp4), (22, .slice A1 k3 cp4), (23, .int .i64 dx), (24, .int .i64 dy), (25, .tuple #[.slice A9 k11 cp12, .int .i64 (eachE (moveP dx dy) P)])] [.gen (rowE (A9) g10 k11 cp12 25 4 (rvals (eachR (moveP dx dy) P)) true), .gen (rowE (A1) g2 k3 cp4 25 4 (rvals P) true), .gen (rdE (A) g o n 4 (rvals xs))] (by kernel_rfl) rfl ?_
  refine cont_fact (F := (0 < k11 → (A9 : Option Addr) = some ⟨g10, 0, none⟩) ∧ (eachR (moveP dx dy) P).length = k11 ∧ k11 ≤ cp12 ∧ cp12 ≤ maxLen) (fun w hT => Row.factsR (hT.ok 0 _ rfl)) (fun hr14_ => ?_)
  obtain ⟨hr14_a, hr14_l, hr14_c, hr14_m⟩ := hr14_
  unfold maxLen at hr14_m
  refine bS [0, 0, 0, 0, 0] 9 0 [(1, .int .i64 dx), (2, .int .i64 dy), (3, .int .i64 m), (9, .slice A1 k3 cp4), (10, .slice A9 k11 cp12), (11, .int .i64 (eachE (moveP dx dy) P))] ?_
  refine cont_done ?_
  refine then_normal ?_
  refine cont_seq ?_
  refine cont_region 9 rfl ?_
  refine bS [0, 0, 0] 3 6 [(3, .int .i64 m), (9, .slice A1 k3 cp4), (10, .slice A9 k11 cp12), (11, .int .i64 (eachE (moveP dx dy) P)), (29, .slice A1 k3 cp4), (30, .int .i64 dx), (31, .int .i64 dy)] ?_
  refine pl_step 4 5 rfl rfl ?_
  have hel15_ := eachR_length (moveD dx dy) P
  refine call_gen (d := 32) (α := Option Addr × Nat × Nat × Nat) (fun x_ => .tuple #[.slice x_.1 x_.2.2.1 x_.2.2.2, .int .i64 (eachE (moveD dx dy) P)]) (fun x_ => [.gen (rowE (x_.1) x_.2.1 x_.2.2.1 x_.2.2.2 25 4 (rvals (eachR (moveD dx dy) P)) true), .gen (rowE (A9) g10 k11 cp12 25 4 (rvals (eachR (moveP dx dy) P)) true), .gen (rowE (A1) g2 k3 cp4 25 4 (rvals P) true), .gen (rdE (A) g o n 4 (rvals xs))]) (fun x_ => True) (by kernel_rfl) (fun w hT => (refMoveL A1 g2 0 k3 cp4 P dx dy w (hT.viewRo (.cons (i := 1) rfl Vw.rowRd .nil) rfl) hP.far (by omega)).mono fun e w' ⟨A16, g17, k18, cp19, he_, ht_⟩ => ⟨(A16, g17, k18, cp19), he_, trivial, hT.news ht_ rfl⟩) ?_
  rintro ⟨A16, g17, k18, cp19⟩ hf20_
  refine cont_norm [(3, .int .i64 m), (9, .slice A1 k3 cp4), (10, .slice A9 k11 cp12), (11, .int .i64 (eachE (moveP dx dy) P)), (29, .slice A1 k3 cp4), (30, .int .i64 dx), (31, .int .i64 dy), (32, .tuple #[.slice A16 k18 cp19, .int .i64 (eachE (moveD dx dy) P)])] [.gen (rowE (A16) g17 k18 cp19 25 4 (rvals (eachR (moveD dx dy) P)) true), .gen (rowE (A9) g10 k11 cp12 25 4 (rvals (eachR (moveP dx dy) P)) true), .gen (rowE (A1) g2 k3 cp4 25 4 (rvals P) true), .gen (rdE (A) g o n 4 (rvals xs))] (by kernel_rfl) rfl ?_
  refine cont_fact (F := (0 < k18 → (A16 : Option Addr) = some ⟨g17, 0, none⟩) ∧ (eachR (moveD dx dy) P).length = k18 ∧ k18 ≤ cp19 ∧ cp19 ≤ maxLen) (fun w hT => Row.factsR (hT.ok 0 _ rfl)) (fun hr21_ => ?_)
  obtain ⟨hr21_a, hr21_l, hr21_c, hr21_m⟩ := hr21_
  unfold maxLen at hr21_m
  refine bS [0, 0, 0, 0, 0] 9 0 [(3, .int .i64 m), (9, .slice A1 k3 cp4), (10, .slice A9 k11 cp12), (11, .int .i64 (eachE (moveP dx dy) P)), (12, .slice A16 k18 cp19), (13, .int .i64 (eachE (moveD dx dy) P))] ?_
  refine cont_done ?_
  refine then_normal ?_
  refine cont_seq ?_
  refine cont_region 8 rfl ?_
  refine bS [0, 0] 2 6 [(3, .int .i64 m), (9, .slice A1 k3 cp4), (10, .slice A9 k11 cp12), (11, .int .i64 (eachE (moveP dx dy) P)), (12, .slice A16 k18 cp19), (13, .int .i64 (eachE (moveD dx dy) P)), (36, .slice A1 k3 cp4), (37, .int .i64 m)] ?_
  refine pl_step 3 5 rfl rfl ?_
  have hel22_ := eachR_length (scaleR m) P
  refine call_gen (d := 38) (α := Option Addr × Nat × Nat × Nat) (fun x_ => .tuple #[.slice x_.1 x_.2.2.1 x_.2.2.2, .int .i64 (scaleE m P)]) (fun x_ => [.gen (rowE (x_.1) x_.2.1 x_.2.2.1 x_.2.2.2 25 4 (rvals (eachR (scaleR m) P)) true), .gen (rowE (A16) g17 k18 cp19 25 4 (rvals (eachR (moveD dx dy) P)) true), .gen (rowE (A9) g10 k11 cp12 25 4 (rvals (eachR (moveP dx dy) P)) true), .gen (rowE (A1) g2 k3 cp4 25 4 (rvals P) true), .gen (rdE (A) g o n 4 (rvals xs))]) (fun x_ => True) (by kernel_rfl) (fun w hT => (regScale A1 g2 0 k3 cp4 P m w (hT.viewRo (.cons (i := 2) rfl Vw.rowRd .nil) rfl) hP.far (by omega)).mono fun e w' ⟨A23, g24, k25, cp26, he_, ht_⟩ => ⟨(A23, g24, k25, cp26), he_, trivial, hT.news ht_ rfl⟩) ?_
  rintro ⟨A23, g24, k25, cp26⟩ hf27_
  refine cont_norm [(3, .int .i64 m), (9, .slice A1 k3 cp4), (10, .slice A9 k11 cp12), (11, .int .i64 (eachE (moveP dx dy) P)), (12, .slice A16 k18 cp19), (13, .int .i64 (eachE (moveD dx dy) P)), (36, .slice A1 k3 cp4), (37, .int .i64 m), (38, .tuple #[.slice A23 k25 cp26, .int .i64 (scaleE m P)])] [.gen (rowE (A23) g24 k25 cp26 25 4 (rvals (eachR (scaleR m) P)) true), .gen (rowE (A16) g17 k18 cp19 25 4 (rvals (eachR (moveD dx dy) P)) true), .gen (rowE (A9) g10 k11 cp12 25 4 (rvals (eachR (moveP dx dy) P)) true), .gen (rowE (A1) g2 k3 cp4 25 4 (rvals P) true), .gen (rdE (A) g o n 4 (rvals xs))] (by kernel_rfl) rfl ?_
  refine cont_fact (F := (0 < k25 → (A23 : Option Addr) = some ⟨g24, 0, none⟩) ∧ (eachR (scaleR m) P).length = k25 ∧ k25 ≤ cp26 ∧ cp26 ≤ maxLen) (fun w hT => Row.factsR (hT.ok 0 _ rfl)) (fun hr28_ => ?_)
  obtain ⟨hr28_a, hr28_l, hr28_c, hr28_m⟩ := hr28_
  unfold maxLen at hr28_m
  refine bS [0, 0, 0, 0, 0] 8 0 [(3, .int .i64 m), (9, .slice A1 k3 cp4), (10, .slice A9 k11 cp12), (11, .int .i64 (eachE (moveP dx dy) P)), (12, .slice A16 k18 cp19), (13, .int .i64 (eachE (moveD dx dy) P)), (14, .slice A23 k25 cp26), (15, .int .i64 (scaleE m P))] ?_
  refine cont_done ?_
  refine then_normal ?_
  refine cont_seq ?_
  refine cont_region 8 rfl ?_
  refine bS [0, 0] 2 6 [(3, .int .i64 m), (9, .slice A1 k3 cp4), (10, .slice A9 k11 cp12), (11, .int .i64 (eachE (moveP dx dy) P)), (12, .slice A16 k18 cp19), (13, .int .i64 (eachE (moveD dx dy) P)), (14, .slice A23 k25 cp26), (15, .int .i64 (scaleE m P)), (42, .slice A1 k3 cp4), (43, .int .i64 m)] ?_
  refine pl_step 3 5 rfl rfl ?_
  have hel29_ := eachR_length (scaleR m) P
  refine call_gen (d := 44) (α := Option Addr × Nat × Nat × Nat) (fun x_ => .tuple #[.slice x_.1 x_.2.2.1 x_.2.2.2, .int .i64 (scaleE m P)]) (fun x_ => [.gen (rowE (x_.1) x_.2.1 x_.2.2.1 x_.2.2.2 25 4 (rvals (eachR (scaleR m) P)) true), .gen (rowE (A23) g24 k25 cp26 25 4 (rvals (eachR (scaleR m) P)) true), .gen (rowE (A16) g17 k18 cp19 25 4 (rvals (eachR (moveD dx dy) P)) true), .gen (rowE (A9) g10 k11 cp12 25 4 (rvals (eachR (moveP dx dy) P)) true), .gen (rowE (A1) g2 k3 cp4 25 4 (rvals P) true), .gen (rdE (A) g o n 4 (rvals xs))]) (fun x_ => True) (by kernel_rfl) (fun w hT => (refScaleL A1 g2 0 k3 cp4 P m w (hT.viewRo (.cons (i := 3) rfl Vw.rowRd .nil) rfl) hP.far (by omega)).mono fun e w' ⟨A30, g31, k32, cp33, he_, ht_⟩ => ⟨(A30, g31, k32, cp33), he_, trivial, hT.news ht_ rfl⟩) ?_
  rintro ⟨A30, g31, k32, cp33⟩ hf34_
  refine cont_norm [(3, .int .i64 m), (9, .slice A1 k3 cp4), (10, .slice A9 k11 cp12), (11, .int .i64 (eachE (moveP dx dy) P)), (12, .slice A16 k18 cp19), (13, .int .i64 (eachE (moveD dx dy) P)), (14, .slice A23 k25 cp26), (15, .int .i64 (scaleE m P)), (42, .slice A1 k3 cp4), (43, .int .i64 m), (44, .tuple #[.slice A30 k32 cp33, .int .i64 (scaleE m P)])] [.gen (rowE (A30) g31 k32 cp33 25 4 (rvals (eachR (scaleR m) P)) true), .gen (rowE (A23) g24 k25 cp26 25 4 (rvals (eachR (scaleR m) P)) true), .gen (rowE (A16) g17 k18 cp19 25 4 (rvals (eachR (moveD dx dy) P)) true), .gen (rowE (A9) g10 k11 cp12 25 4 (rvals (eachR (moveP dx dy) P)) true), .gen (rowE (A1) g2 k3 cp4 25 4 (rvals P) true), .gen (rdE (A) g o n 4 (rvals xs))] (by kernel_rfl) rfl ?_
  refine cont_fact (F := (0 < k32 → (A30 : Option Addr) = some ⟨g31, 0, none⟩) ∧ (eachR (scaleR m) P).length = k32 ∧ k32 ≤ cp33 ∧ cp33 ≤ maxLen) (fun w hT => Row.factsR (hT.ok 0 _ rfl)) (fun hr35_ => ?_)
  obtain ⟨hr35_a, hr35_l, hr35_c, hr35_m⟩ := hr35_
  unfold maxLen at hr35_m
  refine bS [0, 0, 0, 0, 0] 8 0 [(3, .int .i64 m), (9, .slice A1 k3 cp4), (10, .slice A9 k11 cp12), (11, .int .i64 (eachE (moveP dx dy) P)), (12, .slice A16 k18 cp19), (13, .int .i64 (eachE (moveD dx dy) P)), (14, .slice A23 k25 cp26), (15, .int .i64 (scaleE m P)), (16, .slice A30 k32 cp33), (17, .int .i64 (scaleE m P))] ?_
  refine cont_done ?_
  refine then_normal ?_
  refine cont_seq ?_
  refine cont_region 4 rfl ?_
  refine bS [0, 0] 2 2 [(3, .int .i64 m), (9, .slice A1 k3 cp4), (10, .slice A9 k11 cp12), (11, .int .i64 (eachE (moveP dx dy) P)), (12, .slice A16 k18 cp19), (13, .int .i64 (eachE (moveD dx dy) P)), (14, .slice A23 k25 cp26), (15, .int .i64 (scaleE m P)), (16, .slice A30 k32 cp33), (17, .int .i64 (scaleE m P)), (47, .slice A1 k3 cp4), (48, .int .i64 m)] ?_
  refine pl_step 3 1 rfl rfl ?_
  have hkl36_ := keepL_length hullP P m
  refine call_gen (d := 49) (α := Option Addr × Nat × Nat × Nat) (fun x_ => .slice x_.1 x_.2.2.1 x_.2.2.2) (fun x_ => [.gen (rowE (x_.1) x_.2.1 x_.2.2.1 x_.2.2.2 25 4 (rvals (keepL hullP P m)) true), .gen (rowE (A30) g31 k32 cp33 25 4 (rvals (eachR (scaleR m) P)) true), .gen (rowE (A23) g24 k25 cp26 25 4 (rvals (eachR (scaleR m) P)) true), .gen (rowE (A16) g17 k18 cp19 25 4 (rvals (eachR (moveD dx dy) P)) true), .gen (rowE (A9) g10 k11 cp12 25 4 (rvals (eachR (moveP dx dy) P)) true), .gen (rowE (A1) g2 k3 cp4 25 4 (rvals P) true), .gen (rdE (A) g o n 4 (rvals xs))]) (fun x_ => True) (by kernel_rfl) (fun w hT => (regKeep A1 g2 0 k3 cp4 P m w (hT.viewRo (.cons (i := 4) rfl Vw.rowRd .nil) rfl) (by omega)).mono fun e w' ⟨A37, g38, k39, cp40, he_, ht_⟩ => ⟨(A37, g38, k39, cp40), he_, trivial, hT.news ht_ rfl⟩) ?_
  rintro ⟨A37, g38, k39, cp40⟩ hf41_
  refine cont_norm [(3, .int .i64 m), (9, .slice A1 k3 cp4), (10, .slice A9 k11 cp12), (11, .int .i64 (eachE (moveP dx dy) P)), (12, .slice A16 k18 cp19), (13, .int .i64 (eachE (moveD dx dy) P)), (14, .slice A23 k25 cp26), (15, .int .i64 (scaleE m P)), (16, .slice A30 k32 cp33), (17, .int .i64 (scaleE m P)), (47, .slice A1 k3 cp4), (48, .int .i64 m), (49, .slice A37 k39 cp40)] [.gen (rowE (A37) g38 k39 cp40 25 4 (rvals (keepL hullP P m)) true), .gen (rowE (A30) g31 k32 cp33 25 4 (rvals (eachR (scaleR m) P)) true), .gen (rowE (A23) g24 k25 cp26 25 4 (rvals (eachR (scaleR m) P)) true), .gen (rowE (A16) g17 k18 cp19 25 4 (rvals (eachR (moveD dx dy) P)) true), .gen (rowE (A9) g10 k11 cp12 25 4 (rvals (eachR (moveP dx dy) P)) true), .gen (rowE (A1) g2 k3 cp4 25 4 (rvals P) true), .gen (rdE (A) g o n 4 (rvals xs))] (by kernel_rfl) rfl ?_
  refine cont_fact (F := (0 < k39 → (A37 : Option Addr) = some ⟨g38, 0, none⟩) ∧ (keepL hullP P m).length = k39 ∧ k39 ≤ cp40 ∧ cp40 ≤ maxLen) (fun w hT => Row.factsR (hT.ok 0 _ rfl)) (fun hr42_ => ?_)
  obtain ⟨hr42_a, hr42_l, hr42_c, hr42_m⟩ := hr42_
  unfold maxLen at hr42_m
  refine bS [0] 4 0 [(3, .int .i64 m), (9, .slice A1 k3 cp4), (10, .slice A9 k11 cp12), (11, .int .i64 (eachE (moveP dx dy) P)), (12, .slice A16 k18 cp19), (13, .int .i64 (eachE (moveD dx dy) P)), (14, .slice A23 k25 cp26), (15, .int .i64 (scaleE m P)), (16, .slice A30 k32 cp33), (17, .int .i64 (scaleE m P)), (18, .slice A37 k39 cp40)] ?_
  refine cont_done ?_
  refine then_normal ?_
  refine cont_seq ?_
  refine cont_seq ?_
  refine cont_region 28 rfl ?_
  refine bS [0, 0, 0, 0] 4 24 [(3, .int .i64 m), (9, .slice A1 k3 cp4), (10, .slice A9 k11 cp12), (12, .slice A16 k18 cp19), (14, .slice A23 k25 cp26), (15, .int .i64 (scaleE m P)), (16, .slice A30 k32 cp33), (17, .int .i64 (scaleE m P)), (18, .slice A37 k39 cp40), (53, .bool ((eachE (moveP dx dy) P) != (eachE (moveD dx dy) P)))] ?_
  refine cont_recast 53 (.bool ((eachE (moveP dx dy) P) != (eachE (moveD dx dy) P))) (.bool false) rfl (congrArg Value.bool (by rw [(each_congr hmv).1]; exact bne_self_eq_false _)) ?_
  refine bS [0, 0] 6 22 [(3, .int .i64 m), (9, .slice A1 k3 cp4), (10, .slice A9 k11 cp12), (14, .slice A23 k25 cp26), (15, .int .i64 (scaleE m P)), (16, .slice A30 k32 cp33), (17, .int .i64 (scaleE m P)), (18, .slice A37 k39 cp40), (53, .bool false), (54, .slice A9 k11 cp12), (55, .slice A16 k18 cp19)] ?_
  refine pl_step 7 21 rfl rfl ?_
  refine call_pure (d := 56) (.bool (decide ((eachR (moveP dx dy) P) = (eachR (moveD dx dy) P)))) (by kernel_rfl) (fun w hT => refSame A9 g10 0 k11 cp12 (eachR (moveP dx dy) P) A16 g17 0 k18 cp19 (eachR (moveD dx dy) P) w (hT.viewRo (.cons (i := 4) rfl Vw.rowRd (.cons (i := 3) rfl Vw.rowRd .nil)) rfl) (by omega)) ?_
  refine bS [0, 0, 0] 10 18 [(3, .int .i64 m), (9, .slice A1 k3 cp4), (10, .slice A9 k11 cp12), (14, .slice A23 k25 cp26), (15, .int .i64 (scaleE m P)), (16, .slice A30 k32 cp33), (17, .int .i64 (scaleE m P)), (18, .slice A37 k39 cp40), (59, .bool (!(decide ((eachR (moveP dx dy) P) = (eachR (moveD dx dy) P)))))] ?_
  refine cont_recast 59 (.bool (!(decide ((eachR (moveP dx dy) P) = (eachR (moveD dx dy) P))))) (.bool false) rfl (congrArg Value.bool (by rw [show (decide ((eachR (moveP dx dy) P) = (eachR (moveD dx dy) P))) = true from (decide_eq_true (each_congr hmv).2)]; rfl)) ?_
  refine bS [0, 0, 0, 0, 0] 15 13 [(3, .int .i64 m), (9, .slice A1 k3 cp4), (10, .slice A9 k11 cp12), (14, .slice A23 k25 cp26), (15, .int .i64 (scaleE m P)), (16, .slice A30 k32 cp33), (18, .slice A37 k39 cp40), (64, .bool ((scaleE m P) != (scaleE m P)))] ?_
  refine cont_recast 64 (.bool ((scaleE m P) != (scaleE m P))) (.bool false) rfl (congrArg Value.bool (bne_self_eq_false _)) ?_
  refine bS [0, 0] 17 11 [(3, .int .i64 m), (9, .slice A1 k3 cp4), (10, .slice A9 k11 cp12), (14, .slice A23 k25 cp26), (15, .int .i64 (scaleE m P)), (18, .slice A37 k39 cp40), (64, .bool false), (65, .slice A23 k25 cp26), (66, .slice A30 k32 cp33)] ?_
  refine pl_step 18 10 rfl rfl ?_
  refine call_pure (d := 67) (.bool (decide ((eachR (scaleR m) P) = (eachR (scaleR m) P)))) (by kernel_rfl) (fun w hT => refSame A23 g24 0 k25 cp26 (eachR (scaleR m) P) A30 g31 0 k32 cp33 (eachR (scaleR m) P) w (hT.viewRo (.cons (i := 2) rfl Vw.rowRd (.cons (i := 1) rfl Vw.rowRd .nil)) rfl) (by omega)) ?_
  refine bS [0, 0, 0] 21 7 [(3, .int .i64 m), (9, .slice A1 k3 cp4), (10, .slice A9 k11 cp12), (14, .slice A23 k25 cp26), (15, .int .i64 (scaleE m P)), (18, .slice A37 k39 cp40), (70, .bool (!(decide ((eachR (scaleR m) P) = (eachR (scaleR m) P)))))] ?_
  refine cont_recast 70 (.bool (!(decide ((eachR (scaleR m) P) = (eachR (scaleR m) P))))) (.bool false) rfl (congrArg Value.bool (by rw [show (decide ((eachR (scaleR m) P) = (eachR (scaleR m) P))) = true from (decide_eq_true rfl)]; rfl)) ?_
  refine bS [0, 0, 0] 24 4 [(3, .int .i64 m), (9, .slice A1 k3 cp4), (10, .slice A9 k11 cp12), (14, .slice A23 k25 cp26), (15, .int .i64 (scaleE m P)), (18, .slice A37 k39 cp40), (70, .bool false), (71, .slice A37 k39 cp40), (72, .slice A1 k3 cp4), (73, .int .i64 m)] ?_
  refine pl_step 25 3 rfl rfl ?_
  have hkl47_ := keepL_length hullD P m
  refine call_pure (d := 74) (.slice A1 k3 cp4) (by kernel_rfl) (fun w hT => refKeepYes A1 g2 0 k3 cp4 P m w (hT.viewRo (.cons (i := 5) rfl Vw.rowRd .nil) rfl) (by omega) (by omega)) ?_
  refine pl_step 26 2 rfl rfl ?_
  refine call_pure (d := 75) (.bool (decide ((keepL hullP P m) = P))) (by kernel_rfl) (fun w hT => refSame A37 g38 0 k39 cp40 (keepL hullP P m) A1 g2 0 k3 cp4 P w (hT.viewRo (.cons (i := 0) rfl Vw.rowRd (.cons (i := 5) rfl Vw.rowRd .nil)) rfl) (by omega)) ?_
  refine bS [0, 0] 28 0 [(3, .int .i64 m), (9, .slice A1 k3 cp4), (10, .slice A9 k11 cp12), (14, .slice A23 k25 cp26), (15, .int .i64 (scaleE m P)), (18, .slice A37 k39 cp40), (77, .bool (!(decide ((keepL hullP P m) = P))))] ?_
  refine cont_done ?_
  refine then_normal ?_
  refine cont_recast 77 (.bool (!(decide ((keepL hullP P m) = P)))) (.bool false) rfl (congrArg Value.bool (by rw [show (decide ((keepL hullP P m) = P)) = true from (decide_eq_true (keepL_all (by omega)))]; rfl)) ?_
  refine cont_false rfl ?_
  refine cont_skip ?_
  refine then_normal ?_
  refine cont_seq ?_
  refine cont_region 34 rfl ?_
  refine bS [0, 0, 0] 3 31 [(3, .int .i64 m), (9, .slice A1 k3 cp4), (10, .slice A9 k11 cp12), (14, .slice A23 k25 cp26), (15, .int .i64 (scaleE m P)), (18, .slice A37 k39 cp40), (80, .bool (decide (m < 1)))] ?_
  refine cont_split 80 (decide (m < 1)) rfl (fun c49_ => ?_) (fun c49_ => ?_)
  ·
    replace c49_ := of_decide_eq_true c49_
    refine bS [0, 0, 0, 0, 0, 0, 0, 0] 11 23 [(3, .int .i64 m), (9, .slice A1 k3 cp4), (10, .slice A9 k11 cp12), (14, .slice A23 k25 cp26), (85, .bool true), (88, .bool ((scaleE m P) != 0))] ?_
    refine cont_split 88 ((scaleE m P) != 0) rfl (fun c50_ => ?_) (fun c50_ => ?_)
    ·
      replace c50_ := ne_of_bne c50_
      refine bS [0, 0, 0, 0, 0, 0, 0, 0, 0, 0, 0, 0, 0] 24 10 [(14, .slice A23 k25 cp26), (100, .bool true), (101, .slice A9 k11 cp12)] ?_
      refine pl_step 25 9 rfl rfl ?_
      refine call_pure (d := 102) (.bool (decide ((eachR (moveP dx dy) P) = canR (eachR (moveP dx dy) P)))) (by kernel_rfl) (fun w hT => refMayL A9 g10 0 k11 cp12 (eachR (moveP dx dy) P) w (hT.viewRo (.cons (i := 4) rfl Vw.rowRd .nil) rfl) (by omega) (by omega)) ?_
      refine bS [0, 0] 27 7 [(14, .slice A23 k25 cp26), (104, .bool (decide ((eachR (moveP dx dy) P) = canR (eachR (moveP dx dy) P))))] ?_
      refine cont_recast 104 (.bool (decide ((eachR (moveP dx dy) P) = canR (eachR (moveP dx dy) P)))) (.bool true) rfl (congrArg Value.bool (decide_eq_true (move_can hP.can.symm))) ?_
      refine bS [0] 28 6 [(104, .bool true), (105, .slice A23 k25 cp26)] ?_
      refine pl_step 29 5 rfl rfl ?_
      refine call_pure (d := 106) (.bool (decide ((eachR (scaleR m) P) = canR (eachR (scaleR m) P)))) (by kernel_rfl) (fun w hT => refMayL A23 g24 0 k25 cp26 (eachR (scaleR m) P) w (hT.viewRo (.cons (i := 2) rfl Vw.rowRd .nil) rfl) (by omega) (by omega)) ?_
      refine bS [0, 0] 31 3 [(108, .bool (decide ((eachR (scaleR m) P) = canR (eachR (scaleR m) P))))] ?_
      refine cont_recast 108 (.bool (decide ((eachR (scaleR m) P) = canR (eachR (scaleR m) P)))) (.bool true) rfl (congrArg Value.bool (decide_eq_true (scale_can hP.can.symm))) ?_
      refine pl_step 32 2 rfl rfl ?_
      refine call_pure (d := 109) (.bool true) (by kernel_rfl) (fun w hT => lives2  w) ?_
      refine bS [0, 0] 34 0 [(8, .bool true)] ?_
      refine cont_done ?_
      refine then_normal ?_
      refine cont_ret ?_
      refine ret_one (.inl rfl) rfl 0 (.bool true) (by kernel_rfl) (by kernel_rfl) (fun w hT => ?_)
      exact ⟨rfl, hT.post rfl⟩
    replace c50_ := eq_of_bne_false c50_
    have hsr_ := scaleE_range c50_
    have hsx_ := scale_area hsr_ (fun r hr => boxed_rects hP.reg hP.box r hr)
    have hfarS := hsx_.1
    have hsa := hsx_.2.1
    have hsq_ := sq_range hsr_
    have hab_ := areaL_far hfarS
    rw [hsa] at hab_
    have hel_ := eachR_length (scaleR m) P
    refine bS [0] 12 22 [(3, .int .i64 m), (9, .slice A1 k3 cp4), (10, .slice A9 k11 cp12), (14, .slice A23 k25 cp26), (85, .bool true), (88, .bool false), (89, .slice A23 k25 cp26)] ?_
    refine pl_step 13 21 rfl rfl ?_
    refine call_pure (d := 90) (.int .i64 (areaL (eachR (scaleR m) P))) (by kernel_rfl) (fun w hT => regArea A23 g24 0 k25 cp26 (eachR (scaleR m) P) w (hT.viewRo (.cons (i := 2) rfl Vw.rowRd .nil) rfl) (by assumption) (by omega)) ?_
    refine bS [0, 0, 0] 16 18 [(9, .slice A1 k3 cp4), (10, .slice A9 k11 cp12), (14, .slice A23 k25 cp26), (85, .bool true), (88, .bool false), (90, .int .i64 (areaL (eachR (scaleR m) P))), (93, .int .i64 (IntKind.i64.wrap (m * m)))] ?_
    refine cont_recast 93 (.int .i64 (IntKind.i64.wrap (m * m))) (.int .i64 (m * m)) rfl (wrapI (by omega) (by omega)) ?_
    refine bS [0] 17 17 [(10, .slice A9 k11 cp12), (14, .slice A23 k25 cp26), (85, .bool true), (88, .bool false), (90, .int .i64 (areaL (eachR (scaleR m) P))), (93, .int .i64 (m * m)), (94, .slice A1 k3 cp4)] ?_
    refine pl_step 18 16 rfl rfl ?_
    have har53_ := areaL_far hP.far
    refine call_pure (d := 95) (.int .i64 (areaL P)) (by kernel_rfl) (fun w hT => refAreaL A1 g2 0 k3 cp4 P w (hT.viewRo (.cons (i := 5) rfl Vw.rowRd .nil) rfl) hP.far (by omega)) ?_
    refine bS [0] 19 15 [(10, .slice A9 k11 cp12), (14, .slice A23 k25 cp26), (85, .bool true), (88, .bool false), (90, .int .i64 (areaL (eachR (scaleR m) P))), (96, .int .i64 (IntKind.i64.wrap ((m * m) * (areaL P))))] ?_
    refine cont_recast 96 (.int .i64 (IntKind.i64.wrap ((m * m) * (areaL P)))) (.int .i64 ((m * m) * (areaL P))) rfl (wrapI (by omega) (by omega)) ?_
    refine bS [0, 0, 0, 0] 23 11 [(10, .slice A9 k11 cp12), (14, .slice A23 k25 cp26), (100, .bool ((areaL (eachR (scaleR m) P)) == ((m * m) * (areaL P))))] ?_
    refine cont_recast 100 (.bool ((areaL (eachR (scaleR m) P)) == ((m * m) * (areaL P)))) (.bool true) rfl (congrArg Value.bool (by rw [hsa]; exact beq_self_eq_true _)) ?_
    refine bS [0] 24 10 [(14, .slice A23 k25 cp26), (100, .bool true), (101, .slice A9 k11 cp12)] ?_
    refine pl_step 25 9 rfl rfl ?_
    refine call_pure (d := 102) (.bool (decide ((eachR (moveP dx dy) P) = canR (eachR (moveP dx dy) P)))) (by kernel_rfl) (fun w hT => refMayL A9 g10 0 k11 cp12 (eachR (moveP dx dy) P) w (hT.viewRo (.cons (i := 4) rfl Vw.rowRd .nil) rfl) (by omega) (by omega)) ?_
    refine bS [0, 0] 27 7 [(14, .slice A23 k25 cp26), (104, .bool (decide ((eachR (moveP dx dy) P) = canR (eachR (moveP dx dy) P))))] ?_
    refine cont_recast 104 (.bool (decide ((eachR (moveP dx dy) P) = canR (eachR (moveP dx dy) P)))) (.bool true) rfl (congrArg Value.bool (decide_eq_true (move_can hP.can.symm))) ?_
    refine bS [0] 28 6 [(104, .bool true), (105, .slice A23 k25 cp26)] ?_
    refine pl_step 29 5 rfl rfl ?_
    refine call_pure (d := 106) (.bool (decide ((eachR (scaleR m) P) = canR (eachR (scaleR m) P)))) (by kernel_rfl) (fun w hT => refMayL A23 g24 0 k25 cp26 (eachR (scaleR m) P) w (hT.viewRo (.cons (i := 2) rfl Vw.rowRd .nil) rfl) (by omega) (by omega)) ?_
    refine bS [0, 0] 31 3 [(108, .bool (decide ((eachR (scaleR m) P) = canR (eachR (scaleR m) P))))] ?_
    refine cont_recast 108 (.bool (decide ((eachR (scaleR m) P) = canR (eachR (scaleR m) P)))) (.bool true) rfl (congrArg Value.bool (decide_eq_true (scale_can hP.can.symm))) ?_
    refine pl_step 32 2 rfl rfl ?_
    refine call_pure (d := 109) (.bool true) (by kernel_rfl) (fun w hT => lives2  w) ?_
    refine bS [0, 0] 34 0 [(8, .bool true)] ?_
    refine cont_done ?_
    refine then_normal ?_
    refine cont_ret ?_
    refine ret_one (.inl rfl) rfl 0 (.bool true) (by kernel_rfl) (by kernel_rfl) (fun w hT => ?_)
    exact ⟨rfl, hT.post rfl⟩
  replace c49_ := of_decide_eq_false c49_
  refine bS [0, 0] 5 29 [(3, .int .i64 m), (9, .slice A1 k3 cp4), (10, .slice A9 k11 cp12), (14, .slice A23 k25 cp26), (15, .int .i64 (scaleE m P)), (80, .bool false), (81, .slice A37 k39 cp40), (82, .slice A1 k3 cp4)] ?_
  refine pl_step 6 28 rfl rfl ?_
  refine call_pure (d := 83) (.bool (decide (regM lessB P (keepL hullP P m) = []))) (by kernel_rfl) (fun w hT => regCovers A37 g38 0 k39 cp40 (keepL hullP P m) A1 g2 0 k3 cp4 P w (hT.viewRo (.cons (i := 0) rfl Vw.rowRd (.cons (i := 5) rfl Vw.rowRd .nil)) rfl) (by omega)) ?_
  refine bS [0, 0] 8 26 [(3, .int .i64 m), (9, .slice A1 k3 cp4), (10, .slice A9 k11 cp12), (14, .slice A23 k25 cp26), (15, .int .i64 (scaleE m P)), (85, .bool (decide (regM lessB P (keepL hullP P m) = [])))] ?_
  refine cont_recast 85 (.bool (decide (regM lessB P (keepL hullP P m) = []))) (.bool true) rfl (congrArg Value.bool (decide_eq_true (keep_covers hP.ne (by omega)))) ?_
  refine bS [0, 0, 0] 11 23 [(3, .int .i64 m), (9, .slice A1 k3 cp4), (10, .slice A9 k11 cp12), (14, .slice A23 k25 cp26), (85, .bool true), (88, .bool ((scaleE m P) != 0))] ?_
  refine cont_split 88 ((scaleE m P) != 0) rfl (fun c58_ => ?_) (fun c58_ => ?_)
  ·
    replace c58_ := ne_of_bne c58_
    refine bS [0, 0, 0, 0, 0, 0, 0, 0, 0, 0, 0, 0, 0] 24 10 [(14, .slice A23 k25 cp26), (100, .bool true), (101, .slice A9 k11 cp12)] ?_
    refine pl_step 25 9 rfl rfl ?_
    refine call_pure (d := 102) (.bool (decide ((eachR (moveP dx dy) P) = canR (eachR (moveP dx dy) P)))) (by kernel_rfl) (fun w hT => refMayL A9 g10 0 k11 cp12 (eachR (moveP dx dy) P) w (hT.viewRo (.cons (i := 4) rfl Vw.rowRd .nil) rfl) (by omega) (by omega)) ?_
    refine bS [0, 0] 27 7 [(14, .slice A23 k25 cp26), (104, .bool (decide ((eachR (moveP dx dy) P) = canR (eachR (moveP dx dy) P))))] ?_
    refine cont_recast 104 (.bool (decide ((eachR (moveP dx dy) P) = canR (eachR (moveP dx dy) P)))) (.bool true) rfl (congrArg Value.bool (decide_eq_true (move_can hP.can.symm))) ?_
    refine bS [0] 28 6 [(104, .bool true), (105, .slice A23 k25 cp26)] ?_
    refine pl_step 29 5 rfl rfl ?_
    refine call_pure (d := 106) (.bool (decide ((eachR (scaleR m) P) = canR (eachR (scaleR m) P)))) (by kernel_rfl) (fun w hT => refMayL A23 g24 0 k25 cp26 (eachR (scaleR m) P) w (hT.viewRo (.cons (i := 2) rfl Vw.rowRd .nil) rfl) (by omega) (by omega)) ?_
    refine bS [0, 0] 31 3 [(108, .bool (decide ((eachR (scaleR m) P) = canR (eachR (scaleR m) P))))] ?_
    refine cont_recast 108 (.bool (decide ((eachR (scaleR m) P) = canR (eachR (scaleR m) P)))) (.bool true) rfl (congrArg Value.bool (decide_eq_true (scale_can hP.can.symm))) ?_
    refine pl_step 32 2 rfl rfl ?_
    refine call_pure (d := 109) (.bool true) (by kernel_rfl) (fun w hT => lives2  w) ?_
    refine bS [0, 0] 34 0 [(8, .bool true)] ?_
    refine cont_done ?_
    refine then_normal ?_
    refine cont_ret ?_
    refine ret_one (.inl rfl) rfl 0 (.bool true) (by kernel_rfl) (by kernel_rfl) (fun w hT => ?_)
    exact ⟨rfl, hT.post rfl⟩
  replace c58_ := eq_of_bne_false c58_
  have hsr_ := scaleE_range c58_
  have hsx_ := scale_area hsr_ (fun r hr => boxed_rects hP.reg hP.box r hr)
  have hfarS := hsx_.1
  have hsa := hsx_.2.1
  have hsq_ := sq_range hsr_
  have hab_ := areaL_far hfarS
  rw [hsa] at hab_
  have hel_ := eachR_length (scaleR m) P
  refine bS [0] 12 22 [(3, .int .i64 m), (9, .slice A1 k3 cp4), (10, .slice A9 k11 cp12), (14, .slice A23 k25 cp26), (85, .bool true), (88, .bool false), (89, .slice A23 k25 cp26)] ?_
  refine pl_step 13 21 rfl rfl ?_
  refine call_pure (d := 90) (.int .i64 (areaL (eachR (scaleR m) P))) (by kernel_rfl) (fun w hT => regArea A23 g24 0 k25 cp26 (eachR (scaleR m) P) w (hT.viewRo (.cons (i := 2) rfl Vw.rowRd .nil) rfl) (by assumption) (by omega)) ?_
  refine bS [0, 0, 0] 16 18 [(9, .slice A1 k3 cp4), (10, .slice A9 k11 cp12), (14, .slice A23 k25 cp26), (85, .bool true), (88, .bool false), (90, .int .i64 (areaL (eachR (scaleR m) P))), (93, .int .i64 (IntKind.i64.wrap (m * m)))] ?_
  refine cont_recast 93 (.int .i64 (IntKind.i64.wrap (m * m))) (.int .i64 (m * m)) rfl (wrapI (by omega) (by omega)) ?_
  refine bS [0] 17 17 [(10, .slice A9 k11 cp12), (14, .slice A23 k25 cp26), (85, .bool true), (88, .bool false), (90, .int .i64 (areaL (eachR (scaleR m) P))), (93, .int .i64 (m * m)), (94, .slice A1 k3 cp4)] ?_
  refine pl_step 18 16 rfl rfl ?_
  have har61_ := areaL_far hP.far
  refine call_pure (d := 95) (.int .i64 (areaL P)) (by kernel_rfl) (fun w hT => refAreaL A1 g2 0 k3 cp4 P w (hT.viewRo (.cons (i := 5) rfl Vw.rowRd .nil) rfl) hP.far (by omega)) ?_
  refine bS [0] 19 15 [(10, .slice A9 k11 cp12), (14, .slice A23 k25 cp26), (85, .bool true), (88, .bool false), (90, .int .i64 (areaL (eachR (scaleR m) P))), (96, .int .i64 (IntKind.i64.wrap ((m * m) * (areaL P))))] ?_
  refine cont_recast 96 (.int .i64 (IntKind.i64.wrap ((m * m) * (areaL P)))) (.int .i64 ((m * m) * (areaL P))) rfl (wrapI (by omega) (by omega)) ?_
  refine bS [0, 0, 0, 0] 23 11 [(10, .slice A9 k11 cp12), (14, .slice A23 k25 cp26), (100, .bool ((areaL (eachR (scaleR m) P)) == ((m * m) * (areaL P))))] ?_
  refine cont_recast 100 (.bool ((areaL (eachR (scaleR m) P)) == ((m * m) * (areaL P)))) (.bool true) rfl (congrArg Value.bool (by rw [hsa]; exact beq_self_eq_true _)) ?_
  refine bS [0] 24 10 [(14, .slice A23 k25 cp26), (100, .bool true), (101, .slice A9 k11 cp12)] ?_
  refine pl_step 25 9 rfl rfl ?_
  refine call_pure (d := 102) (.bool (decide ((eachR (moveP dx dy) P) = canR (eachR (moveP dx dy) P)))) (by kernel_rfl) (fun w hT => refMayL A9 g10 0 k11 cp12 (eachR (moveP dx dy) P) w (hT.viewRo (.cons (i := 4) rfl Vw.rowRd .nil) rfl) (by omega) (by omega)) ?_
  refine bS [0, 0] 27 7 [(14, .slice A23 k25 cp26), (104, .bool (decide ((eachR (moveP dx dy) P) = canR (eachR (moveP dx dy) P))))] ?_
  refine cont_recast 104 (.bool (decide ((eachR (moveP dx dy) P) = canR (eachR (moveP dx dy) P)))) (.bool true) rfl (congrArg Value.bool (decide_eq_true (move_can hP.can.symm))) ?_
  refine bS [0] 28 6 [(104, .bool true), (105, .slice A23 k25 cp26)] ?_
  refine pl_step 29 5 rfl rfl ?_
  refine call_pure (d := 106) (.bool (decide ((eachR (scaleR m) P) = canR (eachR (scaleR m) P)))) (by kernel_rfl) (fun w hT => refMayL A23 g24 0 k25 cp26 (eachR (scaleR m) P) w (hT.viewRo (.cons (i := 2) rfl Vw.rowRd .nil) rfl) (by omega) (by omega)) ?_
  refine bS [0, 0] 31 3 [(108, .bool (decide ((eachR (scaleR m) P) = canR (eachR (scaleR m) P))))] ?_
  refine cont_recast 108 (.bool (decide ((eachR (scaleR m) P) = canR (eachR (scaleR m) P)))) (.bool true) rfl (congrArg Value.bool (decide_eq_true (scale_can hP.can.symm))) ?_
  refine pl_step 32 2 rfl rfl ?_
  refine call_pure (d := 109) (.bool true) (by kernel_rfl) (fun w hT => lives2  w) ?_
  refine bS [0, 0] 34 0 [(8, .bool true)] ?_
  refine cont_done ?_
  refine then_normal ?_
  refine cont_ret ?_
  refine ret_one (.inl rfl) rfl 0 (.bool true) (by kernel_rfl) (by kernel_rfl) (fun w hT => ?_)
  exact ⟨rfl, hT.post rfl⟩

theorem walkRegionMovesB (A : Option Addr) (g o n cap : Nat) (xs : List Rect) (dx dy m : Int) (w : World) (hr : Rd w A g o n 4 (rvals xs)) (hl : xs.length = n) (hc : n ≤ cap) (hm : cap ≤ maxLen) (hx : ∀ r ∈ xs, R64 r) (hdx : -9223372036854775808 ≤ dx ∧ dx ≤ 9223372036854775807) (hdy : -9223372036854775808 ≤ dy ∧ dy ≤ 9223372036854775807) (hmm : -9223372036854775808 ≤ m ∧ m ≤ 9223372036854775807) (hkc : ¬ ((canR (smallL xs 8)).length : Int) ≤ m) :
    Calls Try.prog 11 #[.slice A n cap, .int .i64 dx, .int .i64 dy, .int .i64 m] w fun e w' => e = .returned (.bool true) ∧ Below w.heap.size w w' := by
  unfold maxLen at hm
  refine enter 111 [(0, .slice A n cap), (1, .int .i64 dx), (2, .int .i64 dy), (3, .int .i64 m)] [.gen (rdE (A) g o n 4 (rvals xs))] Try.func11 rfl Try.ntmps11 rfl (by kernel_rfl) hr.tab ?_
  refine cont_seq ?_
  refine cont_region 1 rfl ?_
  refine bS [0] 1 0 [(0, .slice A n cap), (1, .int .i64 dx), (2, .int .i64 dy), (3, .int .i64 m)] ?_
  refine cont_done ?_
  refine then_normal ?_
  refine cont_seq ?_
  refine cont_region 3 rfl ?_
  refine bS [0] 1 2 [(1, .int .i64 dx), (2, .int .i64 dy), (3, .int .i64 m), (19, .slice A n cap)] ?_
  refine pl_step 2 1 rfl rfl ?_
  refine call_gen (d := 20) (α := Option Addr × Nat × Nat × Nat) (fun x_ => .slice x_.1 x_.2.2.1 x_.2.2.2) (fun x_ => [.gen (rowE (x_.1) x_.2.1 x_.2.2.1 x_.2.2.2 25 4 (rvals (canR (smallL xs 8))) true), .gen (rdE (A) g o n 4 (rvals xs))]) (fun x_ => True) (by kernel_rfl) (fun w hT => (refGood A g o n cap xs w (hT.viewRo (.cons (i := 0) rfl Vw.rd .nil) rfl) hx).mono fun e w' ⟨A1, g2, k3, cp4, he_, ht_⟩ => ⟨(A1, g2, k3, cp4), he_, trivial, hT.news ht_ rfl⟩) ?_
  rintro ⟨A1, g2, k3, cp4⟩ hf5_
  refine cont_norm [(1, .int .i64 dx), (2, .int .i64 dy), (3, .int .i64 m), (19, .slice A n cap), (20, .slice A1 k3 cp4)] [.gen (rowE (A1) g2 k3 cp4 25 4 (rvals (canR (smallL xs 8))) true), .gen (rdE (A) g o n 4 (rvals xs))] (by kernel_rfl) rfl ?_
  refine cont_fact (F := (0 < k3 → (A1 : Option Addr) = some ⟨g2, 0, none⟩) ∧ (canR (smallL xs 8)).length = k3 ∧ k3 ≤ cp4 ∧ cp4 ≤ maxLen) (fun w hT => Row.factsR (hT.ok 0 _ rfl)) (fun hr6_ => ?_)
  obtain ⟨hr6_a, hr6_l, hr6_c, hr6_m⟩ := hr6_
  unfold maxLen at hr6_m
  obtain ⟨P, hP⟩ : ∃ y_ : List Rect, y_ = (canR (smallL xs 8)) := ⟨_, rfl⟩
  refine cont_rowEqR 0 (canR (smallL xs 8)) (P) rfl hP.symm ?_
  have hkP : ¬ (P.length : Int) ≤ m := by rw [hP]; exact hkc
  have hgP : Good P := by rw [hP]; exact Good.of _ _
  clear hP
  have hP := hgP
  have hlP_ := hP.len
  refine cont_fact (F := (0 < k3 → (A1 : Option Addr) = some ⟨g2, 0, none⟩) ∧ P.length = k3 ∧ k3 ≤ cp4 ∧ cp4 ≤ maxLen) (fun w hT => Row.factsR (hT.ok 0 _ rfl)) (fun hr7_ => ?_)
  obtain ⟨hr7_a, hr7_l, hr7_c, hr7_m⟩ := hr7_
  unfold maxLen at hr7_m
  have hmv : ∀ r ∈ P, moveP dx dy r = moveD dx dy r := fun r hr => move_same (boxed_rects hP.reg hP.box r hr)
  refine bS [0] 3 0 [(1, .int .i64 dx), (2, .int .i64 dy), (3, .int .i64 m), (9, .slice A1 k3 cp4)] ?_
  refine cont_done ?_
  refine then_normal ?_
  refine cont_seq ?_
  refine cont_region 9 rfl ?_
  refine bS [0, 0, 0] 3 6 [(1, .int .i64 dx), (2, .int .i64 dy), (3, .int .i64 m), (9, .slice A1 k3 cp4), (22, .slice A1 k3 cp4), (23, .int .i64 dx), (24, .int .i64 dy)] ?_
  refine pl_step 4 5 rfl rfl ?_
  have hel8_ := eachR_length (moveP dx dy) P
  refine call_gen (d := 25) (α := Option Addr × Nat × Nat × Nat) (fun x_ => .tuple #[.slice x_.1 x_.2.2.1 x_.2.2.2, .int .i64 (eachE (moveP dx dy) P)]) (fun x_ => [.gen (rowE (x_.1) x_.2.1 x_.2.2.1 x_.2.2.2 25 4 (rvals (eachR (moveP dx dy) P)) true), .gen (rowE (A1) g2 k3 cp4 25 4 (rvals P) true), .gen (rdE (A) g o n 4 (rvals xs))]) (fun x_ => True) (by kernel_rfl) (fun w hT => (regMove A1 g2 0 k3 cp4 P dx dy w (hT.viewRo (.cons (i := 0) rfl Vw.rowRd .nil) rfl) hP.far (by omega)).mono fun e w' ⟨A9, g10, k11, cp12, he_, ht_⟩ => ⟨(A9, g10, k11, cp12), he_, trivial, hT.news ht_ rfl⟩) ?_
  rintro ⟨A9, g10, k11, cp12⟩ hf13_
  refine cont_norm [(1, .int .i64 dx), (2, .int .i64 dy), (3, .int .i64 m), (9, .slice A1 k3 cp4), (22, .slice A1 k3 cp4), (23, .int .i64 dx), (24, .int .i64 dy), (25, .tuple #[.slice A9 k11 cp12, .int .i64 (eachE (moveP dx dy) P)])] [.gen (rowE (A9) g10 k11 cp12 25 4 (rvals (eachR (moveP dx dy) P)) true), .gen (rowE (A1) g2 k3 cp4 25 4 (rvals P) true), .gen (rdE (A) g o n 4 (rvals xs))] (by kernel_rfl) rfl ?_
  refine cont_fact (F := (0 < k11 → (A9 : Option Addr) = some ⟨g10, 0, none⟩) ∧ (eachR (moveP dx dy) P).length = k11 ∧ k11 ≤ cp12 ∧ cp12 ≤ maxLen) (fun w hT => Row.factsR (hT.ok 0 _ rfl)) (fun hr14_ => ?_)
  obtain ⟨hr14_a, hr14_l, hr14_c, hr14_m⟩ := hr14_
  unfold maxLen at hr14_m
  refine bS [0, 0, 0, 0, 0] 9 0 [(1, .int .i64 dx), (2, .int .i64 dy), (3, .int .i64 m), (9, .slice A1 k3 cp4), (10, .slice A9 k11 cp12), (11, .int .i64 (eachE (moveP dx dy) P))] ?_
  refine cont_done ?_
  refine then_normal ?_
  refine cont_seq ?_
  refine cont_region 9 rfl ?_
  refine bS [0, 0, 0] 3 6 [(3, .int .i64 m), (9, .slice A1 k3 cp4), (10, .slice A9 k11 cp12), (11, .int .i64 (eachE (moveP dx dy) P)), (29, .slice A1 k3 cp4), (30, .int .i64 dx), (31, .int .i64 dy)] ?_
  refine pl_step 4 5 rfl rfl ?_
  have hel15_ := eachR_length (moveD dx dy) P
  refine call_gen (d := 32) (α := Option Addr × Nat × Nat × Nat) (fun x_ => .tuple #[.slice x_.1 x_.2.2.1 x_.2.2.2, .int .i64 (eachE (moveD dx dy) P)]) (fun x_ => [.gen (rowE (x_.1) x_.2.1 x_.2.2.1 x_.2.2.2 25 4 (rvals (eachR (moveD dx dy) P)) true), .gen (rowE (A9) g10 k11 cp12 25 4 (rvals (eachR (moveP dx dy) P)) true), .gen (rowE (A1) g2 k3 cp4 25 4 (rvals P) true), .gen (rdE (A) g o n 4 (rvals xs))]) (fun x_ => True) (by kernel_rfl) (fun w hT => (refMoveL A1 g2 0 k3 cp4 P dx dy w (hT.viewRo (.cons (i := 1) rfl Vw.rowRd .nil) rfl) hP.far (by omega)).mono fun e w' ⟨A16, g17, k18, cp19, he_, ht_⟩ => ⟨(A16, g17, k18, cp19), he_, trivial, hT.news ht_ rfl⟩) ?_
  rintro ⟨A16, g17, k18, cp19⟩ hf20_
  refine cont_norm [(3, .int .i64 m), (9, .slice A1 k3 cp4), (10, .slice A9 k11 cp12), (11, .int .i64 (eachE (moveP dx dy) P)), (29, .slice A1 k3 cp4), (30, .int .i64 dx), (31, .int .i64 dy), (32, .tuple #[.slice A16 k18 cp19, .int .i64 (eachE (moveD dx dy) P)])] [.gen (rowE (A16) g17 k18 cp19 25 4 (rvals (eachR (moveD dx dy) P)) true), .gen (rowE (A9) g10 k11 cp12 25 4 (rvals (eachR (moveP dx dy) P)) true), .gen (rowE (A1) g2 k3 cp4 25 4 (rvals P) true), .gen (rdE (A) g o n 4 (rvals xs))] (by kernel_rfl) rfl ?_
  refine cont_fact (F := (0 < k18 → (A16 : Option Addr) = some ⟨g17, 0, none⟩) ∧ (eachR (moveD dx dy) P).length = k18 ∧ k18 ≤ cp19 ∧ cp19 ≤ maxLen) (fun w hT => Row.factsR (hT.ok 0 _ rfl)) (fun hr21_ => ?_)
  obtain ⟨hr21_a, hr21_l, hr21_c, hr21_m⟩ := hr21_
  unfold maxLen at hr21_m
  refine bS [0, 0, 0, 0, 0] 9 0 [(3, .int .i64 m), (9, .slice A1 k3 cp4), (10, .slice A9 k11 cp12), (11, .int .i64 (eachE (moveP dx dy) P)), (12, .slice A16 k18 cp19), (13, .int .i64 (eachE (moveD dx dy) P))] ?_
  refine cont_done ?_
  refine then_normal ?_
  refine cont_seq ?_
  refine cont_region 8 rfl ?_
  refine bS [0, 0] 2 6 [(3, .int .i64 m), (9, .slice A1 k3 cp4), (10, .slice A9 k11 cp12), (11, .int .i64 (eachE (moveP dx dy) P)), (12, .slice A16 k18 cp19), (13, .int .i64 (eachE (moveD dx dy) P)), (36, .slice A1 k3 cp4), (37, .int .i64 m)] ?_
  refine pl_step 3 5 rfl rfl ?_
  have hel22_ := eachR_length (scaleR m) P
  refine call_gen (d := 38) (α := Option Addr × Nat × Nat × Nat) (fun x_ => .tuple #[.slice x_.1 x_.2.2.1 x_.2.2.2, .int .i64 (scaleE m P)]) (fun x_ => [.gen (rowE (x_.1) x_.2.1 x_.2.2.1 x_.2.2.2 25 4 (rvals (eachR (scaleR m) P)) true), .gen (rowE (A16) g17 k18 cp19 25 4 (rvals (eachR (moveD dx dy) P)) true), .gen (rowE (A9) g10 k11 cp12 25 4 (rvals (eachR (moveP dx dy) P)) true), .gen (rowE (A1) g2 k3 cp4 25 4 (rvals P) true), .gen (rdE (A) g o n 4 (rvals xs))]) (fun x_ => True) (by kernel_rfl) (fun w hT => (regScale A1 g2 0 k3 cp4 P m w (hT.viewRo (.cons (i := 2) rfl Vw.rowRd .nil) rfl) hP.far (by omega)).mono fun e w' ⟨A23, g24, k25, cp26, he_, ht_⟩ => ⟨(A23, g24, k25, cp26), he_, trivial, hT.news ht_ rfl⟩) ?_
  rintro ⟨A23, g24, k25, cp26⟩ hf27_
  refine cont_norm [(3, .int .i64 m), (9, .slice A1 k3 cp4), (10, .slice A9 k11 cp12), (11, .int .i64 (eachE (moveP dx dy) P)), (12, .slice A16 k18 cp19), (13, .int .i64 (eachE (moveD dx dy) P)), (36, .slice A1 k3 cp4), (37, .int .i64 m), (38, .tuple #[.slice A23 k25 cp26, .int .i64 (scaleE m P)])] [.gen (rowE (A23) g24 k25 cp26 25 4 (rvals (eachR (scaleR m) P)) true), .gen (rowE (A16) g17 k18 cp19 25 4 (rvals (eachR (moveD dx dy) P)) true), .gen (rowE (A9) g10 k11 cp12 25 4 (rvals (eachR (moveP dx dy) P)) true), .gen (rowE (A1) g2 k3 cp4 25 4 (rvals P) true), .gen (rdE (A) g o n 4 (rvals xs))] (by kernel_rfl) rfl ?_
  refine cont_fact (F := (0 < k25 → (A23 : Option Addr) = some ⟨g24, 0, none⟩) ∧ (eachR (scaleR m) P).length = k25 ∧ k25 ≤ cp26 ∧ cp26 ≤ maxLen) (fun w hT => Row.factsR (hT.ok 0 _ rfl)) (fun hr28_ => ?_)
  obtain ⟨hr28_a, hr28_l, hr28_c, hr28_m⟩ := hr28_
  unfold maxLen at hr28_m
  refine bS [0, 0, 0, 0, 0] 8 0 [(3, .int .i64 m), (9, .slice A1 k3 cp4), (10, .slice A9 k11 cp12), (11, .int .i64 (eachE (moveP dx dy) P)), (12, .slice A16 k18 cp19), (13, .int .i64 (eachE (moveD dx dy) P)), (14, .slice A23 k25 cp26), (15, .int .i64 (scaleE m P))] ?_
  refine cont_done ?_
  refine then_normal ?_
  refine cont_seq ?_
  refine cont_region 8 rfl ?_
  refine bS [0, 0] 2 6 [(3, .int .i64 m), (9, .slice A1 k3 cp4), (10, .slice A9 k11 cp12), (11, .int .i64 (eachE (moveP dx dy) P)), (12, .slice A16 k18 cp19), (13, .int .i64 (eachE (moveD dx dy) P)), (14, .slice A23 k25 cp26), (15, .int .i64 (scaleE m P)), (42, .slice A1 k3 cp4), (43, .int .i64 m)] ?_
  refine pl_step 3 5 rfl rfl ?_
  have hel29_ := eachR_length (scaleR m) P
  refine call_gen (d := 44) (α := Option Addr × Nat × Nat × Nat) (fun x_ => .tuple #[.slice x_.1 x_.2.2.1 x_.2.2.2, .int .i64 (scaleE m P)]) (fun x_ => [.gen (rowE (x_.1) x_.2.1 x_.2.2.1 x_.2.2.2 25 4 (rvals (eachR (scaleR m) P)) true), .gen (rowE (A23) g24 k25 cp26 25 4 (rvals (eachR (scaleR m) P)) true), .gen (rowE (A16) g17 k18 cp19 25 4 (rvals (eachR (moveD dx dy) P)) true), .gen (rowE (A9) g10 k11 cp12 25 4 (rvals (eachR (moveP dx dy) P)) true), .gen (rowE (A1) g2 k3 cp4 25 4 (rvals P) true), .gen (rdE (A) g o n 4 (rvals xs))]) (fun x_ => True) (by kernel_rfl) (fun w hT => (refScaleL A1 g2 0 k3 cp4 P m w (hT.viewRo (.cons (i := 3) rfl Vw.rowRd .nil) rfl) hP.far (by omega)).mono fun e w' ⟨A30, g31, k32, cp33, he_, ht_⟩ => ⟨(A30, g31, k32, cp33), he_, trivial, hT.news ht_ rfl⟩) ?_
  rintro ⟨A30, g31, k32, cp33⟩ hf34_
  refine cont_norm [(3, .int .i64 m), (9, .slice A1 k3 cp4), (10, .slice A9 k11 cp12), (11, .int .i64 (eachE (moveP dx dy) P)), (12, .slice A16 k18 cp19), (13, .int .i64 (eachE (moveD dx dy) P)), (14, .slice A23 k25 cp26), (15, .int .i64 (scaleE m P)), (42, .slice A1 k3 cp4), (43, .int .i64 m), (44, .tuple #[.slice A30 k32 cp33, .int .i64 (scaleE m P)])] [.gen (rowE (A30) g31 k32 cp33 25 4 (rvals (eachR (scaleR m) P)) true), .gen (rowE (A23) g24 k25 cp26 25 4 (rvals (eachR (scaleR m) P)) true), .gen (rowE (A16) g17 k18 cp19 25 4 (rvals (eachR (moveD dx dy) P)) true), .gen (rowE (A9) g10 k11 cp12 25 4 (rvals (eachR (moveP dx dy) P)) true), .gen (rowE (A1) g2 k3 cp4 25 4 (rvals P) true), .gen (rdE (A) g o n 4 (rvals xs))] (by kernel_rfl) rfl ?_
  refine cont_fact (F := (0 < k32 → (A30 : Option Addr) = some ⟨g31, 0, none⟩) ∧ (eachR (scaleR m) P).length = k32 ∧ k32 ≤ cp33 ∧ cp33 ≤ maxLen) (fun w hT => Row.factsR (hT.ok 0 _ rfl)) (fun hr35_ => ?_)
  obtain ⟨hr35_a, hr35_l, hr35_c, hr35_m⟩ := hr35_
  unfold maxLen at hr35_m
  refine bS [0, 0, 0, 0, 0] 8 0 [(3, .int .i64 m), (9, .slice A1 k3 cp4), (10, .slice A9 k11 cp12), (11, .int .i64 (eachE (moveP dx dy) P)), (12, .slice A16 k18 cp19), (13, .int .i64 (eachE (moveD dx dy) P)), (14, .slice A23 k25 cp26), (15, .int .i64 (scaleE m P)), (16, .slice A30 k32 cp33), (17, .int .i64 (scaleE m P))] ?_
  refine cont_done ?_
  refine then_normal ?_
  refine cont_seq ?_
  refine cont_region 4 rfl ?_
  refine bS [0, 0] 2 2 [(3, .int .i64 m), (9, .slice A1 k3 cp4), (10, .slice A9 k11 cp12), (11, .int .i64 (eachE (moveP dx dy) P)), (12, .slice A16 k18 cp19), (13, .int .i64 (eachE (moveD dx dy) P)), (14, .slice A23 k25 cp26), (15, .int .i64 (scaleE m P)), (16, .slice A30 k32 cp33), (17, .int .i64 (scaleE m P)), (47, .slice A1 k3 cp4), (48, .int .i64 m)] ?_
  refine pl_step 3 1 rfl rfl ?_
  have hkl36_ := keepL_length hullP P m
  refine call_gen (d := 49) (α := Option Addr × Nat × Nat × Nat) (fun x_ => .slice x_.1 x_.2.2.1 x_.2.2.2) (fun x_ => [.gen (rowE (x_.1) x_.2.1 x_.2.2.1 x_.2.2.2 25 4 (rvals (keepL hullP P m)) true), .gen (rowE (A30) g31 k32 cp33 25 4 (rvals (eachR (scaleR m) P)) true), .gen (rowE (A23) g24 k25 cp26 25 4 (rvals (eachR (scaleR m) P)) true), .gen (rowE (A16) g17 k18 cp19 25 4 (rvals (eachR (moveD dx dy) P)) true), .gen (rowE (A9) g10 k11 cp12 25 4 (rvals (eachR (moveP dx dy) P)) true), .gen (rowE (A1) g2 k3 cp4 25 4 (rvals P) true), .gen (rdE (A) g o n 4 (rvals xs))]) (fun x_ => True) (by kernel_rfl) (fun w hT => (regKeep A1 g2 0 k3 cp4 P m w (hT.viewRo (.cons (i := 4) rfl Vw.rowRd .nil) rfl) (by omega)).mono fun e w' ⟨A37, g38, k39, cp40, he_, ht_⟩ => ⟨(A37, g38, k39, cp40), he_, trivial, hT.news ht_ rfl⟩) ?_
  rintro ⟨A37, g38, k39, cp40⟩ hf41_
  refine cont_norm [(3, .int .i64 m), (9, .slice A1 k3 cp4), (10, .slice A9 k11 cp12), (11, .int .i64 (eachE (moveP dx dy) P)), (12, .slice A16 k18 cp19), (13, .int .i64 (eachE (moveD dx dy) P)), (14, .slice A23 k25 cp26), (15, .int .i64 (scaleE m P)), (16, .slice A30 k32 cp33), (17, .int .i64 (scaleE m P)), (47, .slice A1 k3 cp4), (48, .int .i64 m), (49, .slice A37 k39 cp40)] [.gen (rowE (A37) g38 k39 cp40 25 4 (rvals (keepL hullP P m)) true), .gen (rowE (A30) g31 k32 cp33 25 4 (rvals (eachR (scaleR m) P)) true), .gen (rowE (A23) g24 k25 cp26 25 4 (rvals (eachR (scaleR m) P)) true), .gen (rowE (A16) g17 k18 cp19 25 4 (rvals (eachR (moveD dx dy) P)) true), .gen (rowE (A9) g10 k11 cp12 25 4 (rvals (eachR (moveP dx dy) P)) true), .gen (rowE (A1) g2 k3 cp4 25 4 (rvals P) true), .gen (rdE (A) g o n 4 (rvals xs))] (by kernel_rfl) rfl ?_
  refine cont_fact (F := (0 < k39 → (A37 : Option Addr) = some ⟨g38, 0, none⟩) ∧ (keepL hullP P m).length = k39 ∧ k39 ≤ cp40 ∧ cp40 ≤ maxLen) (fun w hT => Row.factsR (hT.ok 0 _ rfl)) (fun hr42_ => ?_)
  obtain ⟨hr42_a, hr42_l, hr42_c, hr42_m⟩ := hr42_
  unfold maxLen at hr42_m
  refine bS [0] 4 0 [(3, .int .i64 m), (9, .slice A1 k3 cp4), (10, .slice A9 k11 cp12), (11, .int .i64 (eachE (moveP dx dy) P)), (12, .slice A16 k18 cp19), (13, .int .i64 (eachE (moveD dx dy) P)), (14, .slice A23 k25 cp26), (15, .int .i64 (scaleE m P)), (16, .slice A30 k32 cp33), (17, .int .i64 (scaleE m P)), (18, .slice A37 k39 cp40)] ?_
  refine cont_done ?_
  refine then_normal ?_
  refine cont_seq ?_
  refine cont_seq ?_
  refine cont_region 28 rfl ?_
  refine bS [0, 0, 0, 0] 4 24 [(3, .int .i64 m), (9, .slice A1 k3 cp4), (10, .slice A9 k11 cp12), (12, .slice A16 k18 cp19), (14, .slice A23 k25 cp26), (15, .int .i64 (scaleE m P)), (16, .slice A30 k32 cp33), (17, .int .i64 (scaleE m P)), (18, .slice A37 k39 cp40), (53, .bool ((eachE (moveP dx dy) P) != (eachE (moveD dx dy) P)))] ?_
  refine cont_recast 53 (.bool ((eachE (moveP dx dy) P) != (eachE (moveD dx dy) P))) (.bool false) rfl (congrArg Value.bool (by rw [(each_congr hmv).1]; exact bne_self_eq_false _)) ?_
  refine bS [0, 0] 6 22 [(3, .int .i64 m), (9, .slice A1 k3 cp4), (10, .slice A9 k11 cp12), (14, .slice A23 k25 cp26), (15, .int .i64 (scaleE m P)), (16, .slice A30 k32 cp33), (17, .int .i64 (scaleE m P)), (18, .slice A37 k39 cp40), (53, .bool false), (54, .slice A9 k11 cp12), (55, .slice A16 k18 cp19)] ?_
  refine pl_step 7 21 rfl rfl ?_
  refine call_pure (d := 56) (.bool (decide ((eachR (moveP dx dy) P) = (eachR (moveD dx dy) P)))) (by kernel_rfl) (fun w hT => refSame A9 g10 0 k11 cp12 (eachR (moveP dx dy) P) A16 g17 0 k18 cp19 (eachR (moveD dx dy) P) w (hT.viewRo (.cons (i := 4) rfl Vw.rowRd (.cons (i := 3) rfl Vw.rowRd .nil)) rfl) (by omega)) ?_
  refine bS [0, 0, 0] 10 18 [(3, .int .i64 m), (9, .slice A1 k3 cp4), (10, .slice A9 k11 cp12), (14, .slice A23 k25 cp26), (15, .int .i64 (scaleE m P)), (16, .slice A30 k32 cp33), (17, .int .i64 (scaleE m P)), (18, .slice A37 k39 cp40), (59, .bool (!(decide ((eachR (moveP dx dy) P) = (eachR (moveD dx dy) P)))))] ?_
  refine cont_recast 59 (.bool (!(decide ((eachR (moveP dx dy) P) = (eachR (moveD dx dy) P))))) (.bool false) rfl (congrArg Value.bool (by rw [show (decide ((eachR (moveP dx dy) P) = (eachR (moveD dx dy) P))) = true from (decide_eq_true (each_congr hmv).2)]; rfl)) ?_
  refine bS [0, 0, 0, 0, 0] 15 13 [(3, .int .i64 m), (9, .slice A1 k3 cp4), (10, .slice A9 k11 cp12), (14, .slice A23 k25 cp26), (15, .int .i64 (scaleE m P)), (16, .slice A30 k32 cp33), (18, .slice A37 k39 cp40), (64, .bool ((scaleE m P) != (scaleE m P)))] ?_
  refine cont_recast 64 (.bool ((scaleE m P) != (scaleE m P))) (.bool false) rfl (congrArg Value.bool (bne_self_eq_false _)) ?_
  refine bS [0, 0] 17 11 [(3, .int .i64 m), (9, .slice A1 k3 cp4), (10, .slice A9 k11 cp12), (14, .slice A23 k25 cp26), (15, .int .i64 (scaleE m P)), (18, .slice A37 k39 cp40), (64, .bool false), (65, .slice A23 k25 cp26), (66, .slice A30 k32 cp33)] ?_
  refine pl_step 18 10 rfl rfl ?_
  refine call_pure (d := 67) (.bool (decide ((eachR (scaleR m) P) = (eachR (scaleR m) P)))) (by kernel_rfl) (fun w hT => refSame A23 g24 0 k25 cp26 (eachR (scaleR m) P) A30 g31 0 k32 cp33 (eachR (scaleR m) P) w (hT.viewRo (.cons (i := 2) rfl Vw.rowRd (.cons (i := 1) rfl Vw.rowRd .nil)) rfl) (by omega)) ?_
  refine bS [0, 0, 0] 21 7 [(3, .int .i64 m), (9, .slice A1 k3 cp4), (10, .slice A9 k11 cp12), (14, .slice A23 k25 cp26), (15, .int .i64 (scaleE m P)), (18, .slice A37 k39 cp40), (70, .bool (!(decide ((eachR (scaleR m) P) = (eachR (scaleR m) P)))))] ?_
  refine cont_recast 70 (.bool (!(decide ((eachR (scaleR m) P) = (eachR (scaleR m) P))))) (.bool false) rfl (congrArg Value.bool (by rw [show (decide ((eachR (scaleR m) P) = (eachR (scaleR m) P))) = true from (decide_eq_true rfl)]; rfl)) ?_
  refine bS [0, 0, 0] 24 4 [(3, .int .i64 m), (9, .slice A1 k3 cp4), (10, .slice A9 k11 cp12), (14, .slice A23 k25 cp26), (15, .int .i64 (scaleE m P)), (18, .slice A37 k39 cp40), (70, .bool false), (71, .slice A37 k39 cp40), (72, .slice A1 k3 cp4), (73, .int .i64 m)] ?_
  refine pl_step 25 3 rfl rfl ?_
  have hkl47_ := keepL_length hullD P m
  refine call_gen (d := 74) (α := Option Addr × Nat × Nat × Nat) (fun x_ => .slice x_.1 x_.2.2.1 x_.2.2.2) (fun x_ => [.gen (rowE (x_.1) x_.2.1 x_.2.2.1 x_.2.2.2 25 4 (rvals (keepL hullD P m)) true), .gen (rowE (A37) g38 k39 cp40 25 4 (rvals (keepL hullP P m)) true), .gen (rowE (A30) g31 k32 cp33 25 4 (rvals (eachR (scaleR m) P)) true), .gen (rowE (A23) g24 k25 cp26 25 4 (rvals (eachR (scaleR m) P)) true), .gen (rowE (A16) g17 k18 cp19 25 4 (rvals (eachR (moveD dx dy) P)) true), .gen (rowE (A9) g10 k11 cp12 25 4 (rvals (eachR (moveP dx dy) P)) true), .gen (rowE (A1) g2 k3 cp4 25 4 (rvals P) true), .gen (rdE (A) g o n 4 (rvals xs))]) (fun x_ => True) (by kernel_rfl) (fun w hT => (refKeepNo A1 g2 0 k3 cp4 P m w (hT.viewRo (.cons (i := 5) rfl Vw.rowRd .nil) rfl) (by omega) (by omega)).mono fun e w' ⟨A48, g49, k50, cp51, he_, ht_⟩ => ⟨(A48, g49, k50, cp51), he_, trivial, hT.news ht_ rfl⟩) ?_
  rintro ⟨A48, g49, k50, cp51⟩ hf52_
  refine cont_norm [(3, .int .i64 m), (9, .slice A1 k3 cp4), (10, .slice A9 k11 cp12), (14, .slice A23 k25 cp26), (15, .int .i64 (scaleE m P)), (18, .slice A37 k39 cp40), (70, .bool false), (71, .slice A37 k39 cp40), (72, .slice A1 k3 cp4), (73, .int .i64 m), (74, .slice A48 k50 cp51)] [.gen (rowE (A48) g49 k50 cp51 25 4 (rvals (keepL hullD P m)) true), .gen (rowE (A37) g38 k39 cp40 25 4 (rvals (keepL hullP P m)) true), .gen (rowE (A30) g31 k32 cp33 25 4 (rvals (eachR (scaleR m) P)) true), .gen (rowE (A23) g24 k25 cp26 25 4 (rvals (eachR (scaleR m) P)) true), .gen (rowE (A16) g17 k18 cp19 25 4 (rvals (eachR (moveD dx dy) P)) true), .gen (rowE (A9) g10 k11 cp12 25 4 (rvals (eachR (moveP dx dy) P)) true), .gen (rowE (A1) g2 k3 cp4 25 4 (rvals P) true), .gen (rdE (A) g o n 4 (rvals xs))] (by kernel_rfl) rfl ?_
  refine cont_fact (F := (0 < k50 → (A48 : Option Addr) = some ⟨g49, 0, none⟩) ∧ (keepL hullD P m).length = k50 ∧ k50 ≤ cp51 ∧ cp51 ≤ maxLen) (fun w hT => Row.factsR (hT.ok 0 _ rfl)) (fun hr53_ => ?_)
  obtain ⟨hr53_a, hr53_l, hr53_c, hr53_m⟩ := hr53_
  unfold maxLen at hr53_m
  refine pl_step 26 2 rfl rfl ?_
  refine call_pure (d := 75) (.bool (decide ((keepL hullP P m) = (keepL hullD P m)))) (by kernel_rfl) (fun w hT => refSame A37 g38 0 k39 cp40 (keepL hullP P m) A48 g49 0 k50 cp51 (keepL hullD P m) w (hT.viewRo (.cons (i := 1) rfl Vw.rowRd (.cons (i := 0) rfl Vw.rowRd .nil)) rfl) (by omega)) ?_
  refine bS [0, 0] 28 0 [(3, .int .i64 m), (9, .slice A1 k3 cp4), (10, .slice A9 k11 cp12), (14, .slice A23 k25 cp26), (15, .int .i64 (scaleE m P)), (18, .slice A37 k39 cp40), (77, .bool (!(decide ((keepL hullP P m) = (keepL hullD P m)))))] ?_
  refine cont_done ?_
  refine then_normal ?_
  refine cont_recast 77 (.bool (!(decide ((keepL hullP P m) = (keepL hullD P m))))) (.bool false) rfl (congrArg Value.bool (by rw [show (decide ((keepL hullP P m) = (keepL hullD P m))) = true from (decide_eq_true (keep_same hP.ne _))]; rfl)) ?_
  refine cont_false rfl ?_
  refine cont_skip ?_
  refine then_normal ?_
  refine cont_seq ?_
  refine cont_region 34 rfl ?_
  refine bS [0, 0, 0] 3 31 [(3, .int .i64 m), (9, .slice A1 k3 cp4), (10, .slice A9 k11 cp12), (14, .slice A23 k25 cp26), (15, .int .i64 (scaleE m P)), (18, .slice A37 k39 cp40), (80, .bool (decide (m < 1)))] ?_
  refine cont_split 80 (decide (m < 1)) rfl (fun c55_ => ?_) (fun c55_ => ?_)
  ·
    replace c55_ := of_decide_eq_true c55_
    refine bS [0, 0, 0, 0, 0, 0, 0, 0] 11 23 [(3, .int .i64 m), (9, .slice A1 k3 cp4), (10, .slice A9 k11 cp12), (14, .slice A23 k25 cp26), (85, .bool true), (88, .bool ((scaleE m P) != 0))] ?_
    refine cont_split 88 ((scaleE m P) != 0) rfl (fun c56_ => ?_) (fun c56_ => ?_)
    ·
      replace c56_ := ne_of_bne c56_
      refine bS [0, 0, 0, 0, 0, 0, 0, 0, 0, 0, 0, 0, 0] 24 10 [(14, .slice A23 k25 cp26), (100, .bool true), (101, .slice A9 k11 cp12)] ?_
      refine pl_step 25 9 rfl rfl ?_
      refine call_pure (d := 102) (.bool (decide ((eachR (moveP dx dy) P) = canR (eachR (moveP dx dy) P)))) (by kernel_rfl) (fun w hT => refMayL A9 g10 0 k11 cp12 (eachR (moveP dx dy) P) w (hT.viewRo (.cons (i := 5) rfl Vw.rowRd .nil) rfl) (by omega) (by omega)) ?_
      refine bS [0, 0] 27 7 [(14, .slice A23 k25 cp26), (104, .bool (decide ((eachR (moveP dx dy) P) = canR (eachR (moveP dx dy) P))))] ?_
      refine cont_recast 104 (.bool (decide ((eachR (moveP dx dy) P) = canR (eachR (moveP dx dy) P)))) (.bool true) rfl (congrArg Value.bool (decide_eq_true (move_can hP.can.symm))) ?_
      refine bS [0] 28 6 [(104, .bool true), (105, .slice A23 k25 cp26)] ?_
      refine pl_step 29 5 rfl rfl ?_
      refine call_pure (d := 106) (.bool (decide ((eachR (scaleR m) P) = canR (eachR (scaleR m) P)))) (by kernel_rfl) (fun w hT => refMayL A23 g24 0 k25 cp26 (eachR (scaleR m) P) w (hT.viewRo (.cons (i := 3) rfl Vw.rowRd .nil) rfl) (by omega) (by omega)) ?_
      refine bS [0, 0] 31 3 [(108, .bool (decide ((eachR (scaleR m) P) = canR (eachR (scaleR m) P))))] ?_
      refine cont_recast 108 (.bool (decide ((eachR (scaleR m) P) = canR (eachR (scaleR m) P)))) (.bool true) rfl (congrArg Value.bool (decide_eq_true (scale_can hP.can.symm))) ?_
      refine pl_step 32 2 rfl rfl ?_
      refine call_pure (d := 109) (.bool true) (by kernel_rfl) (fun w hT => lives2  w) ?_
      refine bS [0, 0] 34 0 [(8, .bool true)] ?_
      refine cont_done ?_
      refine then_normal ?_
      refine cont_ret ?_
      refine ret_one (.inl rfl) rfl 0 (.bool true) (by kernel_rfl) (by kernel_rfl) (fun w hT => ?_)
      exact ⟨rfl, hT.post rfl⟩
    replace c56_ := eq_of_bne_false c56_
    have hsr_ := scaleE_range c56_
    have hsx_ := scale_area hsr_ (fun r hr => boxed_rects hP.reg hP.box r hr)
    have hfarS := hsx_.1
    have hsa := hsx_.2.1
    have hsq_ := sq_range hsr_
    have hab_ := areaL_far hfarS
    rw [hsa] at hab_
    have hel_ := eachR_length (scaleR m) P
    refine bS [0] 12 22 [(3, .int .i64 m), (9, .slice A1 k3 cp4), (10, .slice A9 k11 cp12), (14, .slice A23 k25 cp26), (85, .bool true), (88, .bool false), (89, .slice A23 k25 cp26)] ?_
    refine pl_step 13 21 rfl rfl ?_
    refine call_pure (d := 90) (.int .i64 (areaL (eachR (scaleR m) P))) (by kernel_rfl) (fun w hT => regArea A23 g24 0 k25 cp26 (eachR (scaleR m) P) w (hT.viewRo (.cons (i := 3) rfl Vw.rowRd .nil) rfl) (by assumption) (by omega)) ?_
    refine bS [0, 0, 0] 16 18 [(9, .slice A1 k3 cp4), (10, .slice A9 k11 cp12), (14, .slice A23 k25 cp26), (85, .bool true), (88, .bool false), (90, .int .i64 (areaL (eachR (scaleR m) P))), (93, .int .i64 (IntKind.i64.wrap (m * m)))] ?_
    refine cont_recast 93 (.int .i64 (IntKind.i64.wrap (m * m))) (.int .i64 (m * m)) rfl (wrapI (by omega) (by omega)) ?_
    refine bS [0] 17 17 [(10, .slice A9 k11 cp12), (14, .slice A23 k25 cp26), (85, .bool true), (88, .bool false), (90, .int .i64 (areaL (eachR (scaleR m) P))), (93, .int .i64 (m * m)), (94, .slice A1 k3 cp4)] ?_
    refine pl_step 18 16 rfl rfl ?_
    have har59_ := areaL_far hP.far
    refine call_pure (d := 95) (.int .i64 (areaL P)) (by kernel_rfl) (fun w hT => refAreaL A1 g2 0 k3 cp4 P w (hT.viewRo (.cons (i := 6) rfl Vw.rowRd .nil) rfl) hP.far (by omega)) ?_
    refine bS [0] 19 15 [(10, .slice A9 k11 cp12), (14, .slice A23 k25 cp26), (85, .bool true), (88, .bool false), (90, .int .i64 (areaL (eachR (scaleR m) P))), (96, .int .i64 (IntKind.i64.wrap ((m * m) * (areaL P))))] ?_
    refine cont_recast 96 (.int .i64 (IntKind.i64.wrap ((m * m) * (areaL P)))) (.int .i64 ((m * m) * (areaL P))) rfl (wrapI (by omega) (by omega)) ?_
    refine bS [0, 0, 0, 0] 23 11 [(10, .slice A9 k11 cp12), (14, .slice A23 k25 cp26), (100, .bool ((areaL (eachR (scaleR m) P)) == ((m * m) * (areaL P))))] ?_
    refine cont_recast 100 (.bool ((areaL (eachR (scaleR m) P)) == ((m * m) * (areaL P)))) (.bool true) rfl (congrArg Value.bool (by rw [hsa]; exact beq_self_eq_true _)) ?_
    refine bS [0] 24 10 [(14, .slice A23 k25 cp26), (100, .bool true), (101, .slice A9 k11 cp12)] ?_
    refine pl_step 25 9 rfl rfl ?_
    refine call_pure (d := 102) (.bool (decide ((eachR (moveP dx dy) P) = canR (eachR (moveP dx dy) P)))) (by kernel_rfl) (fun w hT => refMayL A9 g10 0 k11 cp12 (eachR (moveP dx dy) P) w (hT.viewRo (.cons (i := 5) rfl Vw.rowRd .nil) rfl) (by omega) (by omega)) ?_
    refine bS [0, 0] 27 7 [(14, .slice A23 k25 cp26), (104, .bool (decide ((eachR (moveP dx dy) P) = canR (eachR (moveP dx dy) P))))] ?_
    refine cont_recast 104 (.bool (decide ((eachR (moveP dx dy) P) = canR (eachR (moveP dx dy) P)))) (.bool true) rfl (congrArg Value.bool (decide_eq_true (move_can hP.can.symm))) ?_
    refine bS [0] 28 6 [(104, .bool true), (105, .slice A23 k25 cp26)] ?_
    refine pl_step 29 5 rfl rfl ?_
    refine call_pure (d := 106) (.bool (decide ((eachR (scaleR m) P) = canR (eachR (scaleR m) P)))) (by kernel_rfl) (fun w hT => refMayL A23 g24 0 k25 cp26 (eachR (scaleR m) P) w (hT.viewRo (.cons (i := 3) rfl Vw.rowRd .nil) rfl) (by omega) (by omega)) ?_
    refine bS [0, 0] 31 3 [(108, .bool (decide ((eachR (scaleR m) P) = canR (eachR (scaleR m) P))))] ?_
    refine cont_recast 108 (.bool (decide ((eachR (scaleR m) P) = canR (eachR (scaleR m) P)))) (.bool true) rfl (congrArg Value.bool (decide_eq_true (scale_can hP.can.symm))) ?_
    refine pl_step 32 2 rfl rfl ?_
    refine call_pure (d := 109) (.bool true) (by kernel_rfl) (fun w hT => lives2  w) ?_
    refine bS [0, 0] 34 0 [(8, .bool true)] ?_
    refine cont_done ?_
    refine then_normal ?_
    refine cont_ret ?_
    refine ret_one (.inl rfl) rfl 0 (.bool true) (by kernel_rfl) (by kernel_rfl) (fun w hT => ?_)
    exact ⟨rfl, hT.post rfl⟩
  replace c55_ := of_decide_eq_false c55_
  refine bS [0, 0] 5 29 [(3, .int .i64 m), (9, .slice A1 k3 cp4), (10, .slice A9 k11 cp12), (14, .slice A23 k25 cp26), (15, .int .i64 (scaleE m P)), (80, .bool false), (81, .slice A37 k39 cp40), (82, .slice A1 k3 cp4)] ?_
  refine pl_step 6 28 rfl rfl ?_
  refine call_pure (d := 83) (.bool (decide (regM lessB P (keepL hullP P m) = []))) (by kernel_rfl) (fun w hT => regCovers A37 g38 0 k39 cp40 (keepL hullP P m) A1 g2 0 k3 cp4 P w (hT.viewRo (.cons (i := 1) rfl Vw.rowRd (.cons (i := 6) rfl Vw.rowRd .nil)) rfl) (by omega)) ?_
  refine bS [0, 0] 8 26 [(3, .int .i64 m), (9, .slice A1 k3 cp4), (10, .slice A9 k11 cp12), (14, .slice A23 k25 cp26), (15, .int .i64 (scaleE m P)), (85, .bool (decide (regM lessB P (keepL hullP P m) = [])))] ?_
  refine cont_recast 85 (.bool (decide (regM lessB P (keepL hullP P m) = []))) (.bool true) rfl (congrArg Value.bool (decide_eq_true (keep_covers hP.ne (by omega)))) ?_
  refine bS [0, 0, 0] 11 23 [(3, .int .i64 m), (9, .slice A1 k3 cp4), (10, .slice A9 k11 cp12), (14, .slice A23 k25 cp26), (85, .bool true), (88, .bool ((scaleE m P) != 0))] ?_
  refine cont_split 88 ((scaleE m P) != 0) rfl (fun c64_ => ?_) (fun c64_ => ?_)
  ·
    replace c64_ := ne_of_bne c64_
    refine bS [0, 0, 0, 0, 0, 0, 0, 0, 0, 0, 0, 0, 0] 24 10 [(14, .slice A23 k25 cp26), (100, .bool true), (101, .slice A9 k11 cp12)] ?_
    refine pl_step 25 9 rfl rfl ?_
    refine call_pure (d := 102) (.bool (decide ((eachR (moveP dx dy) P) = canR (eachR (moveP dx dy) P)))) (by kernel_rfl) (fun w hT => refMayL A9 g10 0 k11 cp12 (eachR (moveP dx dy) P) w (hT.viewRo (.cons (i := 5) rfl Vw.rowRd .nil) rfl) (by omega) (by omega)) ?_
    refine bS [0, 0] 27 7 [(14, .slice A23 k25 cp26), (104, .bool (decide ((eachR (moveP dx dy) P) = canR (eachR (moveP dx dy) P))))] ?_
    refine cont_recast 104 (.bool (decide ((eachR (moveP dx dy) P) = canR (eachR (moveP dx dy) P)))) (.bool true) rfl (congrArg Value.bool (decide_eq_true (move_can hP.can.symm))) ?_
    refine bS [0] 28 6 [(104, .bool true), (105, .slice A23 k25 cp26)] ?_
    refine pl_step 29 5 rfl rfl ?_
    refine call_pure (d := 106) (.bool (decide ((eachR (scaleR m) P) = canR (eachR (scaleR m) P)))) (by kernel_rfl) (fun w hT => refMayL A23 g24 0 k25 cp26 (eachR (scaleR m) P) w (hT.viewRo (.cons (i := 3) rfl Vw.rowRd .nil) rfl) (by omega) (by omega)) ?_
    refine bS [0, 0] 31 3 [(108, .bool (decide ((eachR (scaleR m) P) = canR (eachR (scaleR m) P))))] ?_
    refine cont_recast 108 (.bool (decide ((eachR (scaleR m) P) = canR (eachR (scaleR m) P)))) (.bool true) rfl (congrArg Value.bool (decide_eq_true (scale_can hP.can.symm))) ?_
    refine pl_step 32 2 rfl rfl ?_
    refine call_pure (d := 109) (.bool true) (by kernel_rfl) (fun w hT => lives2  w) ?_
    refine bS [0, 0] 34 0 [(8, .bool true)] ?_
    refine cont_done ?_
    refine then_normal ?_
    refine cont_ret ?_
    refine ret_one (.inl rfl) rfl 0 (.bool true) (by kernel_rfl) (by kernel_rfl) (fun w hT => ?_)
    exact ⟨rfl, hT.post rfl⟩
  replace c64_ := eq_of_bne_false c64_
  have hsr_ := scaleE_range c64_
  have hsx_ := scale_area hsr_ (fun r hr => boxed_rects hP.reg hP.box r hr)
  have hfarS := hsx_.1
  have hsa := hsx_.2.1
  have hsq_ := sq_range hsr_
  have hab_ := areaL_far hfarS
  rw [hsa] at hab_
  have hel_ := eachR_length (scaleR m) P
  refine bS [0] 12 22 [(3, .int .i64 m), (9, .slice A1 k3 cp4), (10, .slice A9 k11 cp12), (14, .slice A23 k25 cp26), (85, .bool true), (88, .bool false), (89, .slice A23 k25 cp26)] ?_
  refine pl_step 13 21 rfl rfl ?_
  refine call_pure (d := 90) (.int .i64 (areaL (eachR (scaleR m) P))) (by kernel_rfl) (fun w hT => regArea A23 g24 0 k25 cp26 (eachR (scaleR m) P) w (hT.viewRo (.cons (i := 3) rfl Vw.rowRd .nil) rfl) (by assumption) (by omega)) ?_
  refine bS [0, 0, 0] 16 18 [(9, .slice A1 k3 cp4), (10, .slice A9 k11 cp12), (14, .slice A23 k25 cp26), (85, .bool true), (88, .bool false), (90, .int .i64 (areaL (eachR (scaleR m) P))), (93, .int .i64 (IntKind.i64.wrap (m * m)))] ?_
  refine cont_recast 93 (.int .i64 (IntKind.i64.wrap (m * m))) (.int .i64 (m * m)) rfl (wrapI (by omega) (by omega)) ?_
  refine bS [0] 17 17 [(10, .slice A9 k11 cp12), (14, .slice A23 k25 cp26), (85, .bool true), (88, .bool false), (90, .int .i64 (areaL (eachR (scaleR m) P))), (93, .int .i64 (m * m)), (94, .slice A1 k3 cp4)] ?_
  refine pl_step 18 16 rfl rfl ?_
  have har67_ := areaL_far hP.far
  refine call_pure (d := 95) (.int .i64 (areaL P)) (by kernel_rfl) (fun w hT => refAreaL A1 g2 0 k3 cp4 P w (hT.viewRo (.cons (i := 6) rfl Vw.rowRd .nil) rfl) hP.far (by omega)) ?_
  refine bS [0] 19 15 [(10, .slice A9 k11 cp12), (14, .slice A23 k25 cp26), (85, .bool true), (88, .bool false), (90, .int .i64 (areaL (eachR (scaleR m) P))), (96, .int .i64 (IntKind.i64.wrap ((m * m) * (areaL P))))] ?_
  refine cont_recast 96 (.int .i64 (IntKind.i64.wrap ((m * m) * (areaL P)))) (.int .i64 ((m * m) * (areaL P))) rfl (wrapI (by omega) (by omega)) ?_
  refine bS [0, 0, 0, 0] 23 11 [(10, .slice A9 k11 cp12), (14, .slice A23 k25 cp26), (100, .bool ((areaL (eachR (scaleR m) P)) == ((m * m) * (areaL P))))] ?_
  refine cont_recast 100 (.bool ((areaL (eachR (scaleR m) P)) == ((m * m) * (areaL P)))) (.bool true) rfl (congrArg Value.bool (by rw [hsa]; exact beq_self_eq_true _)) ?_
  refine bS [0] 24 10 [(14, .slice A23 k25 cp26), (100, .bool true), (101, .slice A9 k11 cp12)] ?_
  refine pl_step 25 9 rfl rfl ?_
  refine call_pure (d := 102) (.bool (decide ((eachR (moveP dx dy) P) = canR (eachR (moveP dx dy) P)))) (by kernel_rfl) (fun w hT => refMayL A9 g10 0 k11 cp12 (eachR (moveP dx dy) P) w (hT.viewRo (.cons (i := 5) rfl Vw.rowRd .nil) rfl) (by omega) (by omega)) ?_
  refine bS [0, 0] 27 7 [(14, .slice A23 k25 cp26), (104, .bool (decide ((eachR (moveP dx dy) P) = canR (eachR (moveP dx dy) P))))] ?_
  refine cont_recast 104 (.bool (decide ((eachR (moveP dx dy) P) = canR (eachR (moveP dx dy) P)))) (.bool true) rfl (congrArg Value.bool (decide_eq_true (move_can hP.can.symm))) ?_
  refine bS [0] 28 6 [(104, .bool true), (105, .slice A23 k25 cp26)] ?_
  refine pl_step 29 5 rfl rfl ?_
  refine call_pure (d := 106) (.bool (decide ((eachR (scaleR m) P) = canR (eachR (scaleR m) P)))) (by kernel_rfl) (fun w hT => refMayL A23 g24 0 k25 cp26 (eachR (scaleR m) P) w (hT.viewRo (.cons (i := 3) rfl Vw.rowRd .nil) rfl) (by omega) (by omega)) ?_
  refine bS [0, 0] 31 3 [(108, .bool (decide ((eachR (scaleR m) P) = canR (eachR (scaleR m) P))))] ?_
  refine cont_recast 108 (.bool (decide ((eachR (scaleR m) P) = canR (eachR (scaleR m) P)))) (.bool true) rfl (congrArg Value.bool (decide_eq_true (scale_can hP.can.symm))) ?_
  refine pl_step 32 2 rfl rfl ?_
  refine call_pure (d := 109) (.bool true) (by kernel_rfl) (fun w hT => lives2  w) ?_
  refine bS [0, 0] 34 0 [(8, .bool true)] ?_
  refine cont_done ?_
  refine then_normal ?_
  refine cont_ret ?_
  refine ret_one (.inl rfl) rfl 0 (.bool true) (by kernel_rfl) (by kernel_rfl) (fun w hT => ?_)
  exact ⟨rfl, hT.post rfl⟩

theorem walkRegionMoves (A : Option Addr) (g o n cap : Nat) (xs : List Rect) (dx dy m : Int) (w : World) (hr : Rd w A g o n 4 (rvals xs)) (hl : xs.length = n) (hc : n ≤ cap) (hm : cap ≤ maxLen) (hx : ∀ r ∈ xs, R64 r) (hdx : -9223372036854775808 ≤ dx ∧ dx ≤ 9223372036854775807) (hdy : -9223372036854775808 ≤ dy ∧ dy ≤ 9223372036854775807) (hmm : -9223372036854775808 ≤ m ∧ m ≤ 9223372036854775807) :
    Calls Try.prog 11 #[.slice A n cap, .int .i64 dx, .int .i64 dy, .int .i64 m] w fun e w' => e = .returned (.bool true) ∧ Below w.heap.size w w' := by
  by_cases hkc : ((canR (smallL xs 8)).length : Int) ≤ m
  · exact walkRegionMovesA A g o n cap xs dx dy m w hr hl hc hm hx hdx hdy hmm hkc
  · exact walkRegionMovesB A g o n cap xs dx dy m w hr hl hc hm hx hdx hdy hmm hkc

end Go.Proofs.Ytimpjdfflffcfaa
