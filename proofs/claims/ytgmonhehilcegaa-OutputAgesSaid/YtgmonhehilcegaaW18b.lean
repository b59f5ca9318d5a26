/- Contracts of functions of the given program, printed by a program of this project. -/
import Derived.Test.YtgmonhehilcegaaW18
import Derived.Test.YtgmonhehilcegaaProg
set_option linter.unusedVariables false
set_option linter.unusedSimpArgs false
namespace Go.Proofs.Ytgmonhehilcegaa
open Go Go.RowKit
set_option maxRecDepth 100000
set_option maxHeartbeats 8000000

theorem walkOutputAges (at_ : Int) (A : Option Addr) (g o n cap : Nat) (xs : List Rect) (w : World) (hat : -9223372036854775808 ≤ at_ ∧ at_ ≤ 9223372036854775807) (hr : Rd w A g o n 4 (rvals xs)) (hl : xs.length = n) (hc : n ≤ cap) (hm : cap ≤ maxLen) (hx : ∀ r ∈ xs, R64 r) :
    Calls Try.prog 10 #[.int .i64 at_, .slice A n cap] w fun e w' => e = .returned (.bool true) ∧ Below w.heap.size w w' := by
  unfold maxLen at hm
  refine enter 46 [(0, .int .i64 at_), (1, .slice A n cap)] [.gen (rdE (A) g o n 4 (rvals xs))] Try.func10 rfl Try.ntmps10 rfl (by kernel_rfl) hr.tab ?_
  refine cont_seq ?_
  refine cont_region 1 rfl ?_
  refine bS [0] 1 0 [(0, .int .i64 at_), (1, .slice A n cap)] ?_
  refine cont_done ?_
  refine then_normal ?_
  refine cont_seq ?_
  refine cont_region 6 rfl ?_
  refine pl_step 1 5 rfl rfl ?_
  refine call_gen (d := 10) (α := Nat × Nat × Nat × Nat × Nat × Nat × Nat × Option Addr × Nat × Nat × Nat × Option Addr × Nat × Nat × Nat) (fun x_ => .tuple #[.pointer (some ⟨x_.1, 0, none⟩), .int .i64 0]) (fun x_ => [.cells x_.1 [.pointer (some ⟨x_.2.1, 0, none⟩), .pointer (some ⟨x_.2.2.2.2.1, 0, none⟩), .slice x_.2.2.2.2.2.2.2.1 x_.2.2.2.2.2.2.2.2.2.1 x_.2.2.2.2.2.2.2.2.2.2.1, .slice x_.2.2.2.2.2.2.2.2.2.2.2.1 x_.2.2.2.2.2.2.2.2.2.2.2.2.2.1 x_.2.2.2.2.2.2.2.2.2.2.2.2.2.2, .int .i64 0, .int .i64 0, .int .i64 0, .int .i64 0] 98 true, .cells x_.2.1 [.int .i64 5, .int .i64 5, .slice (some ⟨x_.2.2.1, 0, none⟩) x_.2.2.2.1 x_.2.2.2.1] 115 true, .gen (rowE (some ⟨x_.2.2.1, 0, none⟩) x_.2.2.1 x_.2.2.2.1 x_.2.2.2.1 54 1 (ivals .u32 (List.replicate x_.2.2.2.1 0)) true), .cells x_.2.2.2.2.1 [.int .i64 5, .int .i64 5, .slice (some ⟨x_.2.2.2.2.2.1, 0, none⟩) x_.2.2.2.2.2.2.1 x_.2.2.2.2.2.2.1] 115 true, .gen (rowE (some ⟨x_.2.2.2.2.2.1, 0, none⟩) x_.2.2.2.2.2.1 x_.2.2.2.2.2.2.1 x_.2.2.2.2.2.2.1 54 1 (ivals .u32 (List.replicate x_.2.2.2.2.2.2.1 0)) true), .gen (rowE (x_.2.2.2.2.2.2.2.1) x_.2.2.2.2.2.2.2.2.1 x_.2.2.2.2.2.2.2.2.2.1 x_.2.2.2.2.2.2.2.2.2.2.1 28 4 (rvals (canR [(⟨0, 0, 5, 5⟩ : Rect)])) true), .gen (rowE (x_.2.2.2.2.2.2.2.2.2.2.2.1) x_.2.2.2.2.2.2.2.2.2.2.2.2.1 x_.2.2.2.2.2.2.2.2.2.2.2.2.2.1 x_.2.2.2.2.2.2.2.2.2.2.2.2.2.2 28 4 (rvals (canR [(⟨0, 0, 5, 5⟩ : Rect)])) true), .gen (rdE (A) g o n 4 (rvals xs))]) (fun x_ => (x_.2.2.2.1 : Int) = 5 * 5 ∧ (x_.2.2.2.2.2.2.1 : Int) = 5 * 5) (by kernel_rfl) (fun w hT => (outNew 5 5 w (by decide)).mono fun e w' ⟨b1, m2, r3, n4, m15, r16, n17, A8, g9, k10, cp11, B12, gB13, kB14, cB15, he_, hf_, ht_⟩ => ⟨(b1, m2, r3, n4, m15, r16, n17, A8, g9, k10, cp11, B12, gB13, kB14, cB15), he_, hf_, hT.news ht_ rfl⟩) ?_
  rintro ⟨b1, m2, r3, n4, m15, r16, n17, A8, g9, k10, cp11, B12, gB13, kB14, cB15⟩ hf16_
  replace hf16_ : (n4 : Int) = 5 * 5 ∧ (n17 : Int) = 5 * 5 := hf16_
  refine cont_norm [(0, .int .i64 at_), (1, .slice A n cap), (10, .tuple #[.pointer (some ⟨b1, 0, none⟩), .int .i64 0])] [.cells b1 [.pointer (some ⟨m2, 0, none⟩), .pointer (some ⟨m15, 0, none⟩), .slice A8 k10 cp11, .slice B12 kB14 cB15, .int .i64 0, .int .i64 0, .int .i64 0, .int .i64 0] 98 true, .cells m2 [.int .i64 5, .int .i64 5, .slice (some ⟨r3, 0, none⟩) n4 n4] 115 true, .gen (rowE (some ⟨r3, 0, none⟩) r3 n4 n4 54 1 (ivals .u32 (List.replicate n4 0)) true), .cells m15 [.int .i64 5, .int .i64 5, .slice (some ⟨r16, 0, none⟩) n17 n17] 115 true, .gen (rowE (some ⟨r16, 0, none⟩) r16 n17 n17 54 1 (ivals .u32 (List.replicate n17 0)) true), .gen (rowE (A8) g9 k10 cp11 28 4 (rvals (canR [(⟨0, 0, 5, 5⟩ : Rect)])) true), .gen (rowE (B12) gB13 kB14 cB15 28 4 (rvals (canR [(⟨0, 0, 5, 5⟩ : Rect)])) true), .gen (rdE (A) g o n 4 (rvals xs))] (by kernel_rfl) rfl ?_
  obtain ⟨hf16_a, hf16_b⟩ := hf16_
  have hcl17_ := canR_small (l := [(⟨0, 0, 5, 5⟩ : Rect)]) (by simp)
  refine cont_fact (F := (0 < k10 → (A8 : Option Addr) = some ⟨g9, 0, none⟩) ∧ (canR [(⟨0, 0, 5, 5⟩ : Rect)]).length = k10 ∧ k10 ≤ cp11 ∧ cp11 ≤ maxLen) (fun w hT => Row.factsR (hT.ok 5 _ rfl)) (fun hr18_ => ?_)
  obtain ⟨hr18_a, hr18_l, hr18_c, hr18_m⟩ := hr18_
  unfold maxLen at hr18_m
  refine cont_fact (F := (0 < kB14 → (B12 : Option Addr) = some ⟨gB13, 0, none⟩) ∧ (canR [(⟨0, 0, 5, 5⟩ : Rect)]).length = kB14 ∧ kB14 ≤ cB15 ∧ cB15 ≤ maxLen) (fun w hT => Row.factsR (hT.ok 6 _ rfl)) (fun hr19_ => ?_)
  obtain ⟨hr19_a, hr19_l, hr19_c, hr19_m⟩ := hr19_
  unfold maxLen at hr19_m
  refine bS [0, 0, 0, 0, 0] 6 0 [(0, .int .i64 at_), (1, .slice A n cap), (5, .pointer (some ⟨b1, 0, none⟩)), (6, .int .i64 0)] ?_
  refine cont_done ?_
  refine then_normal ?_
  refine cont_seq ?_
  refine cont_seq ?_
  refine cont_region 6 rfl ?_
  refine bS [0, 0, 0, 0, 0, 0] 6 0 [(0, .int .i64 at_), (1, .slice A n cap), (5, .pointer (some ⟨b1, 0, none⟩)), (18, .bool false)] ?_
  refine cont_done ?_
  refine then_normal ?_
  refine cont_false rfl ?_
  refine cont_skip ?_
  refine then_normal ?_
  refine cont_seq ?_
  refine cont_seq ?_
  refine cont_region 1 rfl ?_
  refine bS [0] 1 0 [(0, .int .i64 at_), (1, .slice A n cap), (5, .pointer (some ⟨b1, 0, none⟩)), (7, .int .i64 1)] ?_
  refine cont_done ?_
  refine then_normal ?_
  refine cont_block ?_
  have hq21 := aroundI_range at_ (m := 21) (by omega)
  have hone_ : (canR [(⟨0, 0, 5, 5⟩ : Rect)]) = [⟨0, 0, 5, 5⟩] := can_one rfl
  have hln_ := congrArg List.length hone_
  have hl1_ : ([(⟨0, 0, 5, 5⟩ : Rect)]).length = 1 := rfl
  refine cont_loop (α := Nat × Nat × Int × Int × Int × List Rect × Option Addr × Nat × Nat × Nat × List Rect × Option Addr × Nat × Nat × Nat) (fun x_ : Nat × Nat × Int × Int × Int × List Rect × Option Addr × Nat × Nat × Nat × List Rect × Option Addr × Nat × Nat × Nat => 1 ≤ x_.1 ∧ x_.1 ≤ 22 ∧ x_.2.1 ≤ 1 ∧ x_.2.2.2.2.1 = (x_.1 : Int) - 1 ∧ (x_.2.1 = 0 → x_.2.2.1 = ((x_.1 - 2 : Nat) : Int) ∧ x_.2.2.2.1 = (x_.1 : Int) - 1) ∧ (x_.2.1 = 1 → x_.2.2.2.1 = ((x_.1 - 2 : Nat) : Int) ∧ x_.2.2.1 = (x_.1 : Int) - 1) ∧ x_.2.2.2.2.2.2.2.2.1 ≤ 64 ∧ x_.2.2.2.2.2.2.2.2.2.2.2.2.2.1 ≤ 64) (fun x_ : Nat × Nat × Int × Int × Int × List Rect × Option Addr × Nat × Nat × Nat × List Rect × Option Addr × Nat × Nat × Nat => [(0, .int .i64 at_), (1, .slice A n cap), (5, .pointer (some ⟨b1, 0, none⟩)), (7, .int .i64 (x_.1 : Int))]) (fun x_ : Nat × Nat × Int × Int × Int × List Rect × Option Addr × Nat × Nat × Nat × List Rect × Option Addr × Nat × Nat × Nat => [.cells b1 [.pointer (some ⟨m2, 0, none⟩), .pointer (some ⟨m15, 0, none⟩), .slice x_.2.2.2.2.2.2.1 x_.2.2.2.2.2.2.2.2.1 x_.2.2.2.2.2.2.2.2.2.1, .slice x_.2.2.2.2.2.2.2.2.2.2.2.1 x_.2.2.2.2.2.2.2.2.2.2.2.2.2.1 x_.2.2.2.2.2.2.2.2.2.2.2.2.2.2, .int .i64 x_.2.2.1, .int .i64 x_.2.2.2.1, .int .i64 x_.2.2.2.2.1, .int .i64 (x_.2.1 : Int)] 98 true, .cells m2 [.int .i64 5, .int .i64 5, .slice (some ⟨r3, 0, none⟩) n4 n4] 115 true, .gen (rowE (some ⟨r3, 0, none⟩) r3 n4 n4 54 1 (ivals .u32 (List.replicate n4 0)) true), .cells m15 [.int .i64 5, .int .i64 5, .slice (some ⟨r16, 0, none⟩) n17 n17] 115 true, .gen (rowE (some ⟨r16, 0, none⟩) r16 n17 n17 54 1 (ivals .u32 (List.replicate n17 0)) true), .gen (rowE (x_.2.2.2.2.2.2.1) x_.2.2.2.2.2.2.2.1 x_.2.2.2.2.2.2.2.2.1 x_.2.2.2.2.2.2.2.2.2.1 28 4 (rvals x_.2.2.2.2.2.1) true), .gen (rowE (x_.2.2.2.2.2.2.2.2.2.2.2.1) x_.2.2.2.2.2.2.2.2.2.2.2.2.1 x_.2.2.2.2.2.2.2.2.2.2.2.2.2.1 x_.2.2.2.2.2.2.2.2.2.2.2.2.2.2 28 4 (rvals x_.2.2.2.2.2.2.2.2.2.2.1) true), .gen (rdE (A) g o n 4 (rvals xs))]) (fun x_ : Nat × Nat × Int × Int × Int × List Rect × Option Addr × Nat × Nat × Nat × List Rect × Option Addr × Nat × Nat × Nat => 40 - x_.1) (1, 0, 0, 0, 0, canR [(⟨0, 0, 5, 5⟩ : Rect)], A8, g9, k10, cp11, canR [(⟨0, 0, 5, 5⟩ : Rect)], B12, gB13, kB14, cB15) (show 1 ≤ (1) ∧ (1) ≤ 22 ∧ (0) ≤ 1 ∧ (0) = ((1) : Int) - 1 ∧ ((0) = 0 → (0) = (((1) - 2 : Nat) : Int) ∧ (0) = ((1) : Int) - 1) ∧ ((0) = 1 → (0) = (((1) - 2 : Nat) : Int) ∧ (0) = ((1) : Int) - 1) ∧ (k10) ≤ 64 ∧ (kB14) ≤ 64 from ⟨by omega, by omega, by omega, by omega, fun _ => ⟨by omega, by omega⟩, fun h_ => by omega, by omega, by omega⟩) (by kernel_rfl) (by kernel_rfl) ?_
  rintro ⟨i, bk, w0, w1, fr, xs0, Ax, gx, kx, cx, xs1, Ay, gy, ky, cy⟩ hinv20_
  replace hinv20_ : 1 ≤ i ∧ i ≤ 22 ∧ bk ≤ 1 ∧ fr = (i : Int) - 1 ∧ (bk = 0 → w0 = ((i - 2 : Nat) : Int) ∧ w1 = (i : Int) - 1) ∧ (bk = 1 → w1 = ((i - 2 : Nat) : Int) ∧ w0 = (i : Int) - 1) ∧ kx ≤ 64 ∧ ky ≤ 64 := hinv20_
  refine cont_norm [(0, .int .i64 at_), (1, .slice A n cap), (5, .pointer (some ⟨b1, 0, none⟩)), (7, .int .i64 (i : Int))] [.cells b1 [.pointer (some ⟨m2, 0, none⟩), .pointer (some ⟨m15, 0, none⟩), .slice Ax kx cx, .slice Ay ky cy, .int .i64 w0, .int .i64 w1, .int .i64 fr, .int .i64 (bk : Int)] 98 true, .cells m2 [.int .i64 5, .int .i64 5, .slice (some ⟨r3, 0, none⟩) n4 n4] 115 true, .gen (rowE (some ⟨r3, 0, none⟩) r3 n4 n4 54 1 (ivals .u32 (List.replicate n4 0)) true), .cells m15 [.int .i64 5, .int .i64 5, .slice (some ⟨r16, 0, none⟩) n17 n17] 115 true, .gen (rowE (some ⟨r16, 0, none⟩) r16 n17 n17 54 1 (ivals .u32 (List.replicate n17 0)) true), .gen (rowE (Ax) gx kx cx 28 4 (rvals xs0) true), .gen (rowE (Ay) gy ky cy 28 4 (rvals xs1) true), .gen (rdE (A) g o n 4 (rvals xs))] (by kernel_rfl) rfl ?_
  obtain ⟨hi1, hi2, hbk, hfr, hw0, hw1, hkx, hky⟩ := hinv20_
  rcases (show bk = 0 ∨ bk = 1 by omega) with rfl | rfl
  ·
    refine cont_norm [(0, .int .i64 at_), (1, .slice A n cap), (5, .pointer (some ⟨b1, 0, none⟩)), (7, .int .i64 (i : Int))] [.cells b1 [.pointer (some ⟨m2, 0, none⟩), .pointer (some ⟨m15, 0, none⟩), .slice Ax kx cx, .slice Ay ky cy, .int .i64 w0, .int .i64 w1, .int .i64 fr, .int .i64 0] 98 true, .cells m2 [.int .i64 5, .int .i64 5, .slice (some ⟨r3, 0, none⟩) n4 n4] 115 true, .gen (rowE (some ⟨r3, 0, none⟩) r3 n4 n4 54 1 (ivals .u32 (List.replicate n4 0)) true), .cells m15 [.int .i64 5, .int .i64 5, .slice (some ⟨r16, 0, none⟩) n17 n17] 115 true, .gen (rowE (some ⟨r16, 0, none⟩) r16 n17 n17 54 1 (ivals .u32 (List.replicate n17 0)) true), .gen (rowE (Ax) gx kx cx 28 4 (rvals xs0) true), .gen (rowE (Ay) gy ky cy 28 4 (rvals xs1) true), .gen (rdE (A) g o n 4 (rvals xs))] (by kernel_rfl) rfl ?_
    refine cont_fact (F := (0 < kx → (Ax : Option Addr) = some ⟨gx, 0, none⟩) ∧ xs0.length = kx ∧ kx ≤ cx ∧ cx ≤ maxLen) (fun w hT => Row.factsR (hT.ok 5 _ rfl)) (fun hr21_ => ?_)
    obtain ⟨hr21_a, hr21_l, hr21_c, hr21_m⟩ := hr21_
    unfold maxLen at hr21_m
    refine cont_fact (F := (0 < ky → (Ay : Option Addr) = some ⟨gy, 0, none⟩) ∧ xs1.length = ky ∧ ky ≤ cy ∧ cy ≤ maxLen) (fun w hT => Row.factsR (hT.ok 6 _ rfl)) (fun hr22_ => ?_)
    obtain ⟨hr22_a, hr22_l, hr22_c, hr22_m⟩ := hr22_
    unfold maxLen at hr22_m
    refine cont_seq ?_
    refine cont_seq ?_
    refine cont_region 4 rfl ?_
    refine bS [0, 0] 2 2 [(0, .int .i64 at_), (1, .slice A n cap), (5, .pointer (some ⟨b1, 0, none⟩)), (7, .int .i64 (i : Int)), (19, .int .i64 (i : Int)), (20, .int .i64 at_)] ?_
    refine pl_step 3 1 rfl rfl ?_
    refine call_pure (d := 21) (.int .i64 (aroundI at_ 21)) (by kernel_rfl) (fun w hT => refAround at_ 21 w (by omega) (by omega)) ?_
    have hq23_ := aroundI_range at_ (m := 21) (by omega)
    refine bS [0] 4 0 [(0, .int .i64 at_), (1, .slice A n cap), (5, .pointer (some ⟨b1, 0, none⟩)), (7, .int .i64 (i : Int)), (22, .bool (decide ((i : Int) ≤ (aroundI at_ 21))))] ?_
    refine cont_done ?_
    refine then_normal ?_
    refine cont_split 22 (decide ((i : Int) ≤ (aroundI at_ 21))) rfl (fun c24_ => ?_) (fun c24_ => ?_)
    ·
      replace c24_ := of_decide_eq_true c24_
      refine cont_true rfl ?_
      refine cont_skip ?_
      refine then_normal ?_
      refine cont_seq ?_
      refine cont_block ?_
      refine cont_seq ?_
      refine cont_region 4 rfl ?_
      refine bS [0, 0] 2 2 [(0, .int .i64 at_), (1, .slice A n cap), (5, .pointer (some ⟨b1, 0, none⟩)), (7, .int .i64 (i : Int)), (25, .pointer (some ⟨b1, 0, none⟩)), (26, .slice A n cap)] ?_
      refine pl_step 3 1 rfl rfl ?_
      refine call_gen (d := 27) (α := Option Addr × Nat × Nat × Nat) (fun x_ => .slice x_.1 x_.2.2.1 x_.2.2.2) (fun x_ => [.gen (rowE (x_.1) x_.2.1 x_.2.2.1 x_.2.2.2 28 4 (rvals (smallL xs 3)) true), .cells b1 [.pointer (some ⟨m2, 0, none⟩), .pointer (some ⟨m15, 0, none⟩), .slice Ax kx cx, .slice Ay ky cy, .int .i64 w0, .int .i64 w1, .int .i64 fr, .int .i64 0] 98 true, .cells m2 [.int .i64 5, .int .i64 5, .slice (some ⟨r3, 0, none⟩) n4 n4] 115 true, .gen (rowE (some ⟨r3, 0, none⟩) r3 n4 n4 54 1 (ivals .u32 (List.replicate n4 0)) true), .cells m15 [.int .i64 5, .int .i64 5, .slice (some ⟨r16, 0, none⟩) n17 n17] 115 true, .gen (rowE (some ⟨r16, 0, none⟩) r16 n17 n17 54 1 (ivals .u32 (List.replicate n17 0)) true), .gen (rowE (Ax) gx kx cx 28 4 (rvals xs0) true), .gen (rowE (Ay) gy ky cy 28 4 (rvals xs1) true), .gen (rdE (A) g o n 4 (rvals xs))]) (fun x_ => True) (by kernel_rfl) (fun w hT => (refSmallL A g o n cap xs 3 w (hT.viewRo (.cons (i := 7) rfl Vw.rd .nil) rfl) hx (by omega)).mono fun e w' ⟨A25, g26, k27, cp28, he_, ht_⟩ => ⟨(A25, g26, k27, cp28), he_, trivial, hT.news ht_ rfl⟩) ?_
      rintro ⟨A25, g26, k27, cp28⟩ hf29_
      refine cont_norm [(0, .int .i64 at_), (1, .slice A n cap), (5, .pointer (some ⟨b1, 0, none⟩)), (7, .int .i64 (i : Int)), (25, .pointer (some ⟨b1, 0, none⟩)), (26, .slice A n cap), (27, .slice A25 k27 cp28)] [.gen (rowE (A25) g26 k27 cp28 28 4 (rvals (smallL xs 3)) true), .cells b1 [.pointer (some ⟨m2, 0, none⟩), .pointer (some ⟨m15, 0, none⟩), .slice Ax kx cx, .slice Ay ky cy, .int .i64 w0, .int .i64 w1, .int .i64 fr, .int .i64 0] 98 true, .cells m2 [.int .i64 5, .int .i64 5, .slice (some ⟨r3, 0, none⟩) n4 n4] 115 true, .gen (rowE (some ⟨r3, 0, none⟩) r3 n4 n4 54 1 (ivals .u32 (List.replicate n4 0)) true), .cells m15 [.int .i64 5, .int .i64 5, .slice (some ⟨r16, 0, none⟩) n17 n17] 115 true, .gen (rowE (some ⟨r16, 0, none⟩) r16 n17 n17 54 1 (ivals .u32 (List.replicate n17 0)) true), .gen (rowE (Ax) gx kx cx 28 4 (rvals xs0) true), .gen (rowE (Ay) gy ky cy 28 4 (rvals xs1) true), .gen (rdE (A) g o n 4 (rvals xs))] (by kernel_rfl) rfl ?_
      refine cont_fact (F := (0 < k27 → (A25 : Option Addr) = some ⟨g26, 0, none⟩) ∧ (smallL xs 3).length = k27 ∧ k27 ≤ cp28 ∧ cp28 ≤ maxLen) (fun w hT => Row.factsR (hT.ok 0 _ rfl)) (fun hr30_ => ?_)
      obtain ⟨hr30_a, hr30_l, hr30_c, hr30_m⟩ := hr30_
      unfold maxLen at hr30_m
      have hsl31_ := smallL_length xs 3
      refine pl_step 4 0 rfl rfl ?_
      refine call_gen (d := 28) (α := Option Addr × Nat × Nat × Nat × Option Addr × Nat × Nat × Nat) (fun _ => .tuple #[]) (fun x_ => [.gen (rowE (x_.1) x_.2.1 x_.2.2.1 x_.2.2.2.1 28 4 (rvals (keepL hullP (regM orB xs0 (regM andB (canR (smallL xs 3)) (canR [(⟨0, 0, 5, 5⟩ : Rect)]))) 64)) true), .gen (rowE (x_.2.2.2.2.1) x_.2.2.2.2.2.1 x_.2.2.2.2.2.2.1 x_.2.2.2.2.2.2.2 28 4 (rvals (keepL hullP (regM orB xs1 (regM andB (canR (smallL xs 3)) (canR [(⟨0, 0, 5, 5⟩ : Rect)]))) 64)) true), .gen (rowE (A25) g26 k27 cp28 28 4 (rvals (smallL xs 3)) true), .cells b1 [.pointer (some ⟨m2, 0, none⟩), .pointer (some ⟨m15, 0, none⟩), .slice x_.1 x_.2.2.1 x_.2.2.2.1, .slice x_.2.2.2.2.1 x_.2.2.2.2.2.2.1 x_.2.2.2.2.2.2.2, .int .i64 w0, .int .i64 w1, .int .i64 fr, .int .i64 0] 98 true, .cells m2 [.int .i64 5, .int .i64 5, .slice (some ⟨r3, 0, none⟩) n4 n4] 115 true, .gen (rowE (some ⟨r3, 0, none⟩) r3 n4 n4 54 1 (ivals .u32 (List.replicate n4 0)) true), .cells m15 [.int .i64 5, .int .i64 5, .slice (some ⟨r16, 0, none⟩) n17 n17] 115 true, .gen (rowE (some ⟨r16, 0, none⟩) r16 n17 n17 54 1 (ivals .u32 (List.replicate n17 0)) true), .gen (rowE (Ax) gx kx cx 28 4 (rvals xs0) true), .gen (rowE (Ay) gy ky cy 28 4 (rvals xs1) true), .gen (rdE (A) g o n 4 (rvals xs))]) (fun _ => True) (by kernel_rfl) (fun w hT => (outDamage b1 m2 m15 Ax Ay kx cx ky cy w0 w1 fr 0 5 5 r3 n4 n4 (List.replicate n4 0) gx xs0 gy xs1 A25 g26 0 k27 cp28 (smallL xs 3) w (hT.view (.cons (i := 1) rfl Vw.rw (.cons (i := 2) rfl Vw.roc (.cons (i := 3) rfl Vw.rowRd (.cons (i := 6) rfl Vw.rowRd (.cons (i := 7) rfl Vw.rowRd (.cons (i := 0) rfl Vw.rowRd .nil)))))) (by decide)) (by omega) (imgOk_new (by decide) hf16_a) (by omega) (by omega) (by omega)).mono fun e w' ⟨A32q, gA33q, k34q, cp35q, B36q, gB37q, kB38q, cB39q, he_, ht_⟩ => ⟨(A32q, gA33q, k34q, cp35q, B36q, gB37q, kB38q, cB39q), he_, trivial, hT.merge (N := [.gen (rowE (A32q) gA33q k34q cp35q 28 4 (rvals (keepL hullP (regM orB xs0 (regM andB (canR (smallL xs 3)) (canR [(⟨0, 0, 5, 5⟩ : Rect)]))) 64)) true), .gen (rowE (B36q) gB37q kB38q cB39q 28 4 (rvals (keepL hullP (regM orB xs1 (regM andB (canR (smallL xs 3)) (canR [(⟨0, 0, 5, 5⟩ : Rect)]))) 64)) true)]) (s := [1, 2, 3, 6, 7, 0]) ht_ (.cons (i := 1) rfl Mg.cells (.skip rfl (.skip rfl (.skip rfl (.skip rfl (.skip rfl .nil)))))) (by decide) (allOwn_get rfl)⟩) ?_
      rintro ⟨A32q, gA33q, k34q, cp35q, B36q, gB37q, kB38q, cB39q⟩ -
      refine cont_norm [(0, .int .i64 at_), (1, .slice A n cap), (5, .pointer (some ⟨b1, 0, none⟩)), (7, .int .i64 (i : Int)), (25, .pointer (some ⟨b1, 0, none⟩)), (26, .slice A n cap), (27, .slice A25 k27 cp28), (28, .tuple #[])] [.gen (rowE (A32q) gA33q k34q cp35q 28 4 (rvals (keepL hullP (regM orB xs0 (regM andB (canR (smallL xs 3)) (canR [(⟨0, 0, 5, 5⟩ : Rect)]))) 64)) true), .gen (rowE (B36q) gB37q kB38q cB39q 28 4 (rvals (keepL hullP (regM orB xs1 (regM andB (canR (smallL xs 3)) (canR [(⟨0, 0, 5, 5⟩ : Rect)]))) 64)) true), .gen (rowE (A25) g26 k27 cp28 28 4 (rvals (smallL xs 3)) true), .cells b1 [.pointer (some ⟨m2, 0, none⟩), .pointer (some ⟨m15, 0, none⟩), .slice A32q k34q cp35q, .slice B36q kB38q cB39q, .int .i64 w0, .int .i64 w1, .int .i64 fr, .int .i64 0] 98 true, .cells m2 [.int .i64 5, .int .i64 5, .slice (some ⟨r3, 0, none⟩) n4 n4] 115 true, .gen (rowE (some ⟨r3, 0, none⟩) r3 n4 n4 54 1 (ivals .u32 (List.replicate n4 0)) true), .cells m15 [.int .i64 5, .int .i64 5, .slice (some ⟨r16, 0, none⟩) n17 n17] 115 true, .gen (rowE (some ⟨r16, 0, none⟩) r16 n17 n17 54 1 (ivals .u32 (List.replicate n17 0)) true), .gen (rowE (Ax) gx kx cx 28 4 (rvals xs0) true), .gen (rowE (Ay) gy ky cy 28 4 (rvals xs1) true), .gen (rdE (A) g o n 4 (rvals xs))] (by kernel_rfl) rfl ?_
      refine cont_fact (F := (0 < k34q → (A32q : Option Addr) = some ⟨gA33q, 0, none⟩) ∧ (keepL hullP (regM orB xs0 (regM andB (canR (smallL xs 3)) (canR [(⟨0, 0, 5, 5⟩ : Rect)]))) 64).length = k34q ∧ k34q ≤ cp35q ∧ cp35q ≤ maxLen) (fun w hT => Row.factsR (hT.ok 0 _ rfl)) (fun hr40_ => ?_)
      obtain ⟨hr40_a, hr40_l, hr40_c, hr40_m⟩ := hr40_
      unfold maxLen at hr40_m
      have hkl41_ := keep_len64 hullP (regM orB xs0 (regM andB (canR (smallL xs 3)) (canR [(⟨0, 0, 5, 5⟩ : Rect)])))
      refine cont_fact (F := (0 < kB38q → (B36q : Option Addr) = some ⟨gB37q, 0, none⟩) ∧ (keepL hullP (regM orB xs1 (regM andB (canR (smallL xs 3)) (canR [(⟨0, 0, 5, 5⟩ : Rect)]))) 64).length = kB38q ∧ kB38q ≤ cB39q ∧ cB39q ≤ maxLen) (fun w hT => Row.factsR (hT.ok 1 _ rfl)) (fun hr42_ => ?_)
      obtain ⟨hr42_a, hr42_l, hr42_c, hr42_m⟩ := hr42_
      unfold maxLen at hr42_m
      have hkl43_ := keep_len64 hullP (regM orB xs1 (regM andB (canR (smallL xs 3)) (canR [(⟨0, 0, 5, 5⟩ : Rect)])))
      refine cont_done ?_
      refine then_normal ?_
      refine cont_seq ?_
      refine cont_seq ?_
      refine cont_region 10 rfl ?_
      refine bS [0] 1 9 [(0, .int .i64 at_), (1, .slice A n cap), (5, .pointer (some ⟨b1, 0, none⟩)), (7, .int .i64 (i : Int)), (29, .pointer (some ⟨b1, 0, none⟩))] ?_
      refine pl_step 2 8 rfl rfl ?_
      refine call_gen (d := 30) (α := Unit) (fun _ => .int .i64 (fr + 1)) (fun _ => [.gen (rowE (A32q) gA33q k34q cp35q 28 4 (rvals (keepL hullP (regM orB xs0 (regM andB (canR (smallL xs 3)) (canR [(⟨0, 0, 5, 5⟩ : Rect)]))) 64)) true), .gen (rowE (B36q) gB37q kB38q cB39q 28 4 (rvals (keepL hullP (regM orB xs1 (regM andB (canR (smallL xs 3)) (canR [(⟨0, 0, 5, 5⟩ : Rect)]))) 64)) true), .gen (rowE (A25) g26 k27 cp28 28 4 (rvals (smallL xs 3)) true), .cells b1 [.pointer (some ⟨m2, 0, none⟩), .pointer (some ⟨m15, 0, none⟩), .slice none 0 0, .slice B36q kB38q cB39q, .int .i64 (fr + 1), .int .i64 w1, .int .i64 (fr + 1), .int .i64 1] 98 true, .cells m2 [.int .i64 5, .int .i64 5, .slice (some ⟨r3, 0, none⟩) n4 n4] 115 true, .gen (rowE (some ⟨r3, 0, none⟩) r3 n4 n4 54 1 (ivals .u32 (List.replicate n4 0)) true), .cells m15 [.int .i64 5, .int .i64 5, .slice (some ⟨r16, 0, none⟩) n17 n17] 115 true, .gen (rowE (some ⟨r16, 0, none⟩) r16 n17 n17 54 1 (ivals .u32 (List.replicate n17 0)) true), .gen (rowE (Ax) gx kx cx 28 4 (rvals xs0) true), .gen (rowE (Ay) gy ky cy 28 4 (rvals xs1) true), .gen (rdE (A) g o n 4 (rvals xs))]) (fun _ => True) (by kernel_rfl) (fun w hT => (outFlip0 b1 m2 m15 A32q B36q k34q cp35q kB38q cB39q w0 w1 fr w (hT.view (.cons (i := 3) rfl Vw.rw .nil) (by decide)) (by omega)).mono fun e w' ⟨he_, ht_⟩ => ⟨(), he_, trivial, hT.merge (N := []) (s := [3]) ht_ (.cons (i := 3) rfl Mg.cells .nil) (by decide) (fun i e h => by simp at h)⟩) (fun _ _ => ?_)
      refine bS [0, 0, 0] 5 5 [(0, .int .i64 at_), (1, .slice A n cap), (5, .pointer (some ⟨b1, 0, none⟩)), (7, .int .i64 (i : Int)), (33, .bool ((fr + 1) != (i : Int)))] ?_
      refine cont_recast 33 (.bool ((fr + 1) != (i : Int))) (.bool false) rfl (congrArg Value.bool (by rw [show (fr + 1) = (i : Int) by omega]; exact bne_self_eq_false _)) ?_
      refine bS [0] 6 4 [(0, .int .i64 at_), (1, .slice A n cap), (5, .pointer (some ⟨b1, 0, none⟩)), (7, .int .i64 (i : Int)), (33, .bool false), (34, .pointer (some ⟨b1, 0, none⟩))] ?_
      refine pl_step 7 3 rfl rfl ?_
      refine call_pure (d := 35) (.int .i64 (fr + 1)) (by kernel_rfl) (fun w hT => outFrames b1 m2 m15 none B36q 0 0 kB38q cB39q (fr + 1) w1 (fr + 1) 1 w (hT.viewRo (.cons (i := 3) rfl Vw.roc .nil) rfl)) ?_
      refine bS [0, 0, 0] 10 0 [(0, .int .i64 at_), (1, .slice A n cap), (5, .pointer (some ⟨b1, 0, none⟩)), (7, .int .i64 (i : Int)), (34, .pointer (some ⟨b1, 0, none⟩)), (35, .int .i64 (fr + 1)), (36, .int .i64 (i : Int)), (37, .bool ((fr + 1) != (i : Int))), (38, .bool ((fr + 1) != (i : Int)))] ?_
      refine cont_done ?_
      refine then_normal ?_
      refine cont_recast 38 (.bool ((fr + 1) != (i : Int))) (.bool false) rfl (congrArg Value.bool (by rw [show (fr + 1) = (i : Int) by omega]; exact bne_self_eq_false _)) ?_
      refine cont_recast 37 (.bool ((fr + 1) != (i : Int))) (.bool false) rfl (congrArg Value.bool (by rw [show (fr + 1) = (i : Int) by omega]; exact bne_self_eq_false _)) ?_
      refine cont_false rfl ?_
      refine cont_skip ?_
      refine then_normal ?_
      refine cont_seq ?_
      refine cont_region 1 rfl ?_
      refine bS [0] 1 0 [(0, .int .i64 at_), (1, .slice A n cap), (5, .pointer (some ⟨b1, 0, none⟩)), (7, .int .i64 (i : Int)), (8, .int .i64 1), (34, .pointer (some ⟨b1, 0, none⟩)), (35, .int .i64 (fr + 1)), (36, .int .i64 (i : Int)), (37, .bool false)] ?_
      refine cont_done ?_
      refine then_normal ?_
      refine cont_seq ?_
      refine cont_seq ?_
      refine cont_region 2 rfl ?_
      refine bS [0, 0] 2 0 [(0, .int .i64 at_), (1, .slice A n cap), (5, .pointer (some ⟨b1, 0, none⟩)), (7, .int .i64 (i : Int)), (8, .int .i64 1), (34, .pointer (some ⟨b1, 0, none⟩)), (35, .int .i64 (fr + 1)), (36, .int .i64 (i : Int)), (37, .bool false), (40, .bool ((i : Int) == 1))] ?_
      refine cont_done ?_
      refine then_normal ?_
      refine cont_split 40 ((i : Int) == 1) rfl (fun c46_ => ?_) (fun c46_ => ?_)
      ·
        replace c46_ := eq_of_beqt c46_
        refine cont_true rfl ?_
        refine cont_region 1 rfl ?_
        refine bS [0] 1 0 [(0, .int .i64 at_), (1, .slice A n cap), (5, .pointer (some ⟨b1, 0, none⟩)), (7, .int .i64 (i : Int)), (8, .int .i64 0), (34, .pointer (some ⟨b1, 0, none⟩)), (35, .int .i64 (fr + 1)), (36, .int .i64 (i : Int)), (37, .bool false)] ?_
        refine cont_done ?_
        refine then_normal ?_
        refine cont_seq ?_
        refine cont_region 4 rfl ?_
        refine bS [0] 1 3 [(0, .int .i64 at_), (1, .slice A n cap), (5, .pointer (some ⟨b1, 0, none⟩)), (7, .int .i64 (i : Int)), (8, .int .i64 0), (34, .pointer (some ⟨b1, 0, none⟩)), (35, .int .i64 (fr + 1)), (36, .int .i64 (i : Int)), (37, .bool false), (41, .pointer (some ⟨b1, 0, none⟩))] ?_
        refine pl_step 2 2 rfl rfl ?_
        refine call_pure (d := 42) (.int .i64 (ageI w1 (fr + 1))) (by kernel_rfl) (fun w hT => outAge1 b1 m2 m15 none B36q 0 0 kB38q cB39q (fr + 1) w1 (fr + 1) w (hT.viewRo (.cons (i := 3) rfl Vw.roc .nil) rfl) (by omega)) ?_
        refine bS [0, 0] 4 0 [(0, .int .i64 at_), (1, .slice A n cap), (5, .pointer (some ⟨b1, 0, none⟩)), (7, .int .i64 (i : Int)), (34, .pointer (some ⟨b1, 0, none⟩)), (35, .int .i64 (fr + 1)), (36, .int .i64 (i : Int)), (37, .bool false), (44, .bool ((ageI w1 (fr + 1)) != 0))] ?_
        refine cont_done ?_
        refine then_normal ?_
        refine cont_recast 44 (.bool ((ageI w1 (fr + 1)) != 0)) (.bool false) rfl (congrArg Value.bool (by rw [show (ageI w1 (fr + 1)) = 0 by unfold ageI; split <;> omega]; exact bne_self_eq_false _)) ?_
        refine cont_false rfl ?_
        refine cont_skip ?_
        refine blk_normal ?_
        refine then_normal ?_
        refine cont_region 3 rfl ?_
        refine bS [0, 0] 2 1 [(0, .int .i64 at_), (1, .slice A n cap), (5, .pointer (some ⟨b1, 0, none⟩)), (24, .int .i64 (IntKind.i64.wrap ((i : Int) + 1))), (34, .pointer (some ⟨b1, 0, none⟩)), (35, .int .i64 (fr + 1)), (36, .int .i64 (i : Int)), (37, .bool false)] ?_
        refine cont_recast 24 (.int .i64 (IntKind.i64.wrap ((i : Int) + 1))) (.int .i64 ((i : Int) + 1)) rfl (wrapI (by omega) (by omega)) ?_
        refine bS [0] 3 0 [(0, .int .i64 at_), (1, .slice A n cap), (5, .pointer (some ⟨b1, 0, none⟩)), (7, .int .i64 ((i : Int) + 1)), (34, .pointer (some ⟨b1, 0, none⟩)), (35, .int .i64 (fr + 1)), (36, .int .i64 (i : Int)), (37, .bool false)] ?_
        refine cont_done ?_
        refine then_normal ?_
        refine cont_nilrow 28 4 ?_
        refine cont_norm [(0, .int .i64 at_), (1, .slice A n cap), (5, .pointer (some ⟨b1, 0, none⟩)), (7, .int .i64 ((i : Int) + 1)), (34, .pointer (some ⟨b1, 0, none⟩)), (35, .int .i64 (fr + 1)), (36, .int .i64 (i : Int)), (37, .bool false)] [.gen (rowE (none) 0 0 0 28 4 (rvals []) true), .gen (rowE (A32q) gA33q k34q cp35q 28 4 (rvals (keepL hullP (regM orB xs0 (regM andB (canR (smallL xs 3)) (canR [(⟨0, 0, 5, 5⟩ : Rect)]))) 64)) true), .gen (rowE (B36q) gB37q kB38q cB39q 28 4 (rvals (keepL hullP (regM orB xs1 (regM andB (canR (smallL xs 3)) (canR [(⟨0, 0, 5, 5⟩ : Rect)]))) 64)) true), .gen (rowE (A25) g26 k27 cp28 28 4 (rvals (smallL xs 3)) true), .cells b1 [.pointer (some ⟨m2, 0, none⟩), .pointer (some ⟨m15, 0, none⟩), .slice none 0 0, .slice B36q kB38q cB39q, .int .i64 (fr + 1), .int .i64 w1, .int .i64 (fr + 1), .int .i64 1] 98 true, .cells m2 [.int .i64 5, .int .i64 5, .slice (some ⟨r3, 0, none⟩) n4 n4] 115 true, .gen (rowE (some ⟨r3, 0, none⟩) r3 n4 n4 54 1 (ivals .u32 (List.replicate n4 0)) true), .cells m15 [.int .i64 5, .int .i64 5, .slice (some ⟨r16, 0, none⟩) n17 n17] 115 true, .gen (rowE (some ⟨r16, 0, none⟩) r16 n17 n17 54 1 (ivals .u32 (List.replicate n17 0)) true), .gen (rowE (Ax) gx kx cx 28 4 (rvals xs0) true), .gen (rowE (Ay) gy ky cy 28 4 (rvals xs1) true), .gen (rdE (A) g o n 4 (rvals xs))] (by kernel_rfl) rfl ?_
        refine cont_pick [4, 5, 6, 7, 8, 0, 2, 11] [.cells b1 [.pointer (some ⟨m2, 0, none⟩), .pointer (some ⟨m15, 0, none⟩), .slice none 0 0, .slice B36q kB38q cB39q, .int .i64 (fr + 1), .int .i64 w1, .int .i64 (fr + 1), .int .i64 1] 98 true, .cells m2 [.int .i64 5, .int .i64 5, .slice (some ⟨r3, 0, none⟩) n4 n4] 115 true, .gen (rowE (some ⟨r3, 0, none⟩) r3 n4 n4 54 1 (ivals .u32 (List.replicate n4 0)) true), .cells m15 [.int .i64 5, .int .i64 5, .slice (some ⟨r16, 0, none⟩) n17 n17] 115 true, .gen (rowE (some ⟨r16, 0, none⟩) r16 n17 n17 54 1 (ivals .u32 (List.replicate n17 0)) true), .gen (rowE (none) 0 0 0 28 4 (rvals []) true), .gen (rowE (B36q) gB37q kB38q cB39q 28 4 (rvals (keepL hullP (regM orB xs1 (regM andB (canR (smallL xs 3)) (canR [(⟨0, 0, 5, 5⟩ : Rect)]))) 64)) true), .gen (rdE (A) g o n 4 (rvals xs))] (by decide) rfl rfl ?_
        refine cont_norm [(0, .int .i64 at_), (1, .slice A n cap), (5, .pointer (some ⟨b1, 0, none⟩)), (7, .int .i64 ((i : Int) + 1)), (34, .pointer (some ⟨b1, 0, none⟩)), (35, .int .i64 (fr + 1)), (36, .int .i64 (i : Int)), (37, .bool false)] [.cells b1 [.pointer (some ⟨m2, 0, none⟩), .pointer (some ⟨m15, 0, none⟩), .slice none 0 0, .slice B36q kB38q cB39q, .int .i64 (fr + 1), .int .i64 w1, .int .i64 (fr + 1), .int .i64 1] 98 true, .cells m2 [.int .i64 5, .int .i64 5, .slice (some ⟨r3, 0, none⟩) n4 n4] 115 true, .gen (rowE (some ⟨r3, 0, none⟩) r3 n4 n4 54 1 (ivals .u32 (List.replicate n4 0)) true), .cells m15 [.int .i64 5, .int .i64 5, .slice (some ⟨r16, 0, none⟩) n17 n17] 115 true, .gen (rowE (some ⟨r16, 0, none⟩) r16 n17 n17 54 1 (ivals .u32 (List.replicate n17 0)) true), .gen (rowE (none) 0 0 0 28 4 (rvals []) true), .gen (rowE (B36q) gB37q kB38q cB39q 28 4 (rvals (keepL hullP (regM orB xs1 (regM andB (canR (smallL xs 3)) (canR [(⟨0, 0, 5, 5⟩ : Rect)]))) 64)) true), .gen (rdE (A) g o n 4 (rvals xs))] (by kernel_rfl) rfl ?_
        refine cont_again ((i + 1 : Nat), 1, fr + 1, w1, fr + 1, [], none, 0, 0, 0, keepL hullP (regM orB xs1 (regM andB (canR (smallL xs 3)) (canR [(⟨0, 0, 5, 5⟩ : Rect)]))) 64, B36q, gB37q, kB38q, cB39q) (show 1 ≤ ((i + 1 : Nat)) ∧ ((i + 1 : Nat)) ≤ 22 ∧ (1) ≤ 1 ∧ (fr + 1) = (((i + 1 : Nat)) : Int) - 1 ∧ ((1) = 0 → (fr + 1) = ((((i + 1 : Nat)) - 2 : Nat) : Int) ∧ (w1) = (((i + 1 : Nat)) : Int) - 1) ∧ ((1) = 1 → (w1) = ((((i + 1 : Nat)) - 2 : Nat) : Int) ∧ (fr + 1) = (((i + 1 : Nat)) : Int) - 1) ∧ (0) ≤ 64 ∧ (kB38q) ≤ 64 from ⟨by omega, by omega, by omega, by omega, by omega, by omega, by omega, by omega⟩) (show 40 - ((i + 1 : Nat)) < 40 - i from by omega) (by kernel_rfl) (by kernel_rfl)
      replace c46_ := ne_of_beqf c46_
      refine cont_false rfl ?_
      refine cont_skip ?_
      refine then_normal ?_
      refine cont_seq ?_
      refine cont_region 4 rfl ?_
      refine bS [0] 1 3 [(0, .int .i64 at_), (1, .slice A n cap), (5, .pointer (some ⟨b1, 0, none⟩)), (7, .int .i64 (i : Int)), (8, .int .i64 1), (34, .pointer (some ⟨b1, 0, none⟩)), (35, .int .i64 (fr + 1)), (36, .int .i64 (i : Int)), (37, .bool false), (41, .pointer (some ⟨b1, 0, none⟩))] ?_
      refine pl_step 2 2 rfl rfl ?_
      refine call_pure (d := 42) (.int .i64 (ageI w1 (fr + 1))) (by kernel_rfl) (fun w hT => outAge1 b1 m2 m15 none B36q 0 0 kB38q cB39q (fr + 1) w1 (fr + 1) w (hT.viewRo (.cons (i := 3) rfl Vw.roc .nil) rfl) (by omega)) ?_
      refine bS [0, 0] 4 0 [(0, .int .i64 at_), (1, .slice A n cap), (5, .pointer (some ⟨b1, 0, none⟩)), (7, .int .i64 (i : Int)), (34, .pointer (some ⟨b1, 0, none⟩)), (35, .int .i64 (fr + 1)), (36, .int .i64 (i : Int)), (37, .bool false), (44, .bool ((ageI w1 (fr + 1)) != 1))] ?_
      refine cont_done ?_
      refine then_normal ?_
      refine cont_recast 44 (.bool ((ageI w1 (fr + 1)) != 1)) (.bool false) rfl (congrArg Value.bool (by rw [show (ageI w1 (fr + 1)) = 1 by unfold ageI; split <;> omega]; exact bne_self_eq_false _)) ?_
      refine cont_false rfl ?_
      refine cont_skip ?_
      refine blk_normal ?_
      refine then_normal ?_
      refine cont_region 3 rfl ?_
      refine bS [0, 0] 2 1 [(0, .int .i64 at_), (1, .slice A n cap), (5, .pointer (some ⟨b1, 0, none⟩)), (24, .int .i64 (IntKind.i64.wrap ((i : Int) + 1))), (34, .pointer (some ⟨b1, 0, none⟩)), (35, .int .i64 (fr + 1)), (36, .int .i64 (i : Int)), (37, .bool false)] ?_
      refine cont_recast 24 (.int .i64 (IntKind.i64.wrap ((i : Int) + 1))) (.int .i64 ((i : Int) + 1)) rfl (wrapI (by omega) (by omega)) ?_
      refine bS [0] 3 0 [(0, .int .i64 at_), (1, .slice A n cap), (5, .pointer (some ⟨b1, 0, none⟩)), (7, .int .i64 ((i : Int) + 1)), (34, .pointer (some ⟨b1, 0, none⟩)), (35, .int .i64 (fr + 1)), (36, .int .i64 (i : Int)), (37, .bool false)] ?_
      refine cont_done ?_
      refine then_normal ?_
      refine cont_nilrow 28 4 ?_
      refine cont_norm [(0, .int .i64 at_), (1, .slice A n cap), (5, .pointer (some ⟨b1, 0, none⟩)), (7, .int .i64 ((i : Int) + 1)), (34, .pointer (some ⟨b1, 0, none⟩)), (35, .int .i64 (fr + 1)), (36, .int .i64 (i : Int)), (37, .bool false)] [.gen (rowE (none) 0 0 0 28 4 (rvals []) true), .gen (rowE (A32q) gA33q k34q cp35q 28 4 (rvals (keepL hullP (regM orB xs0 (regM andB (canR (smallL xs 3)) (canR [(⟨0, 0, 5, 5⟩ : Rect)]))) 64)) true), .gen (rowE (B36q) gB37q kB38q cB39q 28 4 (rvals (keepL hullP (regM orB xs1 (regM andB (canR (smallL xs 3)) (canR [(⟨0, 0, 5, 5⟩ : Rect)]))) 64)) true), .gen (rowE (A25) g26 k27 cp28 28 4 (rvals (smallL xs 3)) true), .cells b1 [.pointer (some ⟨m2, 0, none⟩), .pointer (some ⟨m15, 0, none⟩), .slice none 0 0, .slice B36q kB38q cB39q, .int .i64 (fr + 1), .int .i64 w1, .int .i64 (fr + 1), .int .i64 1] 98 true, .cells m2 [.int .i64 5, .int .i64 5, .slice (some ⟨r3, 0, none⟩) n4 n4] 115 true, .gen (rowE (some ⟨r3, 0, none⟩) r3 n4 n4 54 1 (ivals .u32 (List.replicate n4 0)) true), .cells m15 [.int .i64 5, .int .i64 5, .slice (some ⟨r16, 0, none⟩) n17 n17] 115 true, .gen (rowE (some ⟨r16, 0, none⟩) r16 n17 n17 54 1 (ivals .u32 (List.replicate n17 0)) true), .gen (rowE (Ax) gx kx cx 28 4 (rvals xs0) true), .gen (rowE (Ay) gy ky cy 28 4 (rvals xs1) true), .gen (rdE (A) g o n 4 (rvals xs))] (by kernel_rfl) rfl ?_
      refine cont_pick [4, 5, 6, 7, 8, 0, 2, 11] [.cells b1 [.pointer (some ⟨m2, 0, none⟩), .pointer (some ⟨m15, 0, none⟩), .slice none 0 0, .slice B36q kB38q cB39q, .int .i64 (fr + 1), .int .i64 w1, .int .i64 (fr + 1), .int .i64 1] 98 true, .cells m2 [.int .i64 5, .int .i64 5, .slice (some ⟨r3, 0, none⟩) n4 n4] 115 true, .gen (rowE (some ⟨r3, 0, none⟩) r3 n4 n4 54 1 (ivals .u32 (List.replicate n4 0)) true), .cells m15 [.int .i64 5, .int .i64 5, .slice (some ⟨r16, 0, none⟩) n17 n17] 115 true, .gen (rowE (some ⟨r16, 0, none⟩) r16 n17 n17 54 1 (ivals .u32 (List.replicate n17 0)) true), .gen (rowE (none) 0 0 0 28 4 (rvals []) true), .gen (rowE (B36q) gB37q kB38q cB39q 28 4 (rvals (keepL hullP (regM orB xs1 (regM andB (canR (smallL xs 3)) (canR [(⟨0, 0, 5, 5⟩ : Rect)]))) 64)) true), .gen (rdE (A) g o n 4 (rvals xs))] (by decide) rfl rfl ?_
      refine cont_norm [(0, .int .i64 at_), (1, .slice A n cap), (5, .pointer (some ⟨b1, 0, none⟩)), (7, .int .i64 ((i : Int) + 1)), (34, .pointer (some ⟨b1, 0, none⟩)), (35, .int .i64 (fr + 1)), (36, .int .i64 (i : Int)), (37, .bool false)] [.cells b1 [.pointer (some ⟨m2, 0, none⟩), .pointer (some ⟨m15, 0, none⟩), .slice none 0 0, .slice B36q kB38q cB39q, .int .i64 (fr + 1), .int .i64 w1, .int .i64 (fr + 1), .int .i64 1] 98 true, .cells m2 [.int .i64 5, .int .i64 5, .slice (some ⟨r3, 0, none⟩) n4 n4] 115 true, .gen (rowE (some ⟨r3, 0, none⟩) r3 n4 n4 54 1 (ivals .u32 (List.replicate n4 0)) true), .cells m15 [.int .i64 5, .int .i64 5, .slice (some ⟨r16, 0, none⟩) n17 n17] 115 true, .gen (rowE (some ⟨r16, 0, none⟩) r16 n17 n17 54 1 (ivals .u32 (List.replicate n17 0)) true), .gen (rowE (none) 0 0 0 28 4 (rvals []) true), .gen (rowE (B36q) gB37q kB38q cB39q 28 4 (rvals (keepL hullP (regM orB xs1 (regM andB (canR (smallL xs 3)) (canR [(⟨0, 0, 5, 5⟩ : Rect)]))) 64)) true), .gen (rdE (A) g o n 4 (rvals xs))] (by kernel_rfl) rfl ?_
      refine cont_again ((i + 1 : Nat), 1, fr + 1, w1, fr + 1, [], none, 0, 0, 0, keepL hullP (regM orB xs1 (regM andB (canR (smallL xs 3)) (canR [(⟨0, 0, 5, 5⟩ : Rect)]))) 64, B36q, gB37q, kB38q, cB39q) (show 1 ≤ ((i + 1 : Nat)) ∧ ((i + 1 : Nat)) ≤ 22 ∧ (1) ≤ 1 ∧ (fr + 1) = (((i + 1 : Nat)) : Int) - 1 ∧ ((1) = 0 → (fr + 1) = ((((i + 1 : Nat)) - 2 : Nat) : Int) ∧ (w1) = (((i + 1 : Nat)) : Int) - 1) ∧ ((1) = 1 → (w1) = ((((i + 1 : Nat)) - 2 : Nat) : Int) ∧ (fr + 1) = (((i + 1 : Nat)) : Int) - 1) ∧ (0) ≤ 64 ∧ (kB38q) ≤ 64 from ⟨by omega, by omega, by omega, by omega, by omega, by omega, by omega, by omega⟩) (show 40 - ((i + 1 : Nat)) < 40 - i from by omega) (by kernel_rfl) (by kernel_rfl)
    replace c24_ := of_decide_eq_false c24_
    refine cont_false rfl ?_
    refine cont_exit ?_
    refine then_exit ?_
    refine then_exit ?_
    refine blk_exit ?_
    refine then_normal ?_
    refine cont_seq ?_
    refine cont_region 2 rfl ?_
    refine pl_step 1 1 rfl rfl ?_
    refine call_pure (d := 45) (.bool true) (by kernel_rfl) (fun w hT => lives18  w) ?_
    refine bS [0] 2 0 [(4, .bool true)] ?_
    refine cont_forget 0 rfl ?_
    refine cont_forget 0 rfl ?_
    refine cont_forget 1 rfl ?_
    refine cont_done ?_
    refine then_normal ?_
    refine cont_ret ?_
    refine ret_one (.inl rfl) rfl 0 (.bool true) (by kernel_rfl) (by kernel_rfl) (fun w hT => ?_)
    exact ⟨rfl, hT.post rfl⟩
  ·
    refine cont_norm [(0, .int .i64 at_), (1, .slice A n cap), (5, .pointer (some ⟨b1, 0, none⟩)), (7, .int .i64 (i : Int))] [.cells b1 [.pointer (some ⟨m2, 0, none⟩), .pointer (some ⟨m15, 0, none⟩), .slice Ax kx cx, .slice Ay ky cy, .int .i64 w0, .int .i64 w1, .int .i64 fr, .int .i64 1] 98 true, .cells m2 [.int .i64 5, .int .i64 5, .slice (some ⟨r3, 0, none⟩) n4 n4] 115 true, .gen (rowE (some ⟨r3, 0, none⟩) r3 n4 n4 54 1 (ivals .u32 (List.replicate n4 0)) true), .cells m15 [.int .i64 5, .int .i64 5, .slice (some ⟨r16, 0, none⟩) n17 n17] 115 true, .gen (rowE (some ⟨r16, 0, none⟩) r16 n17 n17 54 1 (ivals .u32 (List.replicate n17 0)) true), .gen (rowE (Ax) gx kx cx 28 4 (rvals xs0) true), .gen (rowE (Ay) gy ky cy 28 4 (rvals xs1) true), .gen (rdE (A) g o n 4 (rvals xs))] (by kernel_rfl) rfl ?_
    refine cont_fact (F := (0 < kx → (Ax : Option Addr) = some ⟨gx, 0, none⟩) ∧ xs0.length = kx ∧ kx ≤ cx ∧ cx ≤ maxLen) (fun w hT => Row.factsR (hT.ok 5 _ rfl)) (fun hr51_ => ?_)
    obtain ⟨hr51_a, hr51_l, hr51_c, hr51_m⟩ := hr51_
    unfold maxLen at hr51_m
    refine cont_fact (F := (0 < ky → (Ay : Option Addr) = some ⟨gy, 0, none⟩) ∧ xs1.length = ky ∧ ky ≤ cy ∧ cy ≤ maxLen) (fun w hT => Row.factsR (hT.ok 6 _ rfl)) (fun hr52_ => ?_)
    obtain ⟨hr52_a, hr52_l, hr52_c, hr52_m⟩ := hr52_
    unfold maxLen at hr52_m
    refine cont_seq ?_
    refine cont_seq ?_
    refine cont_region 4 rfl ?_
    refine bS [0, 0] 2 2 [(0, .int .i64 at_), (1, .slice A n cap), (5, .pointer (some ⟨b1, 0, none⟩)), (7, .int .i64 (i : Int)), (19, .int .i64 (i : Int)), (20, .int .i64 at_)] ?_
    refine pl_step 3 1 rfl rfl ?_
    refine call_pure (d := 21) (.int .i64 (aroundI at_ 21)) (by kernel_rfl) (fun w hT => refAround at_ 21 w (by omega) (by omega)) ?_
    have hq53_ := aroundI_range at_ (m := 21) (by omega)
    refine bS [0] 4 0 [(0, .int .i64 at_), (1, .slice A n cap), (5, .pointer (some ⟨b1, 0, none⟩)), (7, .int .i64 (i : Int)), (22, .bool (decide ((i : Int) ≤ (aroundI at_ 21))))] ?_
    refine cont_done ?_
    refine then_normal ?_
    refine cont_split 22 (decide ((i : Int) ≤ (aroundI at_ 21))) rfl (fun c54_ => ?_) (fun c54_ => ?_)
    ·
      replace c54_ := of_decide_eq_true c54_
      refine cont_true rfl ?_
      refine cont_skip ?_
      refine then_normal ?_
      refine cont_seq ?_
      refine cont_block ?_
      refine cont_seq ?_
      refine cont_region 4 rfl ?_
      refine bS [0, 0] 2 2 [(0, .int .i64 at_), (1, .slice A n cap), (5, .pointer (some ⟨b1, 0, none⟩)), (7, .int .i64 (i : Int)), (25, .pointer (some ⟨b1, 0, none⟩)), (26, .slice A n cap)] ?_
      refine pl_step 3 1 rfl rfl ?_
      refine call_gen (d := 27) (α := Option Addr × Nat × Nat × Nat) (fun x_ => .slice x_.1 x_.2.2.1 x_.2.2.2) (fun x_ => [.gen (rowE (x_.1) x_.2.1 x_.2.2.1 x_.2.2.2 28 4 (rvals (smallL xs 3)) true), .cells b1 [.pointer (some ⟨m2, 0, none⟩), .pointer (some ⟨m15, 0, none⟩), .slice Ax kx cx, .slice Ay ky cy, .int .i64 w0, .int .i64 w1, .int .i64 fr, .int .i64 1] 98 true, .cells m2 [.int .i64 5, .int .i64 5, .slice (some ⟨r3, 0, none⟩) n4 n4] 115 true, .gen (rowE (some ⟨r3, 0, none⟩) r3 n4 n4 54 1 (ivals .u32 (List.replicate n4 0)) true), .cells m15 [.int .i64 5, .int .i64 5, .slice (some ⟨r16, 0, none⟩) n17 n17] 115 true, .gen (rowE (some ⟨r16, 0, none⟩) r16 n17 n17 54 1 (ivals .u32 (List.replicate n17 0)) true), .gen (rowE (Ax) gx kx cx 28 4 (rvals xs0) true), .gen (rowE (Ay) gy ky cy 28 4 (rvals xs1) true), .gen (rdE (A) g o n 4 (rvals xs))]) (fun x_ => True) (by kernel_rfl) (fun w hT => (refSmallL A g o n cap xs 3 w (hT.viewRo (.cons (i := 7) rfl Vw.rd .nil) rfl) hx (by omega)).mono fun e w' ⟨A55, g56, k57, cp58, he_, ht_⟩ => ⟨(A55, g56, k57, cp58), he_, trivial, hT.news ht_ rfl⟩) ?_
      rintro ⟨A55, g56, k57, cp58⟩ hf59_
      refine cont_norm [(0, .int .i64 at_), (1, .slice A n cap), (5, .pointer (some ⟨b1, 0, none⟩)), (7, .int .i64 (i : Int)), (25, .pointer (some ⟨b1, 0, none⟩)), (26, .slice A n cap), (27, .slice A55 k57 cp58)] [.gen (rowE (A55) g56 k57 cp58 28 4 (rvals (smallL xs 3)) true), .cells b1 [.pointer (some ⟨m2, 0, none⟩), .pointer (some ⟨m15, 0, none⟩), .slice Ax kx cx, .slice Ay ky cy, .int .i64 w0, .int .i64 w1, .int .i64 fr, .int .i64 1] 98 true, .cells m2 [.int .i64 5, .int .i64 5, .slice (some ⟨r3, 0, none⟩) n4 n4] 115 true, .gen (rowE (some ⟨r3, 0, none⟩) r3 n4 n4 54 1 (ivals .u32 (List.replicate n4 0)) true), .cells m15 [.int .i64 5, .int .i64 5, .slice (some ⟨r16, 0, none⟩) n17 n17] 115 true, .gen (rowE (some ⟨r16, 0, none⟩) r16 n17 n17 54 1 (ivals .u32 (List.replicate n17 0)) true), .gen (rowE (Ax) gx kx cx 28 4 (rvals xs0) true), .gen (rowE (Ay) gy ky cy 28 4 (rvals xs1) true), .gen (rdE (A) g o n 4 (rvals xs))] (by kernel_rfl) rfl ?_
      refine cont_fact (F := (0 < k57 → (A55 : Option Addr) = some ⟨g56, 0, none⟩) ∧ (smallL xs 3).length = k57 ∧ k57 ≤ cp58 ∧ cp58 ≤ maxLen) (fun w hT => Row.factsR (hT.ok 0 _ rfl)) (fun hr60_ => ?_)
      obtain ⟨hr60_a, hr60_l, hr60_c, hr60_m⟩ := hr60_
      unfold maxLen at hr60_m
      have hsl61_ := smallL_length xs 3
      refine pl_step 4 0 rfl rfl ?_
      refine call_gen (d := 28) (α := Option Addr × Nat × Nat × Nat × Option Addr × Nat × Nat × Nat) (fun _ => .tuple #[]) (fun x_ => [.gen (rowE (x_.1) x_.2.1 x_.2.2.1 x_.2.2.2.1 28 4 (rvals (keepL hullP (regM orB xs0 (regM andB (canR (smallL xs 3)) (canR [(⟨0, 0, 5, 5⟩ : Rect)]))) 64)) true), .gen (rowE (x_.2.2.2.2.1) x_.2.2.2.2.2.1 x_.2.2.2.2.2.2.1 x_.2.2.2.2.2.2.2 28 4 (rvals (keepL hullP (regM orB xs1 (regM andB (canR (smallL xs 3)) (canR [(⟨0, 0, 5, 5⟩ : Rect)]))) 64)) true), .gen (rowE (A55) g56 k57 cp58 28 4 (rvals (smallL xs 3)) true), .cells b1 [.pointer (some ⟨m2, 0, none⟩), .pointer (some ⟨m15, 0, none⟩), .slice x_.1 x_.2.2.1 x_.2.2.2.1, .slice x_.2.2.2.2.1 x_.2.2.2.2.2.2.1 x_.2.2.2.2.2.2.2, .int .i64 w0, .int .i64 w1, .int .i64 fr, .int .i64 1] 98 true, .cells m2 [.int .i64 5, .int .i64 5, .slice (some ⟨r3, 0, none⟩) n4 n4] 115 true, .gen (rowE (some ⟨r3, 0, none⟩) r3 n4 n4 54 1 (ivals .u32 (List.replicate n4 0)) true), .cells m15 [.int .i64 5, .int .i64 5, .slice (some ⟨r16, 0, none⟩) n17 n17] 115 true, .gen (rowE (some ⟨r16, 0, none⟩) r16 n17 n17 54 1 (ivals .u32 (List.replicate n17 0)) true), .gen (rowE (Ax) gx kx cx 28 4 (rvals xs0) true), .gen (rowE (Ay) gy ky cy 28 4 (rvals xs1) true), .gen (rdE (A) g o n 4 (rvals xs))]) (fun _ => True) (by kernel_rfl) (fun w hT => (outDamage b1 m2 m15 Ax Ay kx cx ky cy w0 w1 fr 1 5 5 r3 n4 n4 (List.replicate n4 0) gx xs0 gy xs1 A55 g56 0 k57 cp58 (smallL xs 3) w (hT.view (.cons (i := 1) rfl Vw.rw (.cons (i := 2) rfl Vw.roc (.cons (i := 3) rfl Vw.rowRd (.cons (i := 6) rfl Vw.rowRd (.cons (i := 7) rfl Vw.rowRd (.cons (i := 0) rfl Vw.rowRd .nil)))))) (by decide)) (by omega) (imgOk_new (by decide) hf16_a) (by omega) (by omega) (by omega)).mono fun e w' ⟨A62q, gA63q, k64q, cp65q, B66q, gB67q, kB68q, cB69q, he_, ht_⟩ => ⟨(A62q, gA63q, k64q, cp65q, B66q, gB67q, kB68q, cB69q), he_, trivial, hT.merge (N := [.gen (rowE (A62q) gA63q k64q cp65q 28 4 (rvals (keepL hullP (regM orB xs0 (regM andB (canR (smallL xs 3)) (canR [(⟨0, 0, 5, 5⟩ : Rect)]))) 64)) true), .gen (rowE (B66q) gB67q kB68q cB69q 28 4 (rvals (keepL hullP (regM orB xs1 (regM andB (canR (smallL xs 3)) (canR [(⟨0, 0, 5, 5⟩ : Rect)]))) 64)) true)]) (s := [1, 2, 3, 6, 7, 0]) ht_ (.cons (i := 1) rfl Mg.cells (.skip rfl (.skip rfl (.skip rfl (.skip rfl (.skip rfl .nil)))))) (by decide) (allOwn_get rfl)⟩) ?_
      rintro ⟨A62q, gA63q, k64q, cp65q, B66q, gB67q, kB68q, cB69q⟩ -
      refine cont_norm [(0, .int .i64 at_), (1, .slice A n cap), (5, .pointer (some ⟨b1, 0, none⟩)), (7, .int .i64 (i : Int)), (25, .pointer (some ⟨b1, 0, none⟩)), (26, .slice A n cap), (27, .slice A55 k57 cp58), (28, .tuple #[])] [.gen (rowE (A62q) gA63q k64q cp65q 28 4 (rvals (keepL hullP (regM orB xs0 (regM andB (canR (smallL xs 3)) (canR [(⟨0, 0, 5, 5⟩ : Rect)]))) 64)) true), .gen (rowE (B66q) gB67q kB68q cB69q 28 4 (rvals (keepL hullP (regM orB xs1 (regM andB (canR (smallL xs 3)) (canR [(⟨0, 0, 5, 5⟩ : Rect)]))) 64)) true), .gen (rowE (A55) g56 k57 cp58 28 4 (rvals (smallL xs 3)) true), .cells b1 [.pointer (some ⟨m2, 0, none⟩), .pointer (some ⟨m15, 0, none⟩), .slice A62q k64q cp65q, .slice B66q kB68q cB69q, .int .i64 w0, .int .i64 w1, .int .i64 fr, .int .i64 1] 98 true, .cells m2 [.int .i64 5, .int .i64 5, .slice (some ⟨r3, 0, none⟩) n4 n4] 115 true, .gen (rowE (some ⟨r3, 0, none⟩) r3 n4 n4 54 1 (ivals .u32 (List.replicate n4 0)) true), .cells m15 [.int .i64 5, .int .i64 5, .slice (some ⟨r16, 0, none⟩) n17 n17] 115 true, .gen (rowE (some ⟨r16, 0, none⟩) r16 n17 n17 54 1 (ivals .u32 (List.replicate n17 0)) true), .gen (rowE (Ax) gx kx cx 28 4 (rvals xs0) true), .gen (rowE (Ay) gy ky cy 28 4 (rvals xs1) true), .gen (rdE (A) g o n 4 (rvals xs))] (by kernel_rfl) rfl ?_
      refine cont_fact (F := (0 < k64q → (A62q : Option Addr) = some ⟨gA63q, 0, none⟩) ∧ (keepL hullP (regM orB xs0 (regM andB (canR (smallL xs 3)) (canR [(⟨0, 0, 5, 5⟩ : Rect)]))) 64).length = k64q ∧ k64q ≤ cp65q ∧ cp65q ≤ maxLen) (fun w hT => Row.factsR (hT.ok 0 _ rfl)) (fun hr70_ => ?_)
      obtain ⟨hr70_a, hr70_l, hr70_c, hr70_m⟩ := hr70_
      unfold maxLen at hr70_m
      have hkl71_ := keep_len64 hullP (regM orB xs0 (regM andB (canR (smallL xs 3)) (canR [(⟨0, 0, 5, 5⟩ : Rect)])))
      refine cont_fact (F := (0 < kB68q → (B66q : Option Addr) = some ⟨gB67q, 0, none⟩) ∧ (keepL hullP (regM orB xs1 (regM andB (canR (smallL xs 3)) (canR [(⟨0, 0, 5, 5⟩ : Rect)]))) 64).length = kB68q ∧ kB68q ≤ cB69q ∧ cB69q ≤ maxLen) (fun w hT => Row.factsR (hT.ok 1 _ rfl)) (fun hr72_ => ?_)
      obtain ⟨hr72_a, hr72_l, hr72_c, hr72_m⟩ := hr72_
      unfold maxLen at hr72_m
      have hkl73_ := keep_len64 hullP (regM orB xs1 (regM andB (canR (smallL xs 3)) (canR [(⟨0, 0, 5, 5⟩ : Rect)])))
      refine cont_done ?_
      refine then_normal ?_
      refine cont_seq ?_
      refine cont_seq ?_
      refine cont_region 10 rfl ?_
      refine bS [0] 1 9 [(0, .int .i64 at_), (1, .slice A n cap), (5, .pointer (some ⟨b1, 0, none⟩)), (7, .int .i64 (i : Int)), (29, .pointer (some ⟨b1, 0, none⟩))] ?_
      refine pl_step 2 8 rfl rfl ?_
      refine call_gen (d := 30) (α := Unit) (fun _ => .int .i64 (fr + 1)) (fun _ => [.gen (rowE (A62q) gA63q k64q cp65q 28 4 (rvals (keepL hullP (regM orB xs0 (regM andB (canR (smallL xs 3)) (canR [(⟨0, 0, 5, 5⟩ : Rect)]))) 64)) true), .gen (rowE (B66q) gB67q kB68q cB69q 28 4 (rvals (keepL hullP (regM orB xs1 (regM andB (canR (smallL xs 3)) (canR [(⟨0, 0, 5, 5⟩ : Rect)]))) 64)) true), .gen (rowE (A55) g56 k57 cp58 28 4 (rvals (smallL xs 3)) true), .cells b1 [.pointer (some ⟨m2, 0, none⟩), .pointer (some ⟨m15, 0, none⟩), .slice A62q k64q cp65q, .slice none 0 0, .int .i64 w0, .int .i64 (fr + 1), .int .i64 (fr + 1), .int .i64 0] 98 true, .cells m2 [.int .i64 5, .int .i64 5, .slice (some ⟨r3, 0, none⟩) n4 n4] 115 true, .gen (rowE (some ⟨r3, 0, none⟩) r3 n4 n4 54 1 (ivals .u32 (List.replicate n4 0)) true), .cells m15 [.int .i64 5, .int .i64 5, .slice (some ⟨r16, 0, none⟩) n17 n17] 115 true, .gen (rowE (some ⟨r16, 0, none⟩) r16 n17 n17 54 1 (ivals .u32 (List.replicate n17 0)) true), .gen (rowE (Ax) gx kx cx 28 4 (rvals xs0) true), .gen (rowE (Ay) gy ky cy 28 4 (rvals xs1) true), .gen (rdE (A) g o n 4 (rvals xs))]) (fun _ => True) (by kernel_rfl) (fun w hT => (outFlip1 b1 m2 m15 A62q B66q k64q cp65q kB68q cB69q w0 w1 fr w (hT.view (.cons (i := 3) rfl Vw.rw .nil) (by decide)) (by omega)).mono fun e w' ⟨he_, ht_⟩ => ⟨(), he_, trivial, hT.merge (N := []) (s := [3]) ht_ (.cons (i := 3) rfl Mg.cells .nil) (by decide) (fun i e h => by simp at h)⟩) (fun _ _ => ?_)
      refine bS [0, 0, 0] 5 5 [(0, .int .i64 at_), (1, .slice A n cap), (5, .pointer (some ⟨b1, 0, none⟩)), (7, .int .i64 (i : Int)), (33, .bool ((fr + 1) != (i : Int)))] ?_
      refine cont_recast 33 (.bool ((fr + 1) != (i : Int))) (.bool false) rfl (congrArg Value.bool (by rw [show (fr + 1) = (i : Int) by omega]; exact bne_self_eq_false _)) ?_
      refine bS [0] 6 4 [(0, .int .i64 at_), (1, .slice A n cap), (5, .pointer (some ⟨b1, 0, none⟩)), (7, .int .i64 (i : Int)), (33, .bool false), (34, .pointer (some ⟨b1, 0, none⟩))] ?_
      refine pl_step 7 3 rfl rfl ?_
      refine call_pure (d := 35) (.int .i64 (fr + 1)) (by kernel_rfl) (fun w hT => outFrames b1 m2 m15 A62q none k64q cp65q 0 0 w0 (fr + 1) (fr + 1) 0 w (hT.viewRo (.cons (i := 3) rfl Vw.roc .nil) rfl)) ?_
      refine bS [0, 0, 0] 10 0 [(0, .int .i64 at_), (1, .slice A n cap), (5, .pointer (some ⟨b1, 0, none⟩)), (7, .int .i64 (i : Int)), (34, .pointer (some ⟨b1, 0, none⟩)), (35, .int .i64 (fr + 1)), (36, .int .i64 (i : Int)), (37, .bool ((fr + 1) != (i : Int))), (38, .bool ((fr + 1) != (i : Int)))] ?_
      refine cont_done ?_
      refine then_normal ?_
      refine cont_recast 38 (.bool ((fr + 1) != (i : Int))) (.bool false) rfl (congrArg Value.bool (by rw [show (fr + 1) = (i : Int) by omega]; exact bne_self_eq_false _)) ?_
      refine cont_recast 37 (.bool ((fr + 1) != (i : Int))) (.bool false) rfl (congrArg Value.bool (by rw [show (fr + 1) = (i : Int) by omega]; exact bne_self_eq_false _)) ?_
      refine cont_false rfl ?_
      refine cont_skip ?_
      refine then_normal ?_
      refine cont_seq ?_
      refine cont_region 1 rfl ?_
      refine bS [0] 1 0 [(0, .int .i64 at_), (1, .slice A n cap), (5, .pointer (some ⟨b1, 0, none⟩)), (7, .int .i64 (i : Int)), (8, .int .i64 1), (34, .pointer (some ⟨b1, 0, none⟩)), (35, .int .i64 (fr + 1)), (36, .int .i64 (i : Int)), (37, .bool false)] ?_
      refine cont_done ?_
      refine then_normal ?_
      refine cont_seq ?_
      refine cont_seq ?_
      refine cont_region 2 rfl ?_
      refine bS [0, 0] 2 0 [(0, .int .i64 at_), (1, .slice A n cap), (5, .pointer (some ⟨b1, 0, none⟩)), (7, .int .i64 (i : Int)), (8, .int .i64 1), (34, .pointer (some ⟨b1, 0, none⟩)), (35, .int .i64 (fr + 1)), (36, .int .i64 (i : Int)), (37, .bool false), (40, .bool ((i : Int) == 1))] ?_
      refine cont_done ?_
      refine then_normal ?_
      refine cont_split 40 ((i : Int) == 1) rfl (fun c76_ => ?_) (fun c76_ => ?_)
      ·
        replace c76_ := eq_of_beqt c76_
        refine cont_true rfl ?_
        refine cont_region 1 rfl ?_
        refine bS [0] 1 0 [(0, .int .i64 at_), (1, .slice A n cap), (5, .pointer (some ⟨b1, 0, none⟩)), (7, .int .i64 (i : Int)), (8, .int .i64 0), (34, .pointer (some ⟨b1, 0, none⟩)), (35, .int .i64 (fr + 1)), (36, .int .i64 (i : Int)), (37, .bool false)] ?_
        refine cont_done ?_
        refine then_normal ?_
        refine cont_seq ?_
        refine cont_region 4 rfl ?_
        refine bS [0] 1 3 [(0, .int .i64 at_), (1, .slice A n cap), (5, .pointer (some ⟨b1, 0, none⟩)), (7, .int .i64 (i : Int)), (8, .int .i64 0), (34, .pointer (some ⟨b1, 0, none⟩)), (35, .int .i64 (fr + 1)), (36, .int .i64 (i : Int)), (37, .bool false), (41, .pointer (some ⟨b1, 0, none⟩))] ?_
        refine pl_step 2 2 rfl rfl ?_
        refine call_pure (d := 42) (.int .i64 (ageI w0 (fr + 1))) (by kernel_rfl) (fun w hT => outAge0 b1 m2 m15 A62q none k64q cp65q 0 0 w0 (fr + 1) (fr + 1) w (hT.viewRo (.cons (i := 3) rfl Vw.roc .nil) rfl) (by omega)) ?_
        refine bS [0, 0] 4 0 [(0, .int .i64 at_), (1, .slice A n cap), (5, .pointer (some ⟨b1, 0, none⟩)), (7, .int .i64 (i : Int)), (34, .pointer (some ⟨b1, 0, none⟩)), (35, .int .i64 (fr + 1)), (36, .int .i64 (i : Int)), (37, .bool false), (44, .bool ((ageI w0 (fr + 1)) != 0))] ?_
        refine cont_done ?_
        refine then_normal ?_
        refine cont_recast 44 (.bool ((ageI w0 (fr + 1)) != 0)) (.bool false) rfl (congrArg Value.bool (by rw [show (ageI w0 (fr + 1)) = 0 by unfold ageI; split <;> omega]; exact bne_self_eq_false _)) ?_
        refine cont_false rfl ?_
        refine cont_skip ?_
        refine blk_normal ?_
        refine then_normal ?_
        refine cont_region 3 rfl ?_
        refine bS [0, 0] 2 1 [(0, .int .i64 at_), (1, .slice A n cap), (5, .pointer (some ⟨b1, 0, none⟩)), (24, .int .i64 (IntKind.i64.wrap ((i : Int) + 1))), (34, .pointer (some ⟨b1, 0, none⟩)), (35, .int .i64 (fr + 1)), (36, .int .i64 (i : Int)), (37, .bool false)] ?_
        refine cont_recast 24 (.int .i64 (IntKind.i64.wrap ((i : Int) + 1))) (.int .i64 ((i : Int) + 1)) rfl (wrapI (by omega) (by omega)) ?_
        refine bS [0] 3 0 [(0, .int .i64 at_), (1, .slice A n cap), (5, .pointer (some ⟨b1, 0, none⟩)), (7, .int .i64 ((i : Int) + 1)), (34, .pointer (some ⟨b1, 0, none⟩)), (35, .int .i64 (fr + 1)), (36, .int .i64 (i : Int)), (37, .bool false)] ?_
        refine cont_done ?_
        refine then_normal ?_
        refine cont_nilrow 28 4 ?_
        refine cont_norm [(0, .int .i64 at_), (1, .slice A n cap), (5, .pointer (some ⟨b1, 0, none⟩)), (7, .int .i64 ((i : Int) + 1)), (34, .pointer (some ⟨b1, 0, none⟩)), (35, .int .i64 (fr + 1)), (36, .int .i64 (i : Int)), (37, .bool false)] [.gen (rowE (none) 0 0 0 28 4 (rvals []) true), .gen (rowE (A62q) gA63q k64q cp65q 28 4 (rvals (keepL hullP (regM orB xs0 (regM andB (canR (smallL xs 3)) (canR [(⟨0, 0, 5, 5⟩ : Rect)]))) 64)) true), .gen (rowE (B66q) gB67q kB68q cB69q 28 4 (rvals (keepL hullP (regM orB xs1 (regM andB (canR (smallL xs 3)) (canR [(⟨0, 0, 5, 5⟩ : Rect)]))) 64)) true), .gen (rowE (A55) g56 k57 cp58 28 4 (rvals (smallL xs 3)) true), .cells b1 [.pointer (some ⟨m2, 0, none⟩), .pointer (some ⟨m15, 0, none⟩), .slice A62q k64q cp65q, .slice none 0 0, .int .i64 w0, .int .i64 (fr + 1), .int .i64 (fr + 1), .int .i64 0] 98 true, .cells m2 [.int .i64 5, .int .i64 5, .slice (some ⟨r3, 0, none⟩) n4 n4] 115 true, .gen (rowE (some ⟨r3, 0, none⟩) r3 n4 n4 54 1 (ivals .u32 (List.replicate n4 0)) true), .cells m15 [.int .i64 5, .int .i64 5, .slice (some ⟨r16, 0, none⟩) n17 n17] 115 true, .gen (rowE (some ⟨r16, 0, none⟩) r16 n17 n17 54 1 (ivals .u32 (List.replicate n17 0)) true), .gen (rowE (Ax) gx kx cx 28 4 (rvals xs0) true), .gen (rowE (Ay) gy ky cy 28 4 (rvals xs1) true), .gen (rdE (A) g o n 4 (rvals xs))] (by kernel_rfl) rfl ?_
        refine cont_pick [4, 5, 6, 7, 8, 1, 0, 11] [.cells b1 [.pointer (some ⟨m2, 0, none⟩), .pointer (some ⟨m15, 0, none⟩), .slice A62q k64q cp65q, .slice none 0 0, .int .i64 w0, .int .i64 (fr + 1), .int .i64 (fr + 1), .int .i64 0] 98 true, .cells m2 [.int .i64 5, .int .i64 5, .slice (some ⟨r3, 0, none⟩) n4 n4] 115 true, .gen (rowE (some ⟨r3, 0, none⟩) r3 n4 n4 54 1 (ivals .u32 (List.replicate n4 0)) true), .cells m15 [.int .i64 5, .int .i64 5, .slice (some ⟨r16, 0, none⟩) n17 n17] 115 true, .gen (rowE (some ⟨r16, 0, none⟩) r16 n17 n17 54 1 (ivals .u32 (List.replicate n17 0)) true), .gen (rowE (A62q) gA63q k64q cp65q 28 4 (rvals (keepL hullP (regM orB xs0 (regM andB (canR (smallL xs 3)) (canR [(⟨0, 0, 5, 5⟩ : Rect)]))) 64)) true), .gen (rowE (none) 0 0 0 28 4 (rvals []) true), .gen (rdE (A) g o n 4 (rvals xs))] (by decide) rfl rfl ?_
        refine cont_norm [(0, .int .i64 at_), (1, .slice A n cap), (5, .pointer (some ⟨b1, 0, none⟩)), (7, .int .i64 ((i : Int) + 1)), (34, .pointer (some ⟨b1, 0, none⟩)), (35, .int .i64 (fr + 1)), (36, .int .i64 (i : Int)), (37, .bool false)] [.cells b1 [.pointer (some ⟨m2, 0, none⟩), .pointer (some ⟨m15, 0, none⟩), .slice A62q k64q cp65q, .slice none 0 0, .int .i64 w0, .int .i64 (fr + 1), .int .i64 (fr + 1), .int .i64 0] 98 true, .cells m2 [.int .i64 5, .int .i64 5, .slice (some ⟨r3, 0, none⟩) n4 n4] 115 true, .gen (rowE (some ⟨r3, 0, none⟩) r3 n4 n4 54 1 (ivals .u32 (List.replicate n4 0)) true), .cells m15 [.int .i64 5, .int .i64 5, .slice (some ⟨r16, 0, none⟩) n17 n17] 115 true, .gen (rowE (some ⟨r16, 0, none⟩) r16 n17 n17 54 1 (ivals .u32 (List.replicate n17 0)) true), .gen (rowE (A62q) gA63q k64q cp65q 28 4 (rvals (keepL hullP (regM orB xs0 (regM andB (canR (smallL xs 3)) (canR [(⟨0, 0, 5, 5⟩ : Rect)]))) 64)) true), .gen (rowE (none) 0 0 0 28 4 (rvals []) true), .gen (rdE (A) g o n 4 (rvals xs))] (by kernel_rfl) rfl ?_
        refine cont_again ((i + 1 : Nat), 0, w0, fr + 1, fr + 1, keepL hullP (regM orB xs0 (regM andB (canR (smallL xs 3)) (canR [(⟨0, 0, 5, 5⟩ : Rect)]))) 64, A62q, gA63q, k64q, cp65q, [], none, 0, 0, 0) (show 1 ≤ ((i + 1 : Nat)) ∧ ((i + 1 : Nat)) ≤ 22 ∧ (0) ≤ 1 ∧ (fr + 1) = (((i + 1 : Nat)) : Int) - 1 ∧ ((0) = 0 → (w0) = ((((i + 1 : Nat)) - 2 : Nat) : Int) ∧ (fr + 1) = (((i + 1 : Nat)) : Int) - 1) ∧ ((0) = 1 → (fr + 1) = ((((i + 1 : Nat)) - 2 : Nat) : Int) ∧ (w0) = (((i + 1 : Nat)) : Int) - 1) ∧ (k64q) ≤ 64 ∧ (0) ≤ 64 from ⟨by omega, by omega, by omega, by omega, by omega, by omega, by omega, by omega⟩) (show 40 - ((i + 1 : Nat)) < 40 - i from by omega) (by kernel_rfl) (by kernel_rfl)
      replace c76_ := ne_of_beqf c76_
      refine cont_false rfl ?_
      refine cont_skip ?_
      refine then_normal ?_
      refine cont_seq ?_
      refine cont_region 4 rfl ?_
      refine bS [0] 1 3 [(0, .int .i64 at_), (1, .slice A n cap), (5, .pointer (some ⟨b1, 0, none⟩)), (7, .int .i64 (i : Int)), (8, .int .i64 1), (34, .pointer (some ⟨b1, 0, none⟩)), (35, .int .i64 (fr + 1)), (36, .int .i64 (i : Int)), (37, .bool false), (41, .pointer (some ⟨b1, 0, none⟩))] ?_
      refine pl_step 2 2 rfl rfl ?_
      refine call_pure (d := 42) (.int .i64 (ageI w0 (fr + 1))) (by kernel_rfl) (fun w hT => outAge0 b1 m2 m15 A62q none k64q cp65q 0 0 w0 (fr + 1) (fr + 1) w (hT.viewRo (.cons (i := 3) rfl Vw.roc .nil) rfl) (by omega)) ?_
      refine bS [0, 0] 4 0 [(0, .int .i64 at_), (1, .slice A n cap), (5, .pointer (some ⟨b1, 0, none⟩)), (7, .int .i64 (i : Int)), (34, .pointer (some ⟨b1, 0, none⟩)), (35, .int .i64 (fr + 1)), (36, .int .i64 (i : Int)), (37, .bool false), (44, .bool ((ageI w0 (fr + 1)) != 1))] ?_
      refine cont_done ?_
      refine then_normal ?_
      refine cont_recast 44 (.bool ((ageI w0 (fr + 1)) != 1)) (.bool false) rfl (congrArg Value.bool (by rw [show (ageI w0 (fr + 1)) = 1 by unfold ageI; split <;> omega]; exact bne_self_eq_false _)) ?_
      refine cont_false rfl ?_
      refine cont_skip ?_
      refine blk_normal ?_
      refine then_normal ?_
      refine cont_region 3 rfl ?_
      refine bS [0, 0] 2 1 [(0, .int .i64 at_), (1, .slice A n cap), (5, .pointer (some ⟨b1, 0, none⟩)), (24, .int .i64 (IntKind.i64.wrap ((i : Int) + 1))), (34, .pointer (some ⟨b1, 0, none⟩)), (35, .int .i64 (fr + 1)), (36, .int .i64 (i : Int)), (37, .bool false)] ?_
      refine cont_recast 24 (.int .i64 (IntKind.i64.wrap ((i : Int) + 1))) (.int .i64 ((i : Int) + 1)) rfl (wrapI (by omega) (by omega)) ?_
      refine bS [0] 3 0 [(0, .int .i64 at_), (1, .slice A n cap), (5, .pointer (some ⟨b1, 0, none⟩)), (7, .int .i64 ((i : Int) + 1)), (34, .pointer (some ⟨b1, 0, none⟩)), (35, .int .i64 (fr + 1)), (36, .int .i64 (i : Int)), (37, .bool false)] ?_
      refine cont_done ?_
      refine then_normal ?_
      refine cont_nilrow 28 4 ?_
      refine cont_norm [(0, .int .i64 at_), (1, .slice A n cap), (5, .pointer (some ⟨b1, 0, none⟩)), (7, .int .i64 ((i : Int) + 1)), (34, .pointer (some ⟨b1, 0, none⟩)), (35, .int .i64 (fr + 1)), (36, .int .i64 (i : Int)), (37, .bool false)] [.gen (rowE (none) 0 0 0 28 4 (rvals []) true), .gen (rowE (A62q) gA63q k64q cp65q 28 4 (rvals (keepL hullP (regM orB xs0 (regM andB (canR (smallL xs 3)) (canR [(⟨0, 0, 5, 5⟩ : Rect)]))) 64)) true), .gen (rowE (B66q) gB67q kB68q cB69q 28 4 (rvals (keepL hullP (regM orB xs1 (regM andB (canR (smallL xs 3)) (canR [(⟨0, 0, 5, 5⟩ : Rect)]))) 64)) true), .gen (rowE (A55) g56 k57 cp58 28 4 (rvals (smallL xs 3)) true), .cells b1 [.pointer (some ⟨m2, 0, none⟩), .pointer (some ⟨m15, 0, none⟩), .slice A62q k64q cp65q, .slice none 0 0, .int .i64 w0, .int .i64 (fr + 1), .int .i64 (fr + 1), .int .i64 0] 98 true, .cells m2 [.int .i64 5, .int .i64 5, .slice (some ⟨r3, 0, none⟩) n4 n4] 115 true, .gen (rowE (some ⟨r3, 0, none⟩) r3 n4 n4 54 1 (ivals .u32 (List.replicate n4 0)) true), .cells m15 [.int .i64 5, .int .i64 5, .slice (some ⟨r16, 0, none⟩) n17 n17] 115 true, .gen (rowE (some ⟨r16, 0, none⟩) r16 n17 n17 54 1 (ivals .u32 (List.replicate n17 0)) true), .gen (rowE (Ax) gx kx cx 28 4 (rvals xs0) true), .gen (rowE (Ay) gy ky cy 28 4 (rvals xs1) true), .gen (rdE (A) g o n 4 (rvals xs))] (by kernel_rfl) rfl ?_
      refine cont_pick [4, 5, 6, 7, 8, 1, 0, 11] [.cells b1 [.pointer (some ⟨m2, 0, none⟩), .pointer (some ⟨m15, 0, none⟩), .slice A62q k64q cp65q, .slice none 0 0, .int .i64 w0, .int .i64 (fr + 1), .int .i64 (fr + 1), .int .i64 0] 98 true, .cells m2 [.int .i64 5, .int .i64 5, .slice (some ⟨r3, 0, none⟩) n4 n4] 115 true, .gen (rowE (some ⟨r3, 0, none⟩) r3 n4 n4 54 1 (ivals .u32 (List.replicate n4 0)) true), .cells m15 [.int .i64 5, .int .i64 5, .slice (some ⟨r16, 0, none⟩) n17 n17] 115 true, .gen (rowE (some ⟨r16, 0, none⟩) r16 n17 n17 54 1 (ivals .u32 (List.replicate n17 0)) true), .gen (rowE (A62q) gA63q k64q cp65q 28 4 (rvals (keepL hullP (regM orB xs0 (regM andB (canR (smallL xs 3)) (canR [(⟨0, 0, 5, 5⟩ : Rect)]))) 64)) true), .gen (rowE (none) 0 0 0 28 4 (rvals []) true), .gen (rdE (A) g o n 4 (rvals xs))] (by decide) rfl rfl ?_
      refine cont_norm [(0, .int .i64 at_), (1, .slice A n cap), (5, .pointer (some ⟨b1, 0, none⟩)), (7, .int .i64 ((i : Int) + 1)), (34, .pointer (some ⟨b1, 0, none⟩)), (35, .int .i64 (fr + 1)), (36, .int .i64 (i : Int)), (37, .bool false)] [.cells b1 [.pointer (some ⟨m2, 0, none⟩), .pointer (some ⟨m15, 0, none⟩), .slice A62q k64q cp65q, .slice none 0 0, .int .i64 w0, .int .i64 (fr + 1), .int .i64 (fr + 1), .int .i64 0] 98 true, .cells m2 [.int .i64 5, .int .i64 5, .slice (some ⟨r3, 0, none⟩) n4 n4] 115 true, .gen (rowE (some ⟨r3, 0, none⟩) r3 n4 n4 54 1 (ivals .u32 (List.replicate n4 0)) true), .cells m15 [.int .i64 5, .int .i64 5, .slice (some ⟨r16, 0, none⟩) n17 n17] 115 true, .gen (rowE (some ⟨r16, 0, none⟩) r16 n17 n17 54 1 (ivals .u32 (List.replicate n17 0)) true), .gen (rowE (A62q) gA63q k64q cp65q 28 4 (rvals (keepL hullP (regM orB xs0 (regM andB (canR (smallL xs 3)) (canR [(⟨0, 0, 5, 5⟩ : Rect)]))) 64)) true), .gen (rowE (none) 0 0 0 28 4 (rvals []) true), .gen (rdE (A) g o n 4 (rvals xs))] (by kernel_rfl) rfl ?_
      refine cont_again ((i + 1 : Nat), 0, w0, fr + 1, fr + 1, keepL hullP (regM orB xs0 (regM andB (canR (smallL xs 3)) (canR [(⟨0, 0, 5, 5⟩ : Rect)]))) 64, A62q, gA63q, k64q, cp65q, [], none, 0, 0, 0) (show 1 ≤ ((i + 1 : Nat)) ∧ ((i + 1 : Nat)) ≤ 22 ∧ (0) ≤ 1 ∧ (fr + 1) = (((i + 1 : Nat)) : Int) - 1 ∧ ((0) = 0 → (w0) = ((((i + 1 : Nat)) - 2 : Nat) : Int) ∧ (fr + 1) = (((i + 1 : Nat)) : Int) - 1) ∧ ((0) = 1 → (fr + 1) = ((((i + 1 : Nat)) - 2 : Nat) : Int) ∧ (w0) = (((i + 1 : Nat)) : Int) - 1) ∧ (k64q) ≤ 64 ∧ (0) ≤ 64 from ⟨by omega, by omega, by omega, by omega, by omega, by omega, by omega, by omega⟩) (show 40 - ((i + 1 : Nat)) < 40 - i from by omega) (by kernel_rfl) (by kernel_rfl)
    replace c54_ := of_decide_eq_false c54_
    refine cont_false rfl ?_
    refine cont_exit ?_
    refine then_exit ?_
    refine then_exit ?_
    refine blk_exit ?_
    refine then_normal ?_
    refine cont_seq ?_
    refine cont_region 2 rfl ?_
    refine pl_step 1 1 rfl rfl ?_
    refine call_pure (d := 45) (.bool true) (by kernel_rfl) (fun w hT => lives18  w) ?_
    refine bS [0] 2 0 [(4, .bool true)] ?_
    refine cont_forget 0 rfl ?_
    refine cont_forget 0 rfl ?_
    refine cont_forget 1 rfl ?_
    refine cont_done ?_
    refine then_normal ?_
    refine cont_ret ?_
    refine ret_one (.inl rfl) rfl 0 (.bool true) (by kernel_rfl) (by kernel_rfl) (fun w hT => ?_)
    exact ⟨rfl, hT.post rfl⟩

end Go.Proofs.Ytgmonhehilcegaa
