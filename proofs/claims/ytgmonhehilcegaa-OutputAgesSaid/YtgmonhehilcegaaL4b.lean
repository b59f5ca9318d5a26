/- Contracts of functions of the given program, printed by a program of this project. -/
import Derived.Test.YtgmonhehilcegaaL4
import Derived.Test.YtgmonhehilcegaaIc
import Derived.Test.YtgmonhehilcegaaProg
set_option linter.unusedVariables false
set_option linter.unusedSimpArgs false
namespace Go.Proofs.Ytgmonhehilcegaa
open Go Go.RowKit
set_option maxRecDepth 100000
set_option maxHeartbeats 8000000

theorem refAround (n m : Int) (w : World) (hn : -9223372036854775808 ≤ n ∧ n ≤ 9223372036854775807) (hm : 1 ≤ m ∧ m ≤ 9223372036854775807) :
    Calls Try.prog 18 #[.int .i64 n, .int .i64 m] w fun e w' => e = .returned (.int .i64 (aroundI n m)) ∧ Below w.heap.size w w' := by
  refine enter 13 [(0, .int .i64 n), (1, .int .i64 m)] [] Try.func18 rfl Try.ntmps18 rfl (by kernel_rfl) (Tab.start w) ?_
  refine cont_seq ?_
  refine cont_region 1 rfl ?_
  refine bS [0] 1 0 [(0, .int .i64 n), (1, .int .i64 m)] ?_
  refine cont_done ?_
  refine then_normal ?_
  refine cont_seq ?_
  refine cont_seq ?_
  refine cont_region 2 rfl ?_
  refine bS [0, 0] 2 0 [(0, .int .i64 n), (1, .int .i64 m), (6, .bool (decide (n < 0)))] ?_
  refine cont_done ?_
  refine then_normal ?_
  refine cont_split 6 (decide (n < 0)) rfl (fun c1_ => ?_) (fun c1_ => ?_)
  ·
    replace c1_ := of_decide_eq_true c1_
    refine cont_true rfl ?_
    refine cont_region 4 rfl ?_
    refine bS [0, 0] 2 2 [(1, .int .i64 m), (8, .int .i64 (IntKind.i64.wrap (n + 1)))] ?_
    refine cont_recast 8 (.int .i64 (IntKind.i64.wrap (n + 1))) (.int .i64 (n + 1)) rfl (wrapI (by omega) (by omega)) ?_
    refine bS [0] 3 1 [(1, .int .i64 m), (9, .int .i64 (IntKind.i64.wrap (0 - (n + 1))))] ?_
    refine cont_recast 9 (.int .i64 (IntKind.i64.wrap (0 - (n + 1)))) (.int .i64 (0 - (n + 1))) rfl (wrapI (by omega) (by omega)) ?_
    refine bS [0] 4 0 [(0, .int .i64 (0 - (n + 1))), (1, .int .i64 m)] ?_
    refine cont_done ?_
    refine then_normal ?_
    refine cont_seq ?_
    refine cont_region 4 rfl ?_
    refine bS [0, 0] 2 2 [(10, .int .i64 (0 - (n + 1))), (11, .int .i64 m)] ?_
    refine pl_step 3 1 rfl rfl ?_
    refine sem_step 12 (bopS .rem 3 (.tmp 10) (.tmp 11) (.int .i64 (0 - (n + 1))) (.int .i64 m)) (.int .i64 ((0 - (n + 1)).tmod m)) (by kernel_rfl) (fun w hT => run_rem (by omega) w) ?_
    refine cont_recast 12 (.int .i64 ((0 - (n + 1)).tmod m)) (.int .i64 ((0 - (n + 1)) % m)) rfl (tmodI (by omega)) ?_
    refine bS [0] 4 0 [(4, .int .i64 ((0 - (n + 1)) % m))] ?_
    refine cont_done ?_
    refine then_normal ?_
    refine cont_ret ?_
    refine ret_one (.inl rfl) rfl 0 (.int .i64 ((0 - (n + 1)) % m)) (by kernel_rfl) (by kernel_rfl) (fun w hT => ?_)
    exact ⟨ret_int (by simp [aroundI, *]), hT.post rfl⟩
  replace c1_ := of_decide_eq_false c1_
  refine cont_false rfl ?_
  refine cont_skip ?_
  refine then_normal ?_
  refine cont_seq ?_
  refine cont_region 4 rfl ?_
  refine bS [0, 0] 2 2 [(10, .int .i64 n), (11, .int .i64 m)] ?_
  refine pl_step 3 1 rfl rfl ?_
  refine sem_step 12 (bopS .rem 3 (.tmp 10) (.tmp 11) (.int .i64 n) (.int .i64 m)) (.int .i64 (n.tmod m)) (by kernel_rfl) (fun w hT => run_rem (by omega) w) ?_
  refine cont_recast 12 (.int .i64 (n.tmod m)) (.int .i64 (n % m)) rfl (tmodI (by omega)) ?_
  refine bS [0] 4 0 [(4, .int .i64 (n % m))] ?_
  refine cont_done ?_
  refine then_normal ?_
  refine cont_ret ?_
  refine ret_one (.inl rfl) rfl 0 (.int .i64 (n % m)) (by kernel_rfl) (by kernel_rfl) (fun w hT => ?_)
  exact ⟨ret_int (by simp [aroundI, *]), hT.post rfl⟩

theorem refParts (c : Int) (w : World) (h0 : 0 ≤ c) (h1 : c < 4294967296) :
    Calls Try.prog 75 #[.int .u32 c] w fun e w' => e = .returned (.agg #[.int .i64 (pa c), .int .i64 (pr c), .int .i64 (pg c), .int .i64 (pb c)]) ∧ Below w.heap.size w w' := by
  refine enter 17 [(0, .int .u32 c)] [] Try.func75 rfl Try.ntmps75 rfl (by kernel_rfl) (Tab.start w) ?_
  refine cont_seq ?_
  refine cont_region 1 rfl ?_
  refine batch1 [0] 1 0 (fun b1 => [(0, .int .u32 c), (2, .pointer (some ⟨b1, 0, none⟩))]) (fun b1 => [.cells b1 [.int .i64 0, .int .i64 0, .int .i64 0, .int .i64 0] 132 true]) rfl rfl [0, 2] (fun _ => rfl) (fun b1 => by kernel_rfl) (fun b1 => by kernel_rfl) (fun b1 => ?_)
  refine cont_done ?_
  refine then_normal ?_
  refine cont_seq ?_
  refine cont_region 3 rfl ?_
  refine bS [0, 0] 2 1 [(2, .pointer (some ⟨b1, 0, none⟩)), (5, .int .i64 (IntKind.i64.wrap c))] ?_
  refine cont_recast 5 (.int .i64 (IntKind.i64.wrap c)) (.int .i64 c) rfl (wrapI (by omega) (by omega)) ?_
  refine bS [0] 3 0 [(2, .pointer (some ⟨b1, 0, none⟩)), (3, .int .i64 c)] ?_
  refine cont_done ?_
  refine then_normal ?_
  refine cont_seq ?_
  refine cont_region 12 rfl ?_
  refine bS [0, 0] 2 10 [(2, .pointer (some ⟨b1, 0, none⟩)), (3, .int .i64 c), (7, .int .i64 (IntKind.i64.wrap (c.tdiv 16777216)))] ?_
  refine cont_recast 7 (.int .i64 (IntKind.i64.wrap (c.tdiv 16777216))) (.int .i64 (c / 16777216)) rfl (tdivI (by omega) (by omega) (by omega)) ?_
  refine bS [0, 0] 4 8 [(2, .pointer (some ⟨b1, 0, none⟩)), (3, .int .i64 c), (7, .int .i64 (c / 16777216)), (9, .int .i64 (IntKind.i64.wrap (c.tdiv 65536)))] ?_
  refine cont_recast 9 (.int .i64 (IntKind.i64.wrap (c.tdiv 65536))) (.int .i64 (c / 65536)) rfl (tdivI (by omega) (by omega) (by omega)) ?_
  refine bS [0] 5 7 [(2, .pointer (some ⟨b1, 0, none⟩)), (3, .int .i64 c), (7, .int .i64 (c / 16777216)), (10, .int .i64 ((c / 65536).tmod 256))] ?_
  refine cont_recast 10 (.int .i64 ((c / 65536).tmod 256)) (.int .i64 ((c / 65536) % 256)) rfl (tmodI (by omega)) ?_
  refine bS [0, 0] 7 5 [(2, .pointer (some ⟨b1, 0, none⟩)), (3, .int .i64 c), (7, .int .i64 (c / 16777216)), (10, .int .i64 ((c / 65536) % 256)), (12, .int .i64 (IntKind.i64.wrap (c.tdiv 256)))] ?_
  refine cont_recast 12 (.int .i64 (IntKind.i64.wrap (c.tdiv 256))) (.int .i64 (c / 256)) rfl (tdivI (by omega) (by omega) (by omega)) ?_
  refine bS [0] 8 4 [(2, .pointer (some ⟨b1, 0, none⟩)), (3, .int .i64 c), (7, .int .i64 (c / 16777216)), (10, .int .i64 ((c / 65536) % 256)), (13, .int .i64 ((c / 256).tmod 256))] ?_
  refine cont_recast 13 (.int .i64 ((c / 256).tmod 256)) (.int .i64 ((c / 256) % 256)) rfl (tmodI (by omega)) ?_
  refine bS [0, 0] 10 2 [(2, .pointer (some ⟨b1, 0, none⟩)), (7, .int .i64 (c / 16777216)), (10, .int .i64 ((c / 65536) % 256)), (13, .int .i64 ((c / 256) % 256)), (15, .int .i64 (c.tmod 256))] ?_
  refine cont_recast 15 (.int .i64 (c.tmod 256)) (.int .i64 (c % 256)) rfl (tmodI (by omega)) ?_
  refine batch0 [0, 0] 12 0 [(2, .pointer (some ⟨b1, 0, none⟩))] [.cells b1 [.int .i64 (c / 16777216), .int .i64 ((c / 65536) % 256), .int .i64 ((c / 256) % 256), .int .i64 (c % 256)] 132 true] rfl rfl (by kernel_rfl) (by kernel_rfl) ?_
  refine cont_done ?_
  refine then_normal ?_
  refine cont_ret ?_
  refine ret_one (.inl rfl) rfl 0 (.agg #[.int .i64 (c / 16777216), .int .i64 ((c / 65536) % 256), .int .i64 ((c / 256) % 256), .int .i64 (c % 256)]) (by kernel_rfl) (by kernel_rfl) (fun w hT => ?_)
  exact ⟨rfl, hT.post rfl⟩

theorem refMake (a r g b : Int) (w : World) :
    Calls Try.prog 76 #[.int .i64 a, .int .i64 r, .int .i64 g, .int .i64 b] w fun e w' => e = .returned (.int .u32 (mkC a r g b)) ∧ Below w.heap.size w w' := by
  have ha : 0 ≤ mn (mx a 0) 255 ∧ mn (mx a 0) 255 ≤ 255 := by unfold mn mx; omega
  have hr : 0 ≤ mn (mx r 0) 255 ∧ mn (mx r 0) 255 ≤ 255 := by unfold mn mx; omega
  have hg : 0 ≤ mn (mx g 0) 255 ∧ mn (mx g 0) 255 ≤ 255 := by unfold mn mx; omega
  have hb : 0 ≤ mn (mx b 0) 255 ∧ mn (mx b 0) 255 ≤ 255 := by unfold mn mx; omega
  refine enter 32 [(0, .int .i64 a), (1, .int .i64 r), (2, .int .i64 g), (3, .int .i64 b)] [] Try.func76 rfl Try.ntmps76 rfl (by kernel_rfl) (Tab.start w) ?_
  refine cont_seq ?_
  refine cont_region 1 rfl ?_
  refine bS [0] 1 0 [(0, .int .i64 a), (1, .int .i64 r), (2, .int .i64 g), (3, .int .i64 b)] ?_
  refine cont_done ?_
  refine then_normal ?_
  refine cont_seq ?_
  refine cont_region 4 rfl ?_
  refine bS [0, 0, 0, 0] 4 0 [(0, .int .i64 (mn (mx a 0) 255)), (1, .int .i64 r), (2, .int .i64 g), (3, .int .i64 b)] ?_
  refine cont_done ?_
  refine then_normal ?_
  refine cont_seq ?_
  refine cont_region 4 rfl ?_
  refine bS [0, 0, 0, 0] 4 0 [(0, .int .i64 (mn (mx a 0) 255)), (1, .int .i64 (mn (mx r 0) 255)), (2, .int .i64 g), (3, .int .i64 b)] ?_
  refine cont_done ?_
  refine then_normal ?_
  refine cont_seq ?_
  refine cont_region 4 rfl ?_
  refine bS [0, 0, 0, 0] 4 0 [(0, .int .i64 (mn (mx a 0) 255)), (1, .int .i64 (mn (mx r 0) 255)), (2, .int .i64 (mn (mx g 0) 255)), (3, .int .i64 b)] ?_
  refine cont_done ?_
  refine then_normal ?_
  refine cont_seq ?_
  refine cont_region 4 rfl ?_
  refine bS [0, 0, 0, 0] 4 0 [(0, .int .i64 (mn (mx a 0) 255)), (1, .int .i64 (mn (mx r 0) 255)), (2, .int .i64 (mn (mx g 0) 255)), (3, .int .i64 (mn (mx b 0) 255))] ?_
  refine cont_done ?_
  refine then_normal ?_
  refine cont_seq ?_
  refine cont_region 12 rfl ?_
  refine bS [0, 0] 2 10 [(1, .int .i64 (mn (mx r 0) 255)), (2, .int .i64 (mn (mx g 0) 255)), (3, .int .i64 (mn (mx b 0) 255)), (22, .int .i64 (IntKind.i64.wrap ((mn (mx a 0) 255) * 16777216)))] ?_
  refine cont_recast 22 (.int .i64 (IntKind.i64.wrap ((mn (mx a 0) 255) * 16777216))) (.int .i64 ((mn (mx a 0) 255) * 16777216)) rfl (wrapI (by omega) (by omega)) ?_
  refine bS [0, 0] 4 8 [(2, .int .i64 (mn (mx g 0) 255)), (3, .int .i64 (mn (mx b 0) 255)), (22, .int .i64 ((mn (mx a 0) 255) * 16777216)), (24, .int .i64 (IntKind.i64.wrap ((mn (mx r 0) 255) * 65536)))] ?_
  refine cont_recast 24 (.int .i64 (IntKind.i64.wrap ((mn (mx r 0) 255) * 65536))) (.int .i64 ((mn (mx r 0) 255) * 65536)) rfl (wrapI (by omega) (by omega)) ?_
  refine bS [0] 5 7 [(2, .int .i64 (mn (mx g 0) 255)), (3, .int .i64 (mn (mx b 0) 255)), (25, .int .i64 (IntKind.i64.wrap (((mn (mx a 0) 255) * 16777216) + ((mn (mx r 0) 255) * 65536))))] ?_
  refine cont_recast 25 (.int .i64 (IntKind.i64.wrap (((mn (mx a 0) 255) * 16777216) + ((mn (mx r 0) 255) * 65536)))) (.int .i64 (((mn (mx a 0) 255) * 16777216) + ((mn (mx r 0) 255) * 65536))) rfl (wrapI (by omega) (by omega)) ?_
  refine bS [0, 0] 7 5 [(3, .int .i64 (mn (mx b 0) 255)), (25, .int .i64 (((mn (mx a 0) 255) * 16777216) + ((mn (mx r 0) 255) * 65536))), (27, .int .i64 (IntKind.i64.wrap ((mn (mx g 0) 255) * 256)))] ?_
  refine cont_recast 27 (.int .i64 (IntKind.i64.wrap ((mn (mx g 0) 255) * 256))) (.int .i64 ((mn (mx g 0) 255) * 256)) rfl (wrapI (by omega) (by omega)) ?_
  refine bS [0] 8 4 [(3, .int .i64 (mn (mx b 0) 255)), (28, .int .i64 (IntKind.i64.wrap ((((mn (mx a 0) 255) * 16777216) + ((mn (mx r 0) 255) * 65536)) + ((mn (mx g 0) 255) * 256))))] ?_
  refine cont_recast 28 (.int .i64 (IntKind.i64.wrap ((((mn (mx a 0) 255) * 16777216) + ((mn (mx r 0) 255) * 65536)) + ((mn (mx g 0) 255) * 256)))) (.int .i64 ((((mn (mx a 0) 255) * 16777216) + ((mn (mx r 0) 255) * 65536)) + ((mn (mx g 0) 255) * 256))) rfl (wrapI (by omega) (by omega)) ?_
  refine bS [0, 0] 10 2 [(30, .int .i64 (IntKind.i64.wrap (((((mn (mx a 0) 255) * 16777216) + ((mn (mx r 0) 255) * 65536)) + ((mn (mx g 0) 255) * 256)) + (mn (mx b 0) 255))))] ?_
  refine cont_recast 30 (.int .i64 (IntKind.i64.wrap (((((mn (mx a 0) 255) * 16777216) + ((mn (mx r 0) 255) * 65536)) + ((mn (mx g 0) 255) * 256)) + (mn (mx b 0) 255)))) (.int .i64 (((((mn (mx a 0) 255) * 16777216) + ((mn (mx r 0) 255) * 65536)) + ((mn (mx g 0) 255) * 256)) + (mn (mx b 0) 255))) rfl (wrapI (by omega) (by omega)) ?_
  refine bS [0] 11 1 [(31, .int .u32 (IntKind.u32.wrap (((((mn (mx a 0) 255) * 16777216) + ((mn (mx r 0) 255) * 65536)) + ((mn (mx g 0) 255) * 256)) + (mn (mx b 0) 255))))] ?_
  refine cont_recast 31 (.int .u32 (IntKind.u32.wrap (((((mn (mx a 0) 255) * 16777216) + ((mn (mx r 0) 255) * 65536)) + ((mn (mx g 0) 255) * 256)) + (mn (mx b 0) 255)))) (.int .u32 (((((mn (mx a 0) 255) * 16777216) + ((mn (mx r 0) 255) * 65536)) + ((mn (mx g 0) 255) * 256)) + (mn (mx b 0) 255))) rfl (wrapU32 (by omega) (by omega)) ?_
  refine bS [0] 12 0 [(8, .int .u32 (((((mn (mx a 0) 255) * 16777216) + ((mn (mx r 0) 255) * 65536)) + ((mn (mx g 0) 255) * 256)) + (mn (mx b 0) 255)))] ?_
  refine cont_done ?_
  refine then_normal ?_
  refine cont_ret ?_
  refine ret_one (.inl rfl) rfl 0 (.int .u32 (((((mn (mx a 0) 255) * 16777216) + ((mn (mx r 0) 255) * 65536)) + ((mn (mx g 0) 255) * 256)) + (mn (mx b 0) 255))) (by kernel_rfl) (by kernel_rfl) (fun w hT => ?_)
  exact ⟨ret_int (by simp only [mkC, clip, mx_eq, mn_eq]), hT.post rfl⟩

theorem refGood3 (c : Int) (w : World) (h0 : 0 ≤ c) (h1 : c < 4294967296) :
    Calls Try.prog 46 #[.int .u32 c] w fun e w' => e = .returned (.int .u32 (goodC c)) ∧ Below w.heap.size w w' := by
  refine enter 24 [(0, .int .u32 c)] [] Try.func46 rfl Try.ntmps46 rfl (by kernel_rfl) (Tab.start w) ?_
  refine cont_seq ?_
  refine cont_region 1 rfl ?_
  refine bS [0] 1 0 [(0, .int .u32 c)] ?_
  refine cont_done ?_
  refine then_normal ?_
  refine cont_seq ?_
  refine cont_region 4 rfl ?_
  refine bS [0] 1 3 [(4, .int .u32 c)] ?_
  refine pl_step 2 2 rfl rfl ?_
  refine call_pure (d := 5) (.agg #[.int .i64 (pa c), .int .i64 (pr c), .int .i64 (pg c), .int .i64 (pb c)]) (by kernel_rfl) (fun w hT => refParts c w (by omega) (by omega)) ?_
  refine batch1 [0, 0] 4 0 (fun b1 => [(3, .pointer (some ⟨b1, 0, none⟩))]) (fun b1 => [.cells b1 [.int .i64 (pa c), .int .i64 (pr c), .int .i64 (pg c), .int .i64 (pb c)] 132 true]) rfl rfl [3] (fun _ => rfl) (fun b1 => by kernel_rfl) (fun b1 => by kernel_rfl) (fun b1 => ?_)
  refine cont_done ?_
  refine then_normal ?_
  refine cont_seq ?_
  refine cont_region 19 rfl ?_
  refine bS [0, 0, 0, 0, 0, 0, 0, 0, 0, 0, 0, 0, 0, 0, 0, 0, 0] 17 2 [(7, .int .i64 (pa c)), (12, .int .i64 (mn (pr c) (pa c))), (17, .int .i64 (mn (pg c) (pa c))), (22, .int .i64 (mn (pb c) (pa c)))] ?_
  refine cont_forget 0 rfl ?_
  refine pl_step 18 1 rfl rfl ?_
  refine call_pure (d := 23) (.int .u32 (mkC (pa c) (mn (pr c) (pa c)) (mn (pg c) (pa c)) (mn (pb c) (pa c)))) (by kernel_rfl) (fun w hT => refMake (pa c) (mn (pr c) (pa c)) (mn (pg c) (pa c)) (mn (pb c) (pa c)) w) ?_
  refine bS [0] 19 0 [(2, .int .u32 (mkC (pa c) (mn (pr c) (pa c)) (mn (pg c) (pa c)) (mn (pb c) (pa c))))] ?_
  refine cont_done ?_
  refine then_normal ?_
  refine cont_ret ?_
  refine ret_one (.inl rfl) rfl 0 (.int .u32 (mkC (pa c) (mn (pr c) (pa c)) (mn (pg c) (pa c)) (mn (pb c) (pa c)))) (by kernel_rfl) (by kernel_rfl) (fun w hT => ?_)
  exact ⟨rfl, hT.post rfl⟩

theorem refNew4 (W H : Int) (w : World) (hwh : 1 ≤ W ∧ W ≤ 256 ∧ 1 ≤ H ∧ H ≤ 256) :
    Calls Try.prog 94 #[.int .i64 W, .int .i64 H] w fun e w' => ∃ r n : Nat, e = .returned (.agg #[.int .i64 W, .int .i64 H, .slice (some ⟨r, 0, none⟩) n n]) ∧ (n : Int) = W * H ∧ Tab w w' [.gen (rowE (some ⟨r, 0, none⟩) r n n 54 1 (ivals .u32 (List.replicate n 0)) true)] := by
  have hm : W * H ≤ 256 * 256 := mul_le_of (by omega) (by omega) (by omega) (by omega)
  have hm0 : 0 ≤ W * H := Int.mul_nonneg (by omega) (by omega)
  obtain ⟨n, hn⟩ : ∃ n : Nat, (n : Int) = W * H := ⟨(W * H).toNat, by omega⟩
  refine enter 12 [(0, .int .i64 W), (1, .int .i64 H)] [] Try.func94 rfl Try.ntmps94 rfl (by kernel_rfl) (Tab.start w) ?_
  refine cont_seq ?_
  refine cont_region 1 rfl ?_
  refine batch1 [0] 1 0 (fun b1 => [(0, .int .i64 W), (1, .int .i64 H), (4, .pointer (some ⟨b1, 0, none⟩))]) (fun b1 => [.cells b1 [.int .i64 0, .int .i64 0, .slice none 0 0] 128 true]) rfl rfl [0, 1, 4] (fun _ => rfl) (fun b1 => by kernel_rfl) (fun b1 => by kernel_rfl) (fun b1 => ?_)
  refine cont_done ?_
  refine then_normal ?_
  refine cont_seq ?_
  refine cont_region 8 rfl ?_
  refine bS [0, 0, 0, 0, 0] 5 3 [(4, .pointer (some ⟨b1, 0, none⟩)), (5, .int .i64 W), (6, .int .i64 H), (9, .int .i64 (IntKind.i64.wrap (W * H)))] ?_
  refine cont_recast 9 (.int .i64 (IntKind.i64.wrap (W * H))) (.int .i64 (n : Int)) rfl (by rw [hn]; exact wrapI (by omega) (by omega)) ?_
  refine pl_step 6 2 rfl rfl ?_
  refine sem_stepW 10 (Instr.makeSlice 88 (.int .i64 (n : Int)) (.int .i64 (n : Int))) (fun r2 => .slice (some ⟨r2, 0, none⟩) n n) (fun r2 => [.gen (rowE (some ⟨r2, 0, none⟩) r2 n n 54 1 (ivals .u32 (List.replicate n 0)) true), .cells b1 [.int .i64 0, .int .i64 0, .slice none 0 0] 128 true]) (fun _ => True) (by kernel_rfl) (fun w hT => make_row hT (bytes := 4) n (by kernel_rfl) (by kernel_rfl) (by omega) (by omega)) (fun r2 _ => ?_)
  refine batch0 [0, 1] 8 0 [(4, .pointer (some ⟨b1, 0, none⟩))] [.gen (rowE (some ⟨r2, 0, none⟩) r2 n n 54 1 (ivals .u32 (List.replicate n 0)) true), .cells b1 [.int .i64 W, .int .i64 H, .slice (some ⟨r2, 0, none⟩) n n] 128 true] rfl rfl (by kernel_rfl) (by kernel_rfl) ?_
  refine cont_done ?_
  refine then_normal ?_
  refine cont_ret ?_
  refine ret_one (.inl rfl) rfl 1 (.agg #[.int .i64 W, .int .i64 H, .slice (some ⟨r2, 0, none⟩) n n]) (by kernel_rfl) (by kernel_rfl) (fun w hT => ?_)
  replace hT := hT.erase 1 (fun e h hw => by cases h; first | rfl | cases hw)
  exact ⟨_, _, rfl, hn, hT⟩

theorem refBox (W H : Int) (s : Value) (w : World) :
    Calls Try.prog 69 #[.agg #[.int .i64 W, .int .i64 H, s]] w fun e w' => e = .returned (.agg #[.int .i64 0, .int .i64 0, .int .i64 W, .int .i64 H]) ∧ Below w.heap.size w w' := by
  refine enter 8 [(0, .agg #[.int .i64 W, .int .i64 H, s])] [] Try.func69 rfl Try.ntmps69 rfl (by kernel_rfl) (Tab.start w) ?_
  refine cont_seq ?_
  refine cont_region 2 rfl ?_
  refine batch2 [0, 0] 2 0 (fun b1 b2 => [(1, .pointer (some ⟨b1, 0, none⟩)), (2, .pointer (some ⟨b2, 0, none⟩))]) (fun b1 b2 => [.cells b2 [.int .i64 0, .int .i64 0, .int .i64 0, .int .i64 0] 28 true, .cells b1 [.int .i64 W, .int .i64 H, s] 128 true]) rfl rfl [1, 2] (fun _ _ => rfl) (fun b1 b2 => by kernel_rfl) (fun b1 b2 => by kernel_rfl) (fun b1 b2 => ?_)
  refine cont_done ?_
  refine then_normal ?_
  refine cont_seq ?_
  refine cont_region 6 rfl ?_
  refine batch0 [0, 1, 0, 1, 0, 0] 6 0 [(2, .pointer (some ⟨b2, 0, none⟩))] [.cells b2 [.int .i64 0, .int .i64 0, .int .i64 W, .int .i64 H] 28 true, .cells b1 [.int .i64 W, .int .i64 H, s] 128 true] rfl rfl (by kernel_rfl) (by kernel_rfl) ?_
  refine cont_forget 1 rfl ?_
  refine cont_done ?_
  refine then_normal ?_
  refine cont_ret ?_
  refine ret_one (.inl rfl) rfl 0 (.agg #[.int .i64 0, .int .i64 0, .int .i64 W, .int .i64 H]) (by kernel_rfl) (by kernel_rfl) (fun w hT => ?_)
  exact ⟨rfl, hT.post rfl⟩

theorem refHas (a b c d x y : Int) (w : World) :
    Calls Try.prog 49 #[.agg #[.int .i64 a, .int .i64 b, .int .i64 c, .int .i64 d], .int .i64 x, .int .i64 y] w fun e w' => e = .returned (.bool (hasB a b c d x y)) ∧ Below w.heap.size w w' := by
  refine enter 29 [(0, .agg #[.int .i64 a, .int .i64 b, .int .i64 c, .int .i64 d]), (1, .int .i64 x), (2, .int .i64 y)] [] Try.func49 rfl Try.ntmps49 rfl (by kernel_rfl) (Tab.start w) ?_
  refine cont_seq ?_
  refine cont_region 2 rfl ?_
  refine batch1 [0, 0] 2 0 (fun b1 => [(1, .int .i64 x), (2, .int .i64 y), (3, .pointer (some ⟨b1, 0, none⟩))]) (fun b1 => [.cells b1 [.int .i64 a, .int .i64 b, .int .i64 c, .int .i64 d] 28 true]) rfl rfl [1, 2, 3] (fun _ => rfl) (fun b1 => by kernel_rfl) (fun b1 => by kernel_rfl) (fun b1 => ?_)
  refine cont_done ?_
  refine then_normal ?_
  refine cont_seq ?_
  refine cont_region 23 rfl ?_
  refine bS [0, 0, 0, 0, 0] 5 18 [(1, .int .i64 x), (2, .int .i64 y), (3, .pointer (some ⟨b1, 0, none⟩)), (11, .bool (decide (a ≤ x)))] ?_
  refine cont_split 11 (decide (a ≤ x)) rfl (fun c2_ => ?_) (fun c2_ => ?_)
  ·
    replace c2_ := of_decide_eq_true c2_
    refine bS [0, 0, 0, 0, 0, 0] 11 12 [(2, .int .i64 y), (3, .pointer (some ⟨b1, 0, none⟩)), (17, .bool (decide (x < c)))] ?_
    refine cont_split 17 (decide (x < c)) rfl (fun c3_ => ?_) (fun c3_ => ?_)
    ·
      replace c3_ := of_decide_eq_true c3_
      refine bS [0, 0, 0, 0, 0, 0] 17 6 [(2, .int .i64 y), (3, .pointer (some ⟨b1, 0, none⟩)), (23, .bool (decide (b ≤ y)))] ?_
      refine cont_split 23 (decide (b ≤ y)) rfl (fun c4_ => ?_) (fun c4_ => ?_)
      ·
        replace c4_ := of_decide_eq_true c4_
        refine bS [0, 0, 0, 0, 0, 0] 23 0 [(6, .bool (decide (y < d)))] ?_
        refine cont_forget 0 rfl ?_
        refine cont_done ?_
        refine then_normal ?_
        refine cont_ret ?_
        refine ret_one (.inl rfl) rfl 0 (.bool (decide (y < d))) (by kernel_rfl) (by kernel_rfl) (fun w hT => ?_)
        exact ⟨ret_bool (by simp [hasB, *] <;> omega), hT.post rfl⟩
      replace c4_ := of_decide_eq_false c4_
      refine bS [0, 0, 0, 0, 0, 0] 23 0 [(6, .bool false)] ?_
      refine cont_forget 0 rfl ?_
      refine cont_done ?_
      refine then_normal ?_
      refine cont_ret ?_
      refine ret_one (.inl rfl) rfl 0 (.bool false) (by kernel_rfl) (by kernel_rfl) (fun w hT => ?_)
      exact ⟨ret_bool (by simp [hasB, *] <;> omega), hT.post rfl⟩
    replace c3_ := of_decide_eq_false c3_
    refine bS [0, 0, 0, 0, 0, 0, 0, 0, 0, 0, 0, 0] 23 0 [(6, .bool false)] ?_
    refine cont_forget 0 rfl ?_
    refine cont_done ?_
    refine then_normal ?_
    refine cont_ret ?_
    refine ret_one (.inl rfl) rfl 0 (.bool false) (by kernel_rfl) (by kernel_rfl) (fun w hT => ?_)
    exact ⟨ret_bool (by simp [hasB, *] <;> omega), hT.post rfl⟩
  replace c2_ := of_decide_eq_false c2_
  refine bS [0, 0, 0, 0, 0, 0, 0, 0, 0, 0, 0, 0, 0, 0, 0, 0, 0, 0] 23 0 [(6, .bool false)] ?_
  refine cont_forget 0 rfl ?_
  refine cont_done ?_
  refine then_normal ?_
  refine cont_ret ?_
  refine ret_one (.inl rfl) rfl 0 (.bool false) (by kernel_rfl) (by kernel_rfl) (fun w hT => ?_)
  exact ⟨ret_bool (by simp [hasB, *] <;> omega), hT.post rfl⟩

theorem refMay (c : Int) (w : World) (h0 : 0 ≤ c) (h1 : c < 4294967296) :
    Calls Try.prog 115 #[.int .u32 c] w fun e w' => e = .returned (.bool (mayB c)) ∧ Below w.heap.size w w' := by
  refine enter 25 [(0, .int .u32 c)] [] Try.func115 rfl Try.ntmps115 rfl (by kernel_rfl) (Tab.start w) ?_
  refine cont_seq ?_
  refine cont_region 1 rfl ?_
  refine bS [0] 1 0 [(0, .int .u32 c)] ?_
  refine cont_done ?_
  refine then_normal ?_
  refine cont_seq ?_
  refine cont_region 4 rfl ?_
  refine bS [0] 1 3 [(4, .int .u32 c)] ?_
  refine pl_step 2 2 rfl rfl ?_
  refine call_pure (d := 5) (.agg #[.int .i64 (pa c), .int .i64 (pr c), .int .i64 (pg c), .int .i64 (pb c)]) (by kernel_rfl) (fun w hT => refParts c w (by omega) (by omega)) ?_
  refine batch1 [0, 0] 4 0 (fun b1 => [(3, .pointer (some ⟨b1, 0, none⟩))]) (fun b1 => [.cells b1 [.int .i64 (pa c), .int .i64 (pr c), .int .i64 (pg c), .int .i64 (pb c)] 132 true]) rfl rfl [3] (fun _ => rfl) (fun b1 => by kernel_rfl) (fun b1 => by kernel_rfl) (fun b1 => ?_)
  refine cont_done ?_
  refine then_normal ?_
  refine cont_seq ?_
  refine cont_region 20 rfl ?_
  refine bS [0, 0, 0, 0, 0, 0] 6 14 [(3, .pointer (some ⟨b1, 0, none⟩)), (11, .bool (decide ((pr c) ≤ (pa c))))] ?_
  refine cont_split 11 (decide ((pr c) ≤ (pa c))) rfl (fun c2_ => ?_) (fun c2_ => ?_)
  ·
    replace c2_ := of_decide_eq_true c2_
    refine bS [0, 0, 0, 0, 0, 0, 0] 13 7 [(3, .pointer (some ⟨b1, 0, none⟩)), (18, .bool (decide ((pg c) ≤ (pa c))))] ?_
    refine cont_split 18 (decide ((pg c) ≤ (pa c))) rfl (fun c3_ => ?_) (fun c3_ => ?_)
    ·
      replace c3_ := of_decide_eq_true c3_
      refine bS [0, 0, 0, 0, 0, 0, 0] 20 0 [(2, .bool (decide ((pb c) ≤ (pa c))))] ?_
      refine cont_forget 0 rfl ?_
      refine cont_done ?_
      refine then_normal ?_
      refine cont_ret ?_
      refine ret_one (.inl rfl) rfl 0 (.bool (decide ((pb c) ≤ (pa c)))) (by kernel_rfl) (by kernel_rfl) (fun w hT => ?_)
      exact ⟨ret_bool (by simp [mayB, *] <;> omega), hT.post rfl⟩
    replace c3_ := of_decide_eq_false c3_
    refine bS [0, 0, 0, 0, 0, 0, 0] 20 0 [(2, .bool false)] ?_
    refine cont_forget 0 rfl ?_
    refine cont_done ?_
    refine then_normal ?_
    refine cont_ret ?_
    refine ret_one (.inl rfl) rfl 0 (.bool false) (by kernel_rfl) (by kernel_rfl) (fun w hT => ?_)
    exact ⟨ret_bool (by simp [mayB, *] <;> omega), hT.post rfl⟩
  replace c2_ := of_decide_eq_false c2_
  refine bS [0, 0, 0, 0, 0, 0, 0, 0, 0, 0, 0, 0, 0, 0] 20 0 [(2, .bool false)] ?_
  refine cont_forget 0 rfl ?_
  refine cont_done ?_
  refine then_normal ?_
  refine cont_ret ?_
  refine ret_one (.inl rfl) rfl 0 (.bool false) (by kernel_rfl) (by kernel_rfl) (fun w hT => ?_)
  exact ⟨ret_bool (by simp [mayB, *] <;> omega), hT.post rfl⟩

theorem sliceClone (r n cap : Nat) (px : List Int) (w : World) (hT0 : Tab w w [.gen (rdE (some ⟨r, 0, none⟩) r 0 n 1 (ivals .u32 px))]) (hn : 1 ≤ n ∧ n ≤ 65536) :
    Calls Try.prog 99 #[.slice (some ⟨r, 0, none⟩) n cap] w fun e w' => ∃ g cp : Nat, e = .returned (.slice (some ⟨g, 0, none⟩) n cp) ∧ Tab w w' [.gen (rowE (some ⟨g, 0, none⟩) g n cp 54 1 (ivals .u32 px) true)] := by
  refine enter 8 [(0, .slice (some ⟨r, 0, none⟩) n cap)] [.gen (rdE (some ⟨r, 0, none⟩) r 0 n 1 (ivals .u32 px))] Try.func99 rfl Try.ntmps99 rfl (by kernel_rfl) hT0 ?_
  refine cont_seq ?_
  refine cont_region 1 rfl ?_
  refine bS [0] 1 0 [(0, .slice (some ⟨r, 0, none⟩) n cap)] ?_
  refine cont_done ?_
  refine then_normal ?_
  refine cont_seq ?_
  refine cont_seq ?_
  refine cont_region 2 rfl ?_
  refine bS [0, 0] 2 0 [(0, .slice (some ⟨r, 0, none⟩) n cap), (4, .bool false)] ?_
  refine cont_done ?_
  refine then_normal ?_
  refine cont_false rfl ?_
  refine cont_skip ?_
  refine then_normal ?_
  refine cont_seq ?_
  refine cont_region 4 rfl ?_
  refine batch1 [0, 0] 2 2 (fun b1 => [(5, .slice (some ⟨b1, 0, none⟩) 0 0), (6, .slice (some ⟨r, 0, none⟩) n cap)]) (fun b1 => [.cells b1 [] 54 true, .gen (rdE (some ⟨r, 0, none⟩) r 0 n 1 (ivals .u32 px))]) rfl rfl [5, 6] (fun _ => rfl) (fun b1 => by kernel_rfl) (fun b1 => by kernel_rfl) (fun b1 => ?_)
  refine pl_step 3 1 rfl rfl ?_
  refine cont_asRow 0 0 1 rfl (vals := ivals .u32 []) rfl rfl (by decide) ?_
  refine sem_stepW (α := Option Addr × Nat × Nat) 7 (Builtin.append_ #[88, 88] 88 #[.slice (some ⟨b1, 0, none⟩) 0 0, .slice (some ⟨r, 0, none⟩) n cap]) (fun x_ => .slice x_.1 n x_.2.2) (fun x_ => [.gen (rowE (x_.1) x_.2.1 n x_.2.2 54 1 (ivals .u32 px) true), .gen (rdE (some ⟨r, 0, none⟩) r 0 n 1 (ivals .u32 px))]) (fun _ => True) (by kernel_rfl) (fun w hT => append_own (n' := n) (z := .int .u32 0) hT (i := 0) (bytes := 4) rfl (by kernel_rfl) (by kernel_rfl) rfl (by decide) (by decide) (hT.ok 1 _ rfl) (ivals_one .u32 px) (by omega) rfl (Nat.zero_add _).symm) ?_
  rintro ⟨A2, g2, cp2⟩ -
  refine cont_norm [(5, .slice (some ⟨b1, 0, none⟩) 0 0), (6, .slice (some ⟨r, 0, none⟩) n cap), (7, .slice A2 n cp2)] [.gen (rowE (A2) g2 n cp2 54 1 (ivals .u32 px) true), .gen (rdE (some ⟨r, 0, none⟩) r 0 n 1 (ivals .u32 px))] (by kernel_rfl) rfl ?_
  refine cont_fact (F := (0 < n → (A2 : Option Addr) = some ⟨g2, 0, none⟩) ∧ px.length = n ∧ n ≤ cp2 ∧ cp2 ≤ maxLen) (fun w hT => Row.facts (hT.ok 0 _ rfl)) (fun hr3_ => ?_)
  obtain ⟨hr3_a, hr3_l, hr3_c, hr3_m⟩ := hr3_
  unfold maxLen at hr3_m
  refine bS [0] 4 0 [(2, .slice A2 n cp2)] ?_
  refine cont_done ?_
  refine then_normal ?_
  refine cont_ret ?_
  refine ret_one (.inl rfl) rfl 0 (.slice A2 n cp2) (by kernel_rfl) (by kernel_rfl) (fun w hT => ?_)
  replace hT := hT.erase 1 (fun e h hw => by cases h; first | rfl | cases hw)
  have hA := (Row.facts (hT.ok 0 _ rfl)).1 (by omega)
  subst hA
  exact ⟨_, _, rfl, hT⟩

theorem imgClone (m : Nat) (W H : Int) (r n cap : Nat) (px : List Int) (w : World) (hI : ImgR 115 w m W H r n cap px) (hok : ImgOk W H n px) :
    Calls Try.prog 74 #[.pointer (some ⟨m, 0, none⟩)] w fun e w' => ∃ b g cp : Nat, e = .returned (.pointer (some ⟨b, 0, none⟩)) ∧ NewImg 115 54 w w' b W H g n cp px := by
  have hw1 := hok.w1
  have hw2 := hok.w2
  have hh1 := hok.h1
  have hh2 := hok.h2
  have hnum := hok.num
  have hlen := hok.len
  have hle := hok.le
  refine enter 18 [(0, .pointer (some ⟨m, 0, none⟩))] [.ro m [.int .i64 W, .int .i64 H, .slice (some ⟨r, 0, none⟩) n cap] 115, .gen (rdE (some ⟨r, 0, none⟩) r 0 n 1 (ivals .u32 px))] Try.func74 rfl Try.ntmps74 rfl (by kernel_rfl) hI.tab ?_
  refine cont_seq ?_
  refine cont_region 1 rfl ?_
  refine bS [0] 1 0 [(0, .pointer (some ⟨m, 0, none⟩))] ?_
  refine cont_done ?_
  refine then_normal ?_
  refine cont_seq ?_
  refine drawn_enter 16 [] rfl (by kernel_rfl) ?_
  refine takes 0 [] [(0, 0), (4, 0), (8, 0), (1, 0), (5, 0), (9, 0), (2, 0), (6, 0), (10, 0), (3, 0), (7, 0), (11, 0)] 4 [11, 7, 3, 10, 6, 2, 9, 5, 1, 8, 4, 0] [(6, .int .i64 W), (10, .int .i64 H), (14, .slice (some ⟨r, 0, none⟩) n cap)] (by kernel_rfl) (pok_then pok_body) (by kernel_rfl) rfl rfl (by kernel_rfl) (by kernel_rfl) ?_
  refine drawn_one 12 3 rfl (by kernel_rfl) ?_
  refine call_gen (d := 15) (α := Nat × Nat) (fun x_ => .slice (some ⟨x_.1, 0, none⟩) n x_.2) (fun x_ => [.gen (rowE (some ⟨x_.1, 0, none⟩) x_.1 n x_.2 54 1 (ivals .u32 px) true), .ro m [.int .i64 W, .int .i64 H, .slice (some ⟨r, 0, none⟩) n cap] 115, .gen (rdE (some ⟨r, 0, none⟩) r 0 n 1 (ivals .u32 px))]) (fun x_ => True) (by kernel_rfl) (fun w hT => (sliceClone r n cap px w (hT.viewRo (.cons (i := 1) rfl Vw.rd .nil) rfl) (by omega)).mono fun e w' ⟨g1, cp2, he_, ht_⟩ => ⟨(g1, cp2), he_, trivial, hT.news ht_ rfl⟩) ?_
  rintro ⟨g1, cp2⟩ hf3_
  refine cont_norm [(6, .int .i64 W), (10, .int .i64 H), (14, .slice (some ⟨r, 0, none⟩) n cap), (15, .slice (some ⟨g1, 0, none⟩) n cp2)] [.gen (rowE (some ⟨g1, 0, none⟩) g1 n cp2 54 1 (ivals .u32 px) true), .ro m [.int .i64 W, .int .i64 H, .slice (some ⟨r, 0, none⟩) n cap] 115, .gen (rdE (some ⟨r, 0, none⟩) r 0 n 1 (ivals .u32 px))] (by kernel_rfl) rfl ?_
  refine drawn_next 1 [] (by kernel_rfl) ?_
  refine takes 1 [] [(13, 0)] 2 [13, 12, 11, 7, 3, 10, 6, 2, 9, 5, 1, 8, 4, 0] [(16, .agg #[.int .i64 W, .int .i64 H, .slice (some ⟨g1, 0, none⟩) n cp2])] (by kernel_rfl) (pok_then pok_body) (by kernel_rfl) rfl rfl (by kernel_rfl) (by kernel_rfl) ?_
  refine drawn_one 14 1 rfl (by kernel_rfl) ?_
  refine one_step1 0 (fun b4 => [(17, .pointer (some ⟨b4, 0, none⟩))]) (fun b4 => [.cells b4 [.int .i64 W, .int .i64 H, .slice (some ⟨g1, 0, none⟩) n cp2] 115 true, .gen (rowE (some ⟨g1, 0, none⟩) g1 n cp2 54 1 (ivals .u32 px) true), .ro m [.int .i64 W, .int .i64 H, .slice (some ⟨r, 0, none⟩) n cap] 115, .gen (rdE (some ⟨r, 0, none⟩) r 0 n 1 (ivals .u32 px))]) (fun b4 => by kernel_rfl) (fun b4 => by kernel_rfl) (fun b4 => ?_)
  refine drawn_next 2 [] (by kernel_rfl) ?_
  refine takes 2 [] [(15, 0)] 0 [15, 14, 13, 12, 11, 7, 3, 10, 6, 2, 9, 5, 1, 8, 4, 0] [(2, .pointer (some ⟨b4, 0, none⟩))] (by kernel_rfl) (pok_then pok_body) (by kernel_rfl) rfl rfl (by kernel_rfl) (by kernel_rfl) ?_
  refine drawn_done (by kernel_rfl) ?_
  refine then_normal ?_
  refine cont_ret ?_
  refine ret_one (.inl rfl) rfl 0 (.pointer (some ⟨b4, 0, none⟩)) (by kernel_rfl) (by kernel_rfl) (fun w hT => ?_)
  replace hT := hT.erase 3 (fun e h hw => by cases h; first | rfl | cases hw)
  replace hT := hT.erase 2 (fun e h hw => by cases h; first | rfl | cases hw)
  exact ⟨_, _, _, rfl, newImg_of_tab hT⟩

theorem refSmall (a b c d : Int) (w : World) (ha : -9223372036854775808 ≤ a ∧ a ≤ 9223372036854775807) (hb : -9223372036854775808 ≤ b ∧ b ≤ 9223372036854775807) (hc : -9223372036854775808 ≤ c ∧ c ≤ 9223372036854775807) (hd : -9223372036854775808 ≤ d ∧ d ≤ 9223372036854775807) :
    Calls Try.prog 47 #[.agg #[.int .i64 a, .int .i64 b, .int .i64 c, .int .i64 d]] w fun e w' => e = .returned (.agg #[.int .i64 (aroundI a 24 - 4), .int .i64 (aroundI b 24 - 4), .int .i64 ((aroundI a 24 - 4) + aroundI c 13), .int .i64 ((aroundI b 24 - 4) + aroundI d 13)]) ∧ Below w.heap.size w w' := by
  refine enter 26 [(0, .agg #[.int .i64 a, .int .i64 b, .int .i64 c, .int .i64 d])] [] Try.func47 rfl Try.ntmps47 rfl (by kernel_rfl) (Tab.start w) ?_
  refine cont_seq ?_
  refine cont_region 2 rfl ?_
  refine batch2 [0, 0] 2 0 (fun b1 b2 => [(1, .pointer (some ⟨b1, 0, none⟩)), (2, .pointer (some ⟨b2, 0, none⟩))]) (fun b1 b2 => [.cells b2 [.int .i64 0, .int .i64 0, .int .i64 0, .int .i64 0] 28 true, .cells b1 [.int .i64 a, .int .i64 b, .int .i64 c, .int .i64 d] 28 true]) rfl rfl [1, 2] (fun _ _ => rfl) (fun b1 b2 => by kernel_rfl) (fun b1 b2 => by kernel_rfl) (fun b1 b2 => ?_)
  refine cont_done ?_
  refine then_normal ?_
  refine cont_seq ?_
  refine cont_region 5 rfl ?_
  refine bS [0, 1] 2 3 [(1, .pointer (some ⟨b1, 0, none⟩)), (2, .pointer (some ⟨b2, 0, none⟩)), (6, .int .i64 a)] ?_
  refine pl_step 3 2 rfl rfl ?_
  refine call_pure (d := 7) (.int .i64 (aroundI a 24)) (by kernel_rfl) (fun w hT => refAround a 24 w (by omega) (by omega)) ?_
  have hq3_ := aroundI_range a (m := 24) (by omega)
  refine bS [0] 4 1 [(1, .pointer (some ⟨b1, 0, none⟩)), (2, .pointer (some ⟨b2, 0, none⟩)), (8, .int .i64 (IntKind.i64.wrap ((aroundI a 24) - 4)))] ?_
  refine cont_recast 8 (.int .i64 (IntKind.i64.wrap ((aroundI a 24) - 4))) (.int .i64 ((aroundI a 24) - 4)) rfl (wrapI (by omega) (by omega)) ?_
  refine bS [0] 5 0 [(1, .pointer (some ⟨b1, 0, none⟩)), (2, .pointer (some ⟨b2, 0, none⟩)), (3, .int .i64 ((aroundI a 24) - 4))] ?_
  refine cont_done ?_
  refine then_normal ?_
  refine cont_seq ?_
  refine cont_region 5 rfl ?_
  refine bS [0, 1] 2 3 [(1, .pointer (some ⟨b1, 0, none⟩)), (2, .pointer (some ⟨b2, 0, none⟩)), (3, .int .i64 ((aroundI a 24) - 4)), (10, .int .i64 b)] ?_
  refine pl_step 3 2 rfl rfl ?_
  refine call_pure (d := 11) (.int .i64 (aroundI b 24)) (by kernel_rfl) (fun w hT => refAround b 24 w (by omega) (by omega)) ?_
  have hq4_ := aroundI_range b (m := 24) (by omega)
  refine bS [0] 4 1 [(1, .pointer (some ⟨b1, 0, none⟩)), (2, .pointer (some ⟨b2, 0, none⟩)), (3, .int .i64 ((aroundI a 24) - 4)), (12, .int .i64 (IntKind.i64.wrap ((aroundI b 24) - 4)))] ?_
  refine cont_recast 12 (.int .i64 (IntKind.i64.wrap ((aroundI b 24) - 4))) (.int .i64 ((aroundI b 24) - 4)) rfl (wrapI (by omega) (by omega)) ?_
  refine bS [0] 5 0 [(1, .pointer (some ⟨b1, 0, none⟩)), (2, .pointer (some ⟨b2, 0, none⟩)), (3, .int .i64 ((aroundI a 24) - 4)), (4, .int .i64 ((aroundI b 24) - 4))] ?_
  refine cont_done ?_
  refine then_normal ?_
  refine cont_seq ?_
  refine drawn_enter 14 [0] rfl (by kernel_rfl) ?_
  refine takes 0 [0] [(0, 0), (1, 0), (2, 0), (3, 0), (7, 0), (8, 0), (4, 1), (9, 1)] 6 [9, 4, 8, 7, 3, 2, 1, 0] [(2, .pointer (some ⟨b2, 0, none⟩)), (13, .int .i64 ((aroundI a 24) - 4)), (14, .int .i64 ((aroundI b 24) - 4)), (15, .int .i64 ((aroundI a 24) - 4)), (17, .int .i64 c), (20, .int .i64 ((aroundI b 24) - 4)), (22, .int .i64 d)] (by kernel_rfl) (pok_then pok_body) (by kernel_rfl) rfl rfl (by kernel_rfl) (by kernel_rfl) ?_
  refine drawn_one 5 5 rfl (by kernel_rfl) ?_
  refine call_pure (d := 18) (.int .i64 (aroundI c 13)) (by kernel_rfl) (fun w hT => refAround c 13 w (by omega) (by omega)) ?_
  have hq5_ := aroundI_range c (m := 13) (by omega)
  refine drawn_next 0 [0] (by kernel_rfl) ?_
  refine takes 0 [0] [(6, 0)] 4 [6, 5, 9, 4, 8, 7, 3, 2, 1, 0] [(2, .pointer (some ⟨b2, 0, none⟩)), (13, .int .i64 ((aroundI a 24) - 4)), (14, .int .i64 ((aroundI b 24) - 4)), (19, .int .i64 (IntKind.i64.wrap (((aroundI a 24) - 4) + (aroundI c 13)))), (20, .int .i64 ((aroundI b 24) - 4)), (22, .int .i64 d)] (by kernel_rfl) (pok_then pok_body) (by kernel_rfl) rfl rfl (by kernel_rfl) (by kernel_rfl) ?_
  refine cont_recast 19 (.int .i64 (IntKind.i64.wrap (((aroundI a 24) - 4) + (aroundI c 13)))) (.int .i64 (((aroundI a 24) - 4) + (aroundI c 13))) rfl (wrapI (by omega) (by omega)) ?_
  refine drawn_one 10 3 rfl (by kernel_rfl) ?_
  refine call_pure (d := 23) (.int .i64 (aroundI d 13)) (by kernel_rfl) (fun w hT => refAround d 13 w (by omega) (by omega)) ?_
  have hq6_ := aroundI_range d (m := 13) (by omega)
  refine drawn_next 0 [0] (by kernel_rfl) ?_
  refine takes 0 [0] [(11, 0)] 2 [11, 10, 6, 5, 9, 4, 8, 7, 3, 2, 1, 0] [(2, .pointer (some ⟨b2, 0, none⟩)), (13, .int .i64 ((aroundI a 24) - 4)), (14, .int .i64 ((aroundI b 24) - 4)), (19, .int .i64 (((aroundI a 24) - 4) + (aroundI c 13))), (24, .int .i64 (IntKind.i64.wrap (((aroundI b 24) - 4) + (aroundI d 13))))] (by kernel_rfl) (pok_then pok_body) (by kernel_rfl) rfl rfl (by kernel_rfl) (by kernel_rfl) ?_
  refine cont_recast 24 (.int .i64 (IntKind.i64.wrap (((aroundI b 24) - 4) + (aroundI d 13)))) (.int .i64 (((aroundI b 24) - 4) + (aroundI d 13))) rfl (wrapI (by omega) (by omega)) ?_
  refine takes 0 [0] [(12, 0)] 1 [12, 11, 10, 6, 5, 9, 4, 8, 7, 3, 2, 1, 0] [(2, .pointer (some ⟨b2, 0, none⟩)), (25, .agg #[.int .i64 ((aroundI a 24) - 4), .int .i64 ((aroundI b 24) - 4), .int .i64 (((aroundI a 24) - 4) + (aroundI c 13)), .int .i64 (((aroundI b 24) - 4) + (aroundI d 13))])] (by kernel_rfl) (pok_then pok_body) (by kernel_rfl) rfl rfl (by kernel_rfl) (by kernel_rfl) ?_
  refine drawn_one 13 0 rfl (by kernel_rfl) ?_
  refine one_step 0 [(2, .pointer (some ⟨b2, 0, none⟩))] [.cells b2 [.int .i64 ((aroundI a 24) - 4), .int .i64 ((aroundI b 24) - 4), .int .i64 (((aroundI a 24) - 4) + (aroundI c 13)), .int .i64 (((aroundI b 24) - 4) + (aroundI d 13))] 28 true, .cells b1 [.int .i64 a, .int .i64 b, .int .i64 c, .int .i64 d] 28 true] (by kernel_rfl) (by kernel_rfl) ?_
  refine drawn_next 0 [0] (by kernel_rfl) ?_
  refine drawn_done (by kernel_rfl) ?_
  refine then_normal ?_
  refine cont_ret ?_
  refine ret_one (.inl rfl) rfl 0 (.agg #[.int .i64 ((aroundI a 24) - 4), .int .i64 ((aroundI b 24) - 4), .int .i64 (((aroundI a 24) - 4) + (aroundI c 13)), .int .i64 (((aroundI b 24) - 4) + (aroundI d 13))]) (by kernel_rfl) (by kernel_rfl) (fun w hT => ?_)
  exact ⟨rfl, hT.post rfl⟩

end Go.Proofs.Ytgmonhehilcegaa
