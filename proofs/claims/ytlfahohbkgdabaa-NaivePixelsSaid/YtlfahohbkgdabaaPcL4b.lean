/- Contracts of functions of the given program, printed by a program of this project. -/
import Derived.Test.YtlfahohbkgdabaaPcL4
import Derived.Test.YtlfahohbkgdabaaPcIc
import Derived.Test.YtlfahohbkgdabaaProg
set_option linter.unusedVariables false
set_option linter.unusedSimpArgs false
namespace Go.Proofs.Ytlfahohbkgdabaa
open Go Go.RowKit
set_option maxRecDepth 100000
set_option maxHeartbeats 8000000

theorem refAround (n m : Int) (w : World) (hn : -9223372036854775808 ≤ n ∧ n ≤ 9223372036854775807) (hm : 1 ≤ m ∧ m ≤ 9223372036854775807) :
    Calls Try.prog 13 #[.int .i64 n, .int .i64 m] w fun e w' => e = .returned (.int .i64 (aroundI n m)) ∧ Below w.heap.size w w' := by
 refine enter 13 [(0, iq n), (1, iq m)] [] Try.func13 rfl Try.ntmps13 rfl (by kernel_rfl) (Tab.start w) ?_
 refine cont_seq ?_
 refine cont_region 1 rfl ?_
 refine bS [0] 1 0 [(0, iq n), (1, iq m)] ?_
 refine cont_done ?_
 refine then_normal ?_
 refine cont_seq ?_
 refine cont_seq ?_
 refine cont_region 2 rfl ?_
 refine bS [0, 0] 2 0 [(0, iq n), (1, iq m), (6, .bool (decide (n < 0)))] ?_
 refine cont_done ?_
 refine then_normal ?_
 refine cont_split 6 (decide (n < 0)) rfl (fun c1_ => ?_) (fun c1_ => ?_)
 ·
  replace c1_ := of_decide_eq_true c1_
  refine cont_true rfl ?_
  refine cont_region 4 rfl ?_
  refine bS [0, 0] 2 2 [(1, iq m), (8, iq (IntKind.i64.wrap (n + 1)))] ?_
  refine cont_recast 8 (iq (IntKind.i64.wrap (n + 1))) (iq (n + 1)) rfl (wrapI (by omega) (by omega)) ?_
  refine bS [0] 3 1 [(1, iq m), (9, iq (IntKind.i64.wrap (0 - (n + 1))))] ?_
  refine cont_recast 9 (iq (IntKind.i64.wrap (0 - (n + 1)))) (iq (0 - (n + 1))) rfl (wrapI (by omega) (by omega)) ?_
  refine bS [0] 4 0 [(0, iq (0 - (n + 1))), (1, iq m)] ?_
  refine cont_done ?_
  refine then_normal ?_
  refine cont_seq ?_
  refine cont_region 4 rfl ?_
  refine bS [0, 0] 2 2 [(10, iq (0 - (n + 1))), (11, iq m)] ?_
  refine pl_step 3 1 rfl rfl ?_
  refine sem_step 12 (bopS .rem 3 (.tmp 10) (.tmp 11) (iq (0 - (n + 1))) (iq m)) (iq ((0 - (n + 1)).tmod m)) (by kernel_rfl) (fun w hT => run_rem (by omega) w) ?_
  refine cont_recast 12 (iq ((0 - (n + 1)).tmod m)) (iq ((0 - (n + 1)) % m)) rfl (tmodI (by omega)) ?_
  refine bS [0] 4 0 [(4, iq ((0 - (n + 1)) % m))] ?_
  refine cont_done ?_
  refine then_normal ?_
  refine cont_ret ?_
  refine ret_one (.inl rfl) rfl 0 (iq ((0 - (n + 1)) % m)) (by kernel_rfl) (by kernel_rfl) (fun w hT => ?_)
  exact ⟨ret_int (by simp [aroundI, *]), hT.post rfl⟩
 replace c1_ := of_decide_eq_false c1_
 refine cont_false rfl ?_
 refine cont_skip ?_
 refine then_normal ?_
 refine cont_seq ?_
 refine cont_region 4 rfl ?_
 refine bS [0, 0] 2 2 [(10, iq n), (11, iq m)] ?_
 refine pl_step 3 1 rfl rfl ?_
 refine sem_step 12 (bopS .rem 3 (.tmp 10) (.tmp 11) (iq n) (iq m)) (iq (n.tmod m)) (by kernel_rfl) (fun w hT => run_rem (by omega) w) ?_
 refine cont_recast 12 (iq (n.tmod m)) (iq (n % m)) rfl (tmodI (by omega)) ?_
 refine bS [0] 4 0 [(4, iq (n % m))] ?_
 refine cont_done ?_
 refine then_normal ?_
 refine cont_ret ?_
 refine ret_one (.inl rfl) rfl 0 (iq (n % m)) (by kernel_rfl) (by kernel_rfl) (fun w hT => ?_)
 exact ⟨ret_int (by simp [aroundI, *]), hT.post rfl⟩

theorem refParts (c : Int) (w : World) (h0 : 0 ≤ c) (h1 : c < 4294967296) :
    Calls Try.prog 21 #[.int .u32 c] w fun e w' => e = .returned (.agg #[.int .i64 (pa c), .int .i64 (pr c), .int .i64 (pg c), .int .i64 (pb c)]) ∧ Below w.heap.size w w' := by
 refine enter 17 [(0, .int .u32 c)] [] Try.func21 rfl Try.ntmps21 rfl (by kernel_rfl) (Tab.start w) ?_
 refine cont_seq ?_
 refine cont_region 1 rfl ?_
 refine batch1 [0] 1 0 (fun b1 => [(0, .int .u32 c), (2, .pointer (pB b1))]) (fun b1 => [.cells b1 [iq 0, iq 0, iq 0, iq 0] 49 true]) rfl rfl [0, 2] (fun _ => rfl) (fun b1 => by kernel_rfl) (fun b1 => by kernel_rfl) (fun b1 => ?_)
 refine cont_done ?_
 refine then_normal ?_
 refine cont_seq ?_
 refine cont_region 3 rfl ?_
 refine bS [0, 0] 2 1 [(2, .pointer (pB b1)), (5, iq (IntKind.i64.wrap c))] ?_
 refine cont_recast 5 (iq (IntKind.i64.wrap c)) (iq c) rfl (wrapI (by omega) (by omega)) ?_
 refine bS [0] 3 0 [(2, .pointer (pB b1)), (3, iq c)] ?_
 refine cont_done ?_
 refine then_normal ?_
 refine cont_seq ?_
 refine cont_region 12 rfl ?_
 refine bS [0, 0] 2 10 [(2, .pointer (pB b1)), (3, iq c), (7, iq (IntKind.i64.wrap (c.tdiv 16777216)))] ?_
 refine cont_recast 7 (iq (IntKind.i64.wrap (c.tdiv 16777216))) (iq (c / 16777216)) rfl (tdivI (by omega) (by omega) (by omega)) ?_
 refine bS [0, 0] 4 8 [(2, .pointer (pB b1)), (3, iq c), (7, iq (c / 16777216)), (9, iq (IntKind.i64.wrap (c.tdiv 65536)))] ?_
 refine cont_recast 9 (iq (IntKind.i64.wrap (c.tdiv 65536))) (iq (c / 65536)) rfl (tdivI (by omega) (by omega) (by omega)) ?_
 refine bS [0] 5 7 [(2, .pointer (pB b1)), (3, iq c), (7, iq (c / 16777216)), (10, iq ((c / 65536).tmod 256))] ?_
 refine cont_recast 10 (iq ((c / 65536).tmod 256)) (iq ((c / 65536) % 256)) rfl (tmodI (by omega)) ?_
 refine bS [0, 0] 7 5 [(2, .pointer (pB b1)), (3, iq c), (7, iq (c / 16777216)), (10, iq ((c / 65536) % 256)), (12, iq (IntKind.i64.wrap (c.tdiv 256)))] ?_
 refine cont_recast 12 (iq (IntKind.i64.wrap (c.tdiv 256))) (iq (c / 256)) rfl (tdivI (by omega) (by omega) (by omega)) ?_
 refine bS [0] 8 4 [(2, .pointer (pB b1)), (3, iq c), (7, iq (c / 16777216)), (10, iq ((c / 65536) % 256)), (13, iq ((c / 256).tmod 256))] ?_
 refine cont_recast 13 (iq ((c / 256).tmod 256)) (iq ((c / 256) % 256)) rfl (tmodI (by omega)) ?_
 refine bS [0, 0] 10 2 [(2, .pointer (pB b1)), (7, iq (c / 16777216)), (10, iq ((c / 65536) % 256)), (13, iq ((c / 256) % 256)), (15, iq (c.tmod 256))] ?_
 refine cont_recast 15 (iq (c.tmod 256)) (iq (c % 256)) rfl (tmodI (by omega)) ?_
 refine batch0 [0, 0] 12 0 [(2, .pointer (pB b1))] [.cells b1 [iq (c / 16777216), iq ((c / 65536) % 256), iq ((c / 256) % 256), iq (c % 256)] 49 true] rfl rfl (by kernel_rfl) (by kernel_rfl) ?_
 refine cont_done ?_
 refine then_normal ?_
 refine cont_ret ?_
 refine ret_one (.inl rfl) rfl 0 (.agg #[iq (c / 16777216), iq ((c / 65536) % 256), iq ((c / 256) % 256), iq (c % 256)]) (by kernel_rfl) (by kernel_rfl) (fun w hT => ?_)
 exact ⟨rfl, hT.post rfl⟩

theorem refMake (a r g b : Int) (w : World) :
    Calls Try.prog 22 #[.int .i64 a, .int .i64 r, .int .i64 g, .int .i64 b] w fun e w' => e = .returned (.int .u32 (mkC a r g b)) ∧ Below w.heap.size w w' := by
 have ha : 0 ≤ mn (mx a 0) 255 ∧ mn (mx a 0) 255 ≤ 255 := by unfold mn mx; omega
 have hr : 0 ≤ mn (mx r 0) 255 ∧ mn (mx r 0) 255 ≤ 255 := by unfold mn mx; omega
 have hg : 0 ≤ mn (mx g 0) 255 ∧ mn (mx g 0) 255 ≤ 255 := by unfold mn mx; omega
 have hb : 0 ≤ mn (mx b 0) 255 ∧ mn (mx b 0) 255 ≤ 255 := by unfold mn mx; omega
 refine enter 32 [(0, iq a), (1, iq r), (2, iq g), (3, iq b)] [] Try.func22 rfl Try.ntmps22 rfl (by kernel_rfl) (Tab.start w) ?_
 refine cont_seq ?_
 refine cont_region 1 rfl ?_
 refine bS [0] 1 0 [(0, iq a), (1, iq r), (2, iq g), (3, iq b)] ?_
 refine cont_done ?_
 refine then_normal ?_
 refine cont_seq ?_
 refine cont_region 4 rfl ?_
 refine bS [0, 0, 0, 0] 4 0 [(0, iq (mn (mx a 0) 255)), (1, iq r), (2, iq g), (3, iq b)] ?_
 refine cont_done ?_
 refine then_normal ?_
 refine cont_seq ?_
 refine cont_region 4 rfl ?_
 refine bS [0, 0, 0, 0] 4 0 [(0, iq (mn (mx a 0) 255)), (1, iq (mn (mx r 0) 255)), (2, iq g), (3, iq b)] ?_
 refine cont_done ?_
 refine then_normal ?_
 refine cont_seq ?_
 refine cont_region 4 rfl ?_
 refine bS [0, 0, 0, 0] 4 0 [(0, iq (mn (mx a 0) 255)), (1, iq (mn (mx r 0) 255)), (2, iq (mn (mx g 0) 255)), (3, iq b)] ?_
 refine cont_done ?_
 refine then_normal ?_
 refine cont_seq ?_
 refine cont_region 4 rfl ?_
 refine bS [0, 0, 0, 0] 4 0 [(0, iq (mn (mx a 0) 255)), (1, iq (mn (mx r 0) 255)), (2, iq (mn (mx g 0) 255)), (3, iq (mn (mx b 0) 255))] ?_
 refine cont_done ?_
 refine then_normal ?_
 refine cont_seq ?_
 refine cont_region 12 rfl ?_
 refine bS [0, 0] 2 10 [(1, iq (mn (mx r 0) 255)), (2, iq (mn (mx g 0) 255)), (3, iq (mn (mx b 0) 255)), (22, iq (IntKind.i64.wrap ((mn (mx a 0) 255) * 16777216)))] ?_
 refine cont_recast 22 (iq (IntKind.i64.wrap ((mn (mx a 0) 255) * 16777216))) (iq ((mn (mx a 0) 255) * 16777216)) rfl (wrapI (by omega) (by omega)) ?_
 refine bS [0, 0] 4 8 [(2, iq (mn (mx g 0) 255)), (3, iq (mn (mx b 0) 255)), (22, iq ((mn (mx a 0) 255) * 16777216)), (24, iq (IntKind.i64.wrap ((mn (mx r 0) 255) * 65536)))] ?_
 refine cont_recast 24 (iq (IntKind.i64.wrap ((mn (mx r 0) 255) * 65536))) (iq ((mn (mx r 0) 255) * 65536)) rfl (wrapI (by omega) (by omega)) ?_
 refine bS [0] 5 7 [(2, iq (mn (mx g 0) 255)), (3, iq (mn (mx b 0) 255)), (25, iq (IntKind.i64.wrap (((mn (mx a 0) 255) * 16777216) + ((mn (mx r 0) 255) * 65536))))] ?_
 refine cont_recast 25 (iq (IntKind.i64.wrap (((mn (mx a 0) 255) * 16777216) + ((mn (mx r 0) 255) * 65536)))) (iq (((mn (mx a 0) 255) * 16777216) + ((mn (mx r 0) 255) * 65536))) rfl (wrapI (by omega) (by omega)) ?_
 refine bS [0, 0] 7 5 [(3, iq (mn (mx b 0) 255)), (25, iq (((mn (mx a 0) 255) * 16777216) + ((mn (mx r 0) 255) * 65536))), (27, iq (IntKind.i64.wrap ((mn (mx g 0) 255) * 256)))] ?_
 refine cont_recast 27 (iq (IntKind.i64.wrap ((mn (mx g 0) 255) * 256))) (iq ((mn (mx g 0) 255) * 256)) rfl (wrapI (by omega) (by omega)) ?_
 refine bS [0] 8 4 [(3, iq (mn (mx b 0) 255)), (28, iq (IntKind.i64.wrap ((((mn (mx a 0) 255) * 16777216) + ((mn (mx r 0) 255) * 65536)) + ((mn (mx g 0) 255) * 256))))] ?_
 refine cont_recast 28 (iq (IntKind.i64.wrap ((((mn (mx a 0) 255) * 16777216) + ((mn (mx r 0) 255) * 65536)) + ((mn (mx g 0) 255) * 256)))) (iq ((((mn (mx a 0) 255) * 16777216) + ((mn (mx r 0) 255) * 65536)) + ((mn (mx g 0) 255) * 256))) rfl (wrapI (by omega) (by omega)) ?_
 refine bS [0, 0] 10 2 [(30, iq (IntKind.i64.wrap (((((mn (mx a 0) 255) * 16777216) + ((mn (mx r 0) 255) * 65536)) + ((mn (mx g 0) 255) * 256)) + (mn (mx b 0) 255))))] ?_
 refine cont_recast 30 (iq (IntKind.i64.wrap (((((mn (mx a 0) 255) * 16777216) + ((mn (mx r 0) 255) * 65536)) + ((mn (mx g 0) 255) * 256)) + (mn (mx b 0) 255)))) (iq (((((mn (mx a 0) 255) * 16777216) + ((mn (mx r 0) 255) * 65536)) + ((mn (mx g 0) 255) * 256)) + (mn (mx b 0) 255))) rfl (wrapI (by omega) (by omega)) ?_
 refine bS [0] 11 1 [(31, .int .u32 (IntKind.u32.wrap (((((mn (mx a 0) 255) * 16777216) + ((mn (mx r 0) 255) * 65536)) + ((mn (mx g 0) 255) * 256)) + (mn (mx b 0) 255))))] ?_
 refine cont_recast 31 (.int .u32 (IntKind.u32.wrap (((((mn (mx a 0) 255) * 16777216) + ((mn (mx r 0) 255) * 65536)) + ((mn (mx g 0) 255) * 256)) + (mn (mx b 0) 255)))) (.int .u32 (((((mn (mx a 0) 255) * 16777216) + ((mn (mx r 0) 255) * 65536)) + ((mn (mx g 0) 255) * 256)) + (mn (mx b 0) 255))) rfl (wrapU32 (by omega) (by omega)) ?_
 refine bS [0] 12 0 [(8, .int .u32 (((((mn (mx a 0) 255) * 16777216) + ((mn (mx r 0) 255) * 65536)) + ((mn (mx g 0) 255) * 256)) + (mn (mx b 0) 255)))] ?_
 refine cont_done ?_
 refine then_normal ?_
 refine cont_ret ?_
 refine ret_one (.inl rfl) rfl 0 (.int .u32 (((((mn (mx a 0) 255) * 16777216) + ((mn (mx r 0) 255) * 65536)) + ((mn (mx g 0) 255) * 256)) + (mn (mx b 0) 255))) (by kernel_rfl) (by kernel_rfl) (fun w hT => ?_)
 exact ⟨ret_int (by simp only [mkC, clip, mx_eq, mn_eq]), hT.post rfl⟩

theorem refGood3 (c : Int) (w : World) (h0 : 0 ≤ c) (h1 : c < 4294967296) :
    Calls Try.prog 12 #[.int .u32 c] w fun e w' => e = .returned (.int .u32 (goodC c)) ∧ Below w.heap.size w w' := by
 refine enter 24 [(0, .int .u32 c)] [] Try.func12 rfl Try.ntmps12 rfl (by kernel_rfl) (Tab.start w) ?_
 refine cont_seq ?_
 refine cont_region 1 rfl ?_
 refine bS [0] 1 0 [(0, .int .u32 c)] ?_
 refine cont_done ?_
 refine then_normal ?_
 refine cont_seq ?_
 refine cont_region 4 rfl ?_
 refine bS [0] 1 3 [(4, .int .u32 c)] ?_
 refine pl_step 2 2 rfl rfl ?_
 refine call_pure (d := 5) (.agg #[iq (pa c), iq (pr c), iq (pg c), iq (pb c)]) (by kernel_rfl) (fun w hT => refParts c w (by omega) (by omega)) ?_
 refine batch1 [0, 0] 4 0 (fun b1 => [(3, .pointer (pB b1))]) (fun b1 => [.cells b1 [iq (pa c), iq (pr c), iq (pg c), iq (pb c)] 49 true]) rfl rfl [3] (fun _ => rfl) (fun b1 => by kernel_rfl) (fun b1 => by kernel_rfl) (fun b1 => ?_)
 refine cont_done ?_
 refine then_normal ?_
 refine cont_seq ?_
 refine cont_region 19 rfl ?_
 refine bS [0, 0, 0, 0, 0, 0, 0, 0, 0, 0, 0, 0, 0, 0, 0, 0, 0] 17 2 [(7, iq (pa c)), (12, iq (mn (pr c) (pa c))), (17, iq (mn (pg c) (pa c))), (22, iq (mn (pb c) (pa c)))] ?_
 refine cont_forget 0 rfl ?_
 refine pl_step 18 1 rfl rfl ?_
 refine call_pure (d := 23) (.int .u32 (mkC (pa c) (mn (pr c) (pa c)) (mn (pg c) (pa c)) (mn (pb c) (pa c)))) (by kernel_rfl) (fun w hT => refMake (pa c) (mn (pr c) (pa c)) (mn (pg c) (pa c)) (mn (pb c) (pa c)) w) ?_
 refine bS [0] 19 0 [(2, .int .u32 (mkC (pa c) (mn (pr c) (pa c)) (mn (pg c) (pa c)) (mn (pb c) (pa c))))] ?_
 refine cont_done ?_
 refine then_normal ?_
 refine cont_ret ?_
 refine ret_one (.inl rfl) rfl 0 (.int .u32 (mkC (pa c) (mn (pr c) (pa c)) (mn (pg c) (pa c)) (mn (pb c) (pa c)))) (by kernel_rfl) (by kernel_rfl) (fun w hT => ?_)
 exact ⟨rfl, hT.post rfl⟩

theorem refNew4 (W H : Int) (w : World) (hwh : 1 ≤ W ∧ W ≤ 256 ∧ 1 ≤ H ∧ H ≤ 256) :
    Calls Try.prog 24 #[.int .i64 W, .int .i64 H] w fun e w' => ∃ r n : Nat, e = .returned (.agg #[.int .i64 W, .int .i64 H, .slice (some ⟨r, 0, none⟩) n n]) ∧ (n : Int) = W * H ∧ Tab w w' [.gen (rowE (some ⟨r, 0, none⟩) r n n 24 1 (ivals .u32 (List.replicate n 0)) true)] := by
 have hm : W * H ≤ 256 * 256 := mul_le_of (by omega) (by omega) (by omega) (by omega)
 have hm0 : 0 ≤ W * H := Int.mul_nonneg (by omega) (by omega)
 obtain ⟨n, hn⟩ : ∃ n : Nat, (n : Int) = W * H := ⟨(W * H).toNat, by omega⟩
 refine enter 12 [(0, iq W), (1, iq H)] [] Try.func24 rfl Try.ntmps24 rfl (by kernel_rfl) (Tab.start w) ?_
 refine cont_seq ?_
 refine cont_region 1 rfl ?_
 refine batch1 [0] 1 0 (fun b1 => [(0, iq W), (1, iq H), (4, .pointer (pB b1))]) (fun b1 => [.cells b1 [iq 0, iq 0, .slice none 0 0] 41 true]) rfl rfl [0, 1, 4] (fun _ => rfl) (fun b1 => by kernel_rfl) (fun b1 => by kernel_rfl) (fun b1 => ?_)
 refine cont_done ?_
 refine then_normal ?_
 refine cont_seq ?_
 refine cont_region 8 rfl ?_
 refine bS [0, 0, 0, 0, 0] 5 3 [(4, .pointer (pB b1)), (5, iq W), (6, iq H), (9, iq (IntKind.i64.wrap (W * H)))] ?_
 refine cont_recast 9 (iq (IntKind.i64.wrap (W * H))) (iq (n : Int)) rfl (by rw [hn]; exact wrapI (by omega) (by omega)) ?_
 refine pl_step 6 2 rfl rfl ?_
 refine sem_stepW 10 (Instr.makeSlice 39 (iq (n : Int)) (iq (n : Int))) (fun r2 => .slice (pB r2) n n) (fun r2 => [.gen (rowE (pB r2) r2 n n 24 1 (ivals .u32 (List.replicate n 0)) true), .cells b1 [iq 0, iq 0, .slice none 0 0] 41 true]) (fun _ => True) (by kernel_rfl) (fun w hT => make_row hT (bytes := 4) n (by kernel_rfl) (by kernel_rfl) (by omega) (by omega)) (fun r2 _ => ?_)
 refine batch0 [0, 1] 8 0 [(4, .pointer (pB b1))] [.gen (rowE (pB r2) r2 n n 24 1 (ivals .u32 (List.replicate n 0)) true), .cells b1 [iq W, iq H, .slice (pB r2) n n] 41 true] rfl rfl (by kernel_rfl) (by kernel_rfl) ?_
 refine cont_done ?_
 refine then_normal ?_
 refine cont_ret ?_
 refine ret_one (.inl rfl) rfl 1 (.agg #[iq W, iq H, .slice (pB r2) n n]) (by kernel_rfl) (by kernel_rfl) (fun w hT => ?_)
 replace hT := hT.erase 1 (fun e h hw => by cases h; first | rfl | cases hw)
 exact ⟨_, _, rfl, hn, hT⟩

theorem refGood4 (A1 : Option Addr) (g1 o1 n1 cap1 : Nat) (xs1 : List Int) (a b : Int) (w : World) (hT0 : Tab w w [.gen (rdE (A1) g1 o1 n1 1 (ivals .u32 xs1))]) (hh : GoodIn a b A1 g1 o1 n1 cap1 xs1) :
    Calls Try.prog 17 #[.int .i64 a, .int .i64 b, .slice A1 n1 cap1] w fun e w' => ∃ r n : Nat, e = .returned (.agg #[.int .i64 (1 + aroundI a 16), .int .i64 (1 + aroundI b 16), .slice (some ⟨r, 0, none⟩) n n]) ∧ (n : Int) = (1 + aroundI a 16) * (1 + aroundI b 16) ∧ Tab w w' [.gen (rowE (some ⟨r, 0, none⟩) r n n 24 1 (ivals .u32 (goodP n xs1 n)) true)] := by
 obtain ⟨ha, hb, hl1, hc1, hm1, hx1, hat1⟩ := hh
 unfold maxLen at hm1
 have hr1a := hat1
 refine enter 39 [(0, iq a), (1, iq b), (2, .slice A1 n1 cap1)] [.gen (rdE (A1) g1 o1 n1 1 (ivals .u32 xs1))] Try.func17 rfl Try.ntmps17 rfl (by kernel_rfl) hT0 ?_
 refine cont_seq ?_
 refine cont_region 1 rfl ?_
 refine batch1 [0] 1 0 (fun b1 => [(0, iq a), (1, iq b), (2, .slice A1 n1 cap1), (6, .pointer (pB b1))]) (fun b1 => [.cells b1 [iq 0, iq 0, .slice none 0 0] 41 true, .gen (rdE (A1) g1 o1 n1 1 (ivals .u32 xs1))]) rfl rfl [0, 1, 2, 6] (fun _ => rfl) (fun b1 => by kernel_rfl) (fun b1 => by kernel_rfl) (fun b1 => ?_)
 refine cont_done ?_
 refine then_normal ?_
 refine cont_seq ?_
 refine cont_region 9 rfl ?_
 refine bS [0] 1 8 [(1, iq b), (2, .slice A1 n1 cap1), (6, .pointer (pB b1)), (9, iq a)] ?_
 refine pl_step 2 7 rfl rfl ?_
 refine call_pure (d := 10) (iq (aroundI a 16)) (by kernel_rfl) (fun w hT => refAround a 16 w (by omega) (by omega)) ?_
 have hq2_ := aroundI_range a (m := 16) (by omega)
 refine bS [0] 3 6 [(1, iq b), (2, .slice A1 n1 cap1), (6, .pointer (pB b1)), (11, iq (IntKind.i64.wrap (1 + (aroundI a 16))))] ?_
 refine cont_recast 11 (iq (IntKind.i64.wrap (1 + (aroundI a 16)))) (iq (1 + (aroundI a 16))) rfl (wrapI (by omega) (by omega)) ?_
 refine bS [0] 4 5 [(2, .slice A1 n1 cap1), (6, .pointer (pB b1)), (11, iq (1 + (aroundI a 16))), (12, iq b)] ?_
 refine pl_step 5 4 rfl rfl ?_
 refine call_pure (d := 13) (iq (aroundI b 16)) (by kernel_rfl) (fun w hT => refAround b 16 w (by omega) (by omega)) ?_
 have hq3_ := aroundI_range b (m := 16) (by omega)
 refine bS [0] 6 3 [(2, .slice A1 n1 cap1), (6, .pointer (pB b1)), (11, iq (1 + (aroundI a 16))), (14, iq (IntKind.i64.wrap (1 + (aroundI b 16))))] ?_
 refine cont_recast 14 (iq (IntKind.i64.wrap (1 + (aroundI b 16)))) (iq (1 + (aroundI b 16))) rfl (wrapI (by omega) (by omega)) ?_
 refine pl_step 7 2 rfl rfl ?_
 refine call_gen (d := 15) (α := Nat × Nat) (fun x_ => .agg #[iq (1 + (aroundI a 16)), iq (1 + (aroundI b 16)), .slice (pB x_.1) x_.2 x_.2]) (fun x_ => [.gen (rowE (pB x_.1) x_.1 x_.2 x_.2 24 1 (ivals .u32 (List.replicate x_.2 0)) true), .cells b1 [iq 0, iq 0, .slice none 0 0] 41 true, .gen (rdE (A1) g1 o1 n1 1 (ivals .u32 xs1))]) (fun x_ => (x_.2 : Int) = (1 + (aroundI a 16)) * (1 + (aroundI b 16))) (by kernel_rfl) (fun w hT => (refNew4 (1 + (aroundI a 16)) (1 + (aroundI b 16)) w (by omega)).mono fun e w' ⟨r4, n5, he_, hf_, ht_⟩ => ⟨(r4, n5), he_, hf_, hT.news ht_ rfl⟩) ?_
 rintro ⟨r4, n5⟩ hf6_
 replace hf6_ : (n5 : Int) = (1 + (aroundI a 16)) * (1 + (aroundI b 16)) := hf6_
 refine cont_norm [(2, .slice A1 n1 cap1), (6, .pointer (pB b1)), (11, iq (1 + (aroundI a 16))), (14, iq (1 + (aroundI b 16))), (15, .agg #[iq (1 + (aroundI a 16)), iq (1 + (aroundI b 16)), .slice (pB r4) n5 n5])] _ (by kernel_rfl) rfl ?_
 refine batch1 [0, 0] 9 0 (fun b7 => [(2, .slice A1 n1 cap1), (6, .pointer (pB b1)), (7, .pointer (pB b7))]) (fun b7 => [.cells b7 [iq (1 + (aroundI a 16)), iq (1 + (aroundI b 16)), .slice (pB r4) n5 n5] 41 true, .gen (rowE (pB r4) r4 n5 n5 24 1 (ivals .u32 (List.replicate n5 0)) true), .cells b1 [iq 0, iq 0, .slice none 0 0] 41 true, .gen (rdE (A1) g1 o1 n1 1 (ivals .u32 xs1))]) rfl rfl [2, 6, 7] (fun _ => rfl) (fun b7 => by kernel_rfl) (fun b7 => by kernel_rfl) (fun b7 => ?_)
 refine cont_done ?_
 refine then_normal ?_
 refine cont_seq ?_
 refine cont_seq ?_
 refine cont_region 1 rfl ?_
 refine bS [0] 1 0 [(2, .slice A1 n1 cap1), (6, .pointer (pB b1)), (7, .pointer (pB b7)), (8, iq 0)] ?_
 refine cont_done ?_
 refine then_normal ?_
 refine cont_block ?_
 refine cont_rowEq (k := .u32) 1 (List.replicate n5 0) (goodP n5 xs1 0) rfl ((goodP_zero _ _).symm) ?_
 refine cont_loop (α := Nat) (fun x_ : Nat => x_ ≤ n1 ∧ x_ ≤ n5) (fun x_ : Nat => [(2, .slice A1 n1 cap1), (6, .pointer (pB b1)), (7, .pointer (pB b7)), (8, iq (x_ : Int))]) (fun x_ : Nat => [.cells b7 [iq (1 + (aroundI a 16)), iq (1 + (aroundI b 16)), .slice (pB r4) n5 n5] 41 true, .gen (rowE (pB r4) r4 n5 n5 24 1 (ivals .u32 (goodP n5 xs1 x_)) true), .cells b1 [iq 0, iq 0, .slice none 0 0] 41 true, .gen (rdE (A1) g1 o1 n1 1 (ivals .u32 xs1))]) (fun x_ : Nat => n1 - x_) 0 (⟨by omega, by omega⟩) (by kernel_rfl) (by kernel_rfl) ?_
 rintro i hinv8_
 replace hinv8_ : i ≤ n1 ∧ i ≤ n5 := hinv8_
 refine cont_norm [(2, .slice A1 n1 cap1), (6, .pointer (pB b1)), (7, .pointer (pB b7)), (8, iq (i : Int))] _ (by kernel_rfl) rfl ?_
 obtain ⟨hi1, hi2⟩ := hinv8_
 have hxi : i < n1 → 0 ≤ xs1.getD i 0 ∧ xs1.getD i 0 < 4294967296 := fun h => hx1 _ (by rw [List.getD_eq_getElem?_getD, List.getElem?_eq_getElem (by omega)]; simp)
 refine cont_seq ?_
 refine cont_seq ?_
 refine cont_region 11 rfl ?_
 refine bS [0, 0, 0, 0, 0] 5 6 [(2, .slice A1 n1 cap1), (6, .pointer (pB b1)), (7, .pointer (pB b7)), (8, iq (i : Int)), (20, .bool (decide ((i : Int) < (n1 : Int))))] ?_
 refine cont_split 20 (decide ((i : Int) < (n1 : Int))) rfl (fun c9_ => ?_) (fun c9_ => ?_)
 ·
  replace c9_ := of_decide_eq_true c9_
  refine bS [0, 0, 0, 0, 0, 0] 11 0 [(2, .slice A1 n1 cap1), (6, .pointer (pB b1)), (7, .pointer (pB b7)), (8, iq (i : Int)), (21, iq (i : Int)), (22, .pointer (some ⟨b7, 2, none⟩)), (23, .slice (pB r4) n5 n5), (24, iq (n5 : Int)), (25, .bool (decide ((i : Int) < (n5 : Int)))), (26, .bool (decide ((i : Int) < (n5 : Int))))] ?_
  refine cont_done ?_
  refine then_normal ?_
  refine cont_split 26 (decide ((i : Int) < (n5 : Int))) rfl (fun c10_ => ?_) (fun c10_ => ?_)
  ·
   refine cont_recast 25 (.bool (decide ((i : Int) < (n5 : Int)))) (.bool true) rfl (congrArg Value.bool c10_) ?_
   replace c10_ := of_decide_eq_true c10_
   refine cont_true rfl ?_
   refine cont_skip ?_
   refine then_normal ?_
   refine cont_seq ?_
   refine cont_block ?_
   refine drawn_enter 10 [1] rfl (by kernel_rfl) ?_
   refine takes 0 [1] [(0, 0), (2, 0), (3, 0), (4, 0), (1, 0)] 5 [1, 4, 3, 2, 0] [(2, .slice A1 n1 cap1), (6, .pointer (pB b1)), (7, .pointer (pB b7)), (8, iq (i : Int)), (21, iq (i : Int)), (22, .pointer (some ⟨b7, 2, none⟩)), (23, .slice (pB r4) n5 n5), (24, iq (n5 : Int)), (25, .bool true), (30, .slice (pB r4) n5 n5), (31, iq (i : Int)), (32, .slice A1 n1 cap1), (33, iq (i : Int))] (by kernel_rfl) (pok_blk (pok_then (pok_then (pok_blk (pok_then pok_body))))) (by kernel_rfl) rfl rfl (by kernel_rfl) (by kernel_rfl) ?_
   refine cont_recast 32 (.slice A1 n1 cap1) (.slice (some ⟨g1, o1, none⟩) n1 cap1) rfl (by rw [hat1 (by omega)]) ?_
   refine sem_take 0 [1] 5 4 34 (Instr.indexAt 39 (.slice (some ⟨g1, o1, none⟩) n1 cap1) (iq (i : Int))) (.pointer (some ⟨g1, o1 + i, none⟩)) (by kernel_rfl) (pok_blk (pok_then (pok_then (pok_blk (pok_then pok_body))))) (by kernel_rfl) rfl (by kernel_rfl) (by kernel_rfl) (fun w hT => run_indexAt (e := 24) (sz := 1) _ (by kernel_rfl) (by kernel_rfl) (by omega) (by omega) (by omega) w) ?_
   refine sem_take 0 [1] 6 3 35 (Instr.loadAt 24 (.pointer (some ⟨g1, o1 + i, none⟩))) (.int .u32 (xs1.getD i 0)) (by kernel_rfl) (pok_blk (pok_then (pok_then (pok_blk (pok_then pok_body))))) (by kernel_rfl) rfl (by kernel_rfl) (by kernel_rfl) (fun w hT => run_load1 (by kernel_rfl) (Rd.cell (hT 3 _ rfl) (i) _ (ivals_get (by omega)))) ?_
   refine drawn_one 7 2 rfl (by kernel_rfl) ?_
   refine call_pure (d := 36) (.int .u32 (goodC (xs1.getD i 0))) (by kernel_rfl) (fun w hT => refGood3 (xs1.getD i 0) w (by omega) (by omega)) ?_
   refine drawn_next 0 [1] (by kernel_rfl) ?_
   refine sem_take 0 [1] 8 1 37 (Instr.indexAt 39 (.slice (pB r4) n5 n5) (iq (i : Int))) (.pointer (some ⟨r4, i, none⟩)) (by kernel_rfl) (pok_blk (pok_then (pok_then (pok_blk (pok_then pok_body))))) (by kernel_rfl) rfl (by kernel_rfl) (by kernel_rfl) (fun w hT => run_indexAt (e := 24) (sz := 1) _ (by kernel_rfl) (by kernel_rfl) (by omega) (by omega) (by omega) w) ?_
   refine drawn_one 9 0 rfl (by kernel_rfl) ?_
   refine sem_stepU (Instr.storeAt 24 (.pointer (some ⟨r4, i, none⟩)) (.int .u32 (goodC (xs1.getD i 0)))) (fun _ => [.cells b7 [iq (1 + (aroundI a 16)), iq (1 + (aroundI b 16)), .slice (pB r4) n5 n5] 41 true, .gen (rowE (pB r4) r4 n5 n5 24 1 (ivals .u32 ((goodP n5 xs1 i).set i (goodC (xs1.getD i 0)))) true), .cells b1 [iq 0, iq 0, .slice none 0 0] 41 true, .gen (rdE (A1) g1 o1 n1 1 (ivals .u32 xs1))]) (fun _ => True) (by kernel_rfl) (fun w hT => store_row hT (i := 1) rfl (by kernel_rfl) (by simp only [goodP_length]; omega)) (fun _ _ => ?_)
   refine drawn_next 0 [1] (by kernel_rfl) ?_
   refine drawn_done (by kernel_rfl) ?_
   refine blk_normal ?_
   refine then_normal ?_
   refine cont_region 3 rfl ?_
   refine bS [0, 0] 2 1 [(2, .slice A1 n1 cap1), (6, .pointer (pB b1)), (7, .pointer (pB b7)), (21, iq (i : Int)), (22, .pointer (some ⟨b7, 2, none⟩)), (23, .slice (pB r4) n5 n5), (24, iq (n5 : Int)), (25, .bool true), (28, iq (IntKind.i64.wrap ((i : Int) + 1)))] ?_
   refine cont_recast 28 (iq (IntKind.i64.wrap ((i : Int) + 1))) (iq ((i : Int) + 1)) rfl (wrapI (by omega) (by omega)) ?_
   refine bS [0] 3 0 [(2, .slice A1 n1 cap1), (6, .pointer (pB b1)), (7, .pointer (pB b7)), (8, iq ((i : Int) + 1)), (21, iq (i : Int)), (22, .pointer (some ⟨b7, 2, none⟩)), (23, .slice (pB r4) n5 n5), (24, iq (n5 : Int)), (25, .bool true)] ?_
   refine cont_done ?_
   refine then_normal ?_
   refine cont_rowEq (k := .u32) 1 ((goodP n5 xs1 i).set i (goodC (xs1.getD i 0))) (goodP n5 xs1 (i + 1)) rfl (goodP_set (by omega)) ?_
   refine cont_again (i + 1) (show (i + 1) ≤ n1 ∧ (i + 1) ≤ n5 from ⟨by omega, by omega⟩) (show n1 - (i + 1) < n1 - i from by omega) (by kernel_rfl) (by kernel_rfl)
  refine cont_recast 25 (.bool (decide ((i : Int) < (n5 : Int)))) (.bool false) rfl (congrArg Value.bool c10_) ?_
  replace c10_ := of_decide_eq_false c10_
  refine cont_false rfl ?_
  refine cont_exit ?_
  refine then_exit ?_
  refine then_exit ?_
  refine blk_exit ?_
  refine then_normal ?_
  refine cont_seq ?_
  refine cont_region 2 rfl ?_
  refine batch0 [0, 2] 2 0 [(6, .pointer (pB b1))] [.cells b7 [iq (1 + (aroundI a 16)), iq (1 + (aroundI b 16)), .slice (pB r4) n5 n5] 41 true, .gen (rowE (pB r4) r4 n5 n5 24 1 (ivals .u32 (goodP n5 xs1 i)) true), .cells b1 [iq (1 + (aroundI a 16)), iq (1 + (aroundI b 16)), .slice (pB r4) n5 n5] 41 true, .gen (rdE (A1) g1 o1 n1 1 (ivals .u32 xs1))] rfl rfl (by kernel_rfl) (by kernel_rfl) ?_
  refine cont_forget 0 rfl ?_
  refine cont_done ?_
  refine then_normal ?_
  refine cont_ret ?_
  refine ret_one (.inl rfl) rfl 1 (.agg #[iq (1 + (aroundI a 16)), iq (1 + (aroundI b 16)), .slice (pB r4) n5 n5]) (by kernel_rfl) (by kernel_rfl) (fun w hT => ?_)
  replace hT := hT.erase 2 (fun e h hw => by cases h; first | rfl | cases hw)
  replace hT := hT.erase 1 (fun e h hw => by cases h; first | rfl | cases hw)
  rw [goodP_end (by omega)] at hT
  exact ⟨_, _, rfl, ‹_›, hT⟩
 replace c9_ := of_decide_eq_false c9_
 refine bS [0, 0, 0, 0, 0, 0] 11 0 [(2, .slice A1 n1 cap1), (6, .pointer (pB b1)), (7, .pointer (pB b7)), (8, iq (i : Int)), (21, undef), (22, undef), (23, undef), (24, undef), (25, undef), (26, .bool false)] ?_
 refine cont_done ?_
 refine then_normal ?_
 refine cont_false rfl ?_
 refine cont_exit ?_
 refine then_exit ?_
 refine then_exit ?_
 refine blk_exit ?_
 refine then_normal ?_
 refine cont_seq ?_
 refine cont_region 2 rfl ?_
 refine batch0 [0, 2] 2 0 [(6, .pointer (pB b1))] [.cells b7 [iq (1 + (aroundI a 16)), iq (1 + (aroundI b 16)), .slice (pB r4) n5 n5] 41 true, .gen (rowE (pB r4) r4 n5 n5 24 1 (ivals .u32 (goodP n5 xs1 i)) true), .cells b1 [iq (1 + (aroundI a 16)), iq (1 + (aroundI b 16)), .slice (pB r4) n5 n5] 41 true, .gen (rdE (A1) g1 o1 n1 1 (ivals .u32 xs1))] rfl rfl (by kernel_rfl) (by kernel_rfl) ?_
 refine cont_forget 0 rfl ?_
 refine cont_done ?_
 refine then_normal ?_
 refine cont_ret ?_
 refine ret_one (.inl rfl) rfl 1 (.agg #[iq (1 + (aroundI a 16)), iq (1 + (aroundI b 16)), .slice (pB r4) n5 n5]) (by kernel_rfl) (by kernel_rfl) (fun w hT => ?_)
 replace hT := hT.erase 2 (fun e h hw => by cases h; first | rfl | cases hw)
 replace hT := hT.erase 1 (fun e h hw => by cases h; first | rfl | cases hw)
 rw [goodP_end (by omega)] at hT
 exact ⟨_, _, rfl, ‹_›, hT⟩

theorem imgSet (m : Nat) (W H : Int) (r n cap : Nat) (px : List Int) (x y c : Int) (w : World) (hI : Img 118 24 w m W H r n cap px) (hok : ImgOk W H n px) (hc : InC c) :
    Calls Try.prog 29 #[.pointer (some ⟨m, 0, none⟩), .int .i64 x, .int .i64 y, .int .u32 c] w fun e w' => e = .returned (.int .i64 (setE W H x y c)) ∧ KeepBut w w' r ∧ Row w' (some ⟨r, 0, none⟩) r n cap 24 1 (ivals .u32 (setL W H px x y c)) := by
 have hw1 := hok.w1
 have hw2 := hok.w2
 have hh1 := hok.h1
 have hh2 := hok.h2
 have hnum := hok.num
 have hlen := hok.len
 have hle := hok.le
 have hcap := hI.row.capLe
 obtain ⟨hc0, hc1⟩ := hc
 refine enter 34 [(0, .pointer (pB m)), (1, iq x), (2, iq y), (3, .int .u32 c)] [.ro m [iq W, iq H, .slice (pB r) n cap] 118, .gen (rowE (pB r) r n cap 24 1 (ivals .u32 px) false)] Try.func29 rfl Try.ntmps29 rfl (by kernel_rfl) hI.tabRw ?_
 refine cont_seq ?_
 refine cont_region 1 rfl ?_
 refine bS [0] 1 0 [(0, .pointer (pB m)), (1, iq x), (2, iq y), (3, .int .u32 c)] ?_
 refine cont_done ?_
 refine then_normal ?_
 refine cont_seq ?_
 refine cont_block ?_
 refine cont_seq ?_
 refine cont_region 7 rfl ?_
 refine bS [0] 1 6 [(0, .pointer (pB m)), (1, iq x), (2, iq y), (3, .int .u32 c), (10, .pointer (pB m))] ?_
 refine pl_step 2 5 rfl rfl ?_
 refine call_pure (d := 11) (.agg #[iq 0, iq 0, iq W, iq H]) (by kernel_rfl) (fun w hT => imgBox m W H r n cap px  w ⟨hT.ok 0 _ rfl, Row.rd (hT.ok 1 _ rfl), Row.capLe (hT.ok 1 _ rfl)⟩ hok) ?_
 refine bS [0, 0] 4 3 [(0, .pointer (pB m)), (1, iq x), (2, iq y), (3, .int .u32 c), (11, .agg #[iq 0, iq 0, iq W, iq H]), (12, iq x), (13, iq y)] ?_
 refine pl_step 5 2 rfl rfl ?_
 refine call_pure (d := 14) (.bool (hasB 0 0 W H x y)) (by kernel_rfl) (fun w hT => rectHas 0 0 W H x y w) ?_
 refine bS [0, 0] 7 0 [(0, .pointer (pB m)), (1, iq x), (2, iq y), (3, .int .u32 c), (9, .bool (!(hasB 0 0 W H x y)))] ?_
 refine cont_done ?_
 refine then_normal ?_
 refine cont_split 9 (!(hasB 0 0 W H x y)) rfl (fun c1_ => ?_) (fun c1_ => ?_)
 ·
  replace c1_ : (hasB 0 0 W H x y) = false := by simpa using c1_
  refine cont_true rfl ?_
  refine cont_seq ?_
  refine cont_region 1 rfl ?_
  refine bS [0] 1 0 [(8, iq 4)] ?_
  refine cont_done ?_
  refine then_normal ?_
  refine cont_ret ?_
  refine blk_ret ?_
  refine then_ret ?_
  refine ret_one (.inl rfl) rfl 0 (iq 4) (by kernel_rfl) (by kernel_rfl) (fun w hT => ?_)
  refine ⟨ret_int (by simp [setE, *]), hT.keep 1 rfl rfl, ?_⟩
  have hR := hT.ok 1 _ rfl
  rw [show setL W H px x y c = px from by simp [setL, *]]
  exact hR
 replace c1_ : (hasB 0 0 W H x y) = true := by simpa using c1_
 obtain ⟨hx0, hx1, hy0, hy1⟩ := hasB_true.1 c1_
 have hpl := hok.place hx0 hx1 hy0 hy1
 refine cont_false rfl ?_
 refine cont_seq ?_
 refine cont_region 4 rfl ?_
 refine bS [0] 1 3 [(0, .pointer (pB m)), (1, iq x), (2, iq y), (3, .int .u32 c), (17, .int .u32 c)] ?_
 refine pl_step 2 2 rfl rfl ?_
 refine call_pure (d := 18) (.bool (mayB c)) (by kernel_rfl) (fun w hT => colorMay c w (by omega) (by omega)) ?_
 refine bS [0, 0] 4 0 [(0, .pointer (pB m)), (1, iq x), (2, iq y), (3, .int .u32 c), (16, .bool (!(mayB c)))] ?_
 refine cont_done ?_
 refine then_normal ?_
 refine cont_split 16 (!(mayB c)) rfl (fun c2_ => ?_) (fun c2_ => ?_)
 ·
  replace c2_ : (mayB c) = false := by simpa using c2_
  refine cont_true rfl ?_
  refine cont_seq ?_
  refine cont_region 1 rfl ?_
  refine bS [0] 1 0 [(8, iq 1)] ?_
  refine cont_done ?_
  refine then_normal ?_
  refine cont_ret ?_
  refine blk_ret ?_
  refine then_ret ?_
  refine ret_one (.inl rfl) rfl 0 (iq 1) (by kernel_rfl) (by kernel_rfl) (fun w hT => ?_)
  refine ⟨ret_int (by simp [setE, *]), hT.keep 1 rfl rfl, ?_⟩
  have hR := hT.ok 1 _ rfl
  rw [show setL W H px x y c = px from by simp [setL, *]]
  exact hR
 replace c2_ : (mayB c) = true := by simpa using c2_
 refine cont_false rfl ?_
 refine cont_skip ?_
 refine blk_normal ?_
 refine then_normal ?_
 refine cont_seq ?_
 refine drawn_enter 15 [1] rfl (by kernel_rfl) ?_
 refine takes 0 [1] [(0, 0), (4, 0), (5, 0), (10, 0), (12, 0), (1, 0), (6, 0), (2, 0), (7, 0), (3, 0), (8, 0), (9, 0)] 3 [9, 8, 3, 7, 2, 6, 1, 12, 10, 5, 4, 0] [(23, .slice (pB r) n cap), (29, iq (IntKind.i64.wrap (y * W))), (30, iq x), (32, .int .u32 c)] (by kernel_rfl) (pok_then pok_body) (by kernel_rfl) rfl rfl (by kernel_rfl) (by kernel_rfl) ?_
 refine cont_recast 29 (iq (IntKind.i64.wrap (y * W))) (iq (y * W)) rfl (wrapI (by omega) (by omega)) ?_
 refine takes 0 [1] [(11, 0)] 2 [11, 9, 8, 3, 7, 2, 6, 1, 12, 10, 5, 4, 0] [(23, .slice (pB r) n cap), (31, iq (IntKind.i64.wrap ((y * W) + x))), (32, .int .u32 c)] (by kernel_rfl) (pok_then pok_body) (by kernel_rfl) rfl rfl (by kernel_rfl) (by kernel_rfl) ?_
 refine cont_recast 31 (iq (IntKind.i64.wrap ((y * W) + x))) (iq ((y * W) + x)) rfl (wrapI (by omega) (by omega)) ?_
 refine sem_take 0 [1] 13 1 33 (Instr.indexAt 39 (.slice (pB r) n cap) (iq ((y * W) + x))) (.pointer (some ⟨r, Int.toNat ((y * W) + x), none⟩)) (by kernel_rfl) (pok_then pok_body) (by kernel_rfl) rfl (by kernel_rfl) (by kernel_rfl) (fun w hT => run_indexAt (e := 24) (sz := 1) _ (by kernel_rfl) (by kernel_rfl) (by omega) (by omega) (by omega) w) ?_
 refine drawn_one 14 0 rfl (by kernel_rfl) ?_
 refine sem_stepU (Instr.storeAt 24 (.pointer (some ⟨r, Int.toNat ((y * W) + x), none⟩)) (.int .u32 c)) (fun _ => [.ro m [iq W, iq H, .slice (pB r) n cap] 118, .gen (rowE (pB r) r n cap 24 1 (ivals .u32 (px.set (Int.toNat ((y * W) + x)) c)) false)]) (fun _ => True) (by kernel_rfl) (fun w hT => store_row hT (i := 1) rfl (by kernel_rfl) (by omega)) (fun _ _ => ?_)
 refine drawn_next 0 [1] (by kernel_rfl) ?_
 refine drawn_done (by kernel_rfl) ?_
 refine then_normal ?_
 refine cont_seq ?_
 refine cont_region 1 rfl ?_
 refine bS [0] 1 0 [(8, iq 0)] ?_
 refine cont_done ?_
 refine then_normal ?_
 refine cont_ret ?_
 refine ret_one (.inl rfl) rfl 0 (iq 0) (by kernel_rfl) (by kernel_rfl) (fun w hT => ?_)
 refine ⟨ret_int (by simp [setE, *]), hT.keep 1 rfl rfl, ?_⟩
 have hR := hT.ok 1 _ rfl
 rw [show setL W H px x y c = px.set (Int.toNat ((y * W) + x)) c from by simp [setL, *]]
 exact hR

theorem bld (W H : Int) (r n cap : Nat) (px : List Int) (w : World) (hT0 : Tab w w [.gen (rdE (some ⟨r, 0, none⟩) r 0 n 1 (ivals .u32 px))]) (hok : ImgOk W H n px) (hmay : AllMay px) :
    Calls Try.prog 18 #[.agg #[.int .i64 W, .int .i64 H, .slice (some ⟨r, 0, none⟩) n cap]] w fun e w' => ∃ b q : Nat, e = .returned (.pointer (some ⟨b, 0, none⟩)) ∧ NewImg 118 24 w w' b W H q n n px := by
 have hw1 := hok.w1
 have hw2 := hok.w2
 have hh1 := hok.h1
 have hh2 := hok.h2
 have hnum := hok.num
 have hlen := hok.len
 have hle := hok.le
 refine enter 43 [(0, .agg #[iq W, iq H, .slice (pB r) n cap])] [.gen (rdE (pB r) r 0 n 1 (ivals .u32 px))] Try.func18 rfl Try.ntmps18 rfl (by kernel_rfl) hT0 ?_
 refine cont_seq ?_
 refine cont_region 2 rfl ?_
 refine batch1 [0, 0] 2 0 (fun b1 => [(1, .pointer (pB b1))]) (fun b1 => [.cells b1 [iq W, iq H, .slice (pB r) n cap] 41 true, .gen (rdE (pB r) r 0 n 1 (ivals .u32 px))]) rfl rfl [1] (fun _ => rfl) (fun b1 => by kernel_rfl) (fun b1 => by kernel_rfl) (fun b1 => ?_)
 refine cont_done ?_
 refine then_normal ?_
 refine cont_seq ?_
 refine cont_region 10 rfl ?_
 refine bS [0, 0, 0, 0] 4 6 [(1, .pointer (pB b1)), (8, iq W), (10, iq H)] ?_
 refine pl_step 5 5 rfl rfl ?_
 refine call_gen (d := 11) (α := Nat × Nat × Nat) (fun x_ => .tuple #[.pointer (pB x_.1), iq 0]) (fun x_ => [.cells x_.1 [iq W, iq H, .slice (pB x_.2.1) x_.2.2 x_.2.2] 118 true, .gen (rowE (pB x_.2.1) x_.2.1 x_.2.2 x_.2.2 24 1 (ivals .u32 (List.replicate x_.2.2 0)) true), .cells b1 [iq W, iq H, .slice (pB r) n cap] 41 true, .gen (rdE (pB r) r 0 n 1 (ivals .u32 px))]) (fun x_ => (x_.2.2 : Int) = W * H) (by kernel_rfl) (fun w hT => (imgNew W H w ⟨hw1, hw2, hh1, hh2⟩).mono fun e w' ⟨b_, r_, n_, he_, hn_, hi_⟩ => ⟨(b_, r_, n_), he_, hn_, hT.addImg hi_⟩) ?_
 rintro ⟨b2, r2, n2⟩ hn2
 replace hn2 : (n2 : Int) = W * H := hn2
 refine cont_norm [(1, .pointer (pB b1)), (8, iq W), (10, iq H), (11, .tuple #[.pointer (pB b2), iq 0])] _ (by kernel_rfl) rfl ?_
 have hnn : n2 = n := by have := hok.num; omega
 refine bS [0, 0, 0, 0, 0] 10 0 [(1, .pointer (pB b1)), (3, .pointer (pB b2)), (4, iq 0)] ?_
 refine cont_done ?_
 refine then_normal ?_
 refine cont_seq ?_
 refine cont_seq ?_
 refine cont_region 6 rfl ?_
 refine bS [0, 0, 0, 0, 0, 0] 6 0 [(1, .pointer (pB b1)), (3, .pointer (pB b2)), (19, .bool false)] ?_
 refine cont_done ?_
 refine then_normal ?_
 refine cont_false rfl ?_
 refine cont_skip ?_
 refine then_normal ?_
 refine cont_seq ?_
 refine cont_seq ?_
 refine cont_region 1 rfl ?_
 refine bS [0] 1 0 [(1, .pointer (pB b1)), (3, .pointer (pB b2)), (5, iq 0)] ?_
 refine cont_done ?_
 refine then_normal ?_
 refine cont_block ?_
 refine cont_rowEq (k := .u32) 1 (List.replicate n2 0) (bldP px 0) rfl (by rw [bldP_zero, hlen, hnn]) ?_
 refine cont_loop (α := Nat) (fun x_ : Nat => x_ ≤ n2) (fun x_ : Nat => [(1, .pointer (pB b1)), (3, .pointer (pB b2)), (5, iq (x_ : Int))]) (fun x_ : Nat => [.cells b2 [iq W, iq H, .slice (pB r2) n2 n2] 118 true, .gen (rowE (pB r2) r2 n2 n2 24 1 (ivals .u32 (bldP px x_)) true), .cells b1 [iq W, iq H, .slice (pB r) n cap] 41 true, .gen (rdE (pB r) r 0 n 1 (ivals .u32 px))]) (fun x_ : Nat => n2 - x_) 0 (by omega) (by kernel_rfl) (by kernel_rfl) ?_
 rintro i hinv3_
 replace hinv3_ : i ≤ n2 := hinv3_
 refine cont_norm [(1, .pointer (pB b1)), (3, .pointer (pB b2)), (5, iq (i : Int))] _ (by kernel_rfl) rfl ?_
 have hi := hinv3_
 have hem := emod_range i hw1
 refine cont_seq ?_
 refine cont_seq ?_
 refine cont_region 5 rfl ?_
 refine bS [0, 0, 2, 0, 0] 5 0 [(1, .pointer (pB b1)), (3, .pointer (pB b2)), (5, iq (i : Int)), (24, .bool (decide ((i : Int) < (n : Int))))] ?_
 refine cont_done ?_
 refine then_normal ?_
 refine cont_split 24 (decide ((i : Int) < (n : Int))) rfl (fun c4_ => ?_) (fun c4_ => ?_)
 ·
  replace c4_ := of_decide_eq_true c4_
  refine cont_true rfl ?_
  refine cont_skip ?_
  refine then_normal ?_
  refine cont_seq ?_
  refine cont_block ?_
  refine drawn_enter 15 [1] rfl (by kernel_rfl) ?_
  refine takes 0 [1] [(0, 0), (1, 0), (2, 0), (5, 0), (6, 0), (9, 0), (11, 0), (3, 2), (7, 2), (10, 2)] 5 [10, 7, 3, 11, 9, 6, 5, 2, 1, 0] [(1, .pointer (pB b1)), (3, .pointer (pB b2)), (5, iq (i : Int)), (27, .pointer (pB b2)), (28, iq (i : Int)), (30, iq W), (32, iq (i : Int)), (34, iq W), (37, .slice (pB r) n cap), (38, iq (i : Int))] (by kernel_rfl) (pok_blk (pok_then (pok_then (pok_blk (pok_then pok_body))))) (by kernel_rfl) rfl rfl (by kernel_rfl) (by kernel_rfl) ?_
  refine sem_take 0 [1] 4 4 31 (bopS .rem 3 (.tmp 28) (.tmp 30) (iq (i : Int)) (iq W)) (iq ((i : Int).tmod W)) (by kernel_rfl) (pok_blk (pok_then (pok_then (pok_blk (pok_then pok_body))))) (by kernel_rfl) rfl (by kernel_rfl) (by kernel_rfl) (fun w hT => run_rem (by omega) w) ?_
  refine cont_recast 31 (iq ((i : Int).tmod W)) (iq ((i : Int) % W)) rfl (tmodI (by omega)) ?_
  refine sem_take 0 [1] 8 3 35 (bopS .quo 3 (.tmp 32) (.tmp 34) (iq (i : Int)) (iq W)) (iq (IntKind.i64.wrap ((i : Int).tdiv W))) (by kernel_rfl) (pok_blk (pok_then (pok_then (pok_blk (pok_then pok_body))))) (by kernel_rfl) rfl (by kernel_rfl) (by kernel_rfl) (fun w hT => run_quo (by omega) w) ?_
  refine cont_recast 35 (iq (IntKind.i64.wrap ((i : Int).tdiv W))) (iq ((i : Int) / W)) rfl (tdivI (by omega) (by omega) (by omega)) ?_
  refine sem_take 0 [1] 12 2 39 (Instr.indexAt 39 (.slice (pB r) n cap) (iq (i : Int))) (.pointer (some ⟨r, i, none⟩)) (by kernel_rfl) (pok_blk (pok_then (pok_then (pok_blk (pok_then pok_body))))) (by kernel_rfl) rfl (by kernel_rfl) (by kernel_rfl) (fun w hT => run_indexAt (e := 24) (sz := 1) _ (by kernel_rfl) (by kernel_rfl) (by omega) (by omega) (by omega) w) ?_
  refine sem_take 0 [1] 13 1 40 (Instr.loadAt 24 (.pointer (some ⟨r, i, none⟩))) (.int .u32 (px.getD i 0)) (by kernel_rfl) (pok_blk (pok_then (pok_then (pok_blk (pok_then pok_body))))) (by kernel_rfl) rfl (by kernel_rfl) (by kernel_rfl) (fun w hT => run_load1 (by kernel_rfl) (Rd.cell0 (hT 3 _ rfl) (i) _ (ivals_get (by omega)))) ?_
  refine drawn_one 14 0 rfl (by kernel_rfl) ?_
  refine call_gen (d := 41) (α := Unit) (fun _ => iq (setE W H ((i : Int) % W) ((i : Int) / W) (px.getD i 0))) (fun _ => [.cells b2 [iq W, iq H, .slice (pB r2) n2 n2] 118 true, .gen (rowE (pB r2) r2 n2 n2 24 1 (ivals .u32 (setL W H (bldP px i) ((i : Int) % W) ((i : Int) / W) (px.getD i 0))) true), .cells b1 [iq W, iq H, .slice (pB r) n cap] 41 true, .gen (rdE (pB r) r 0 n 1 (ivals .u32 px))]) (fun _ => True) (by kernel_rfl) (fun w hT => (imgSet b2 W H r2 n2 n2 (bldP px i) ((i : Int) % W) ((i : Int) / W) (px.getD i 0) w ⟨hT.ok 0 _ rfl, hT.ok 1 _ rfl, fun hne => hT.disj 0 1 _ _ (by omega) rfl rfl (.inr rfl) _ rfl ⟨hne, by simp⟩⟩ (imgOk_of ⟨hw1, hw2, hh1, hh2⟩ hn2 (by rw [bldP_length, hnn]; exact hlen) (bldP_may hmay i)) (hmay.get (by omega)).2).mono fun e w' ⟨he_, hk_, hr_⟩ => ⟨(), he_, trivial, hT.keepBut hk_ (i := 1) rfl hr_⟩) (fun _ _ => ?_)
  refine drawn_next 0 [1] (by kernel_rfl) ?_
  refine drawn_done (by kernel_rfl) ?_
  refine blk_normal ?_
  refine then_normal ?_
  refine cont_region 3 rfl ?_
  refine bS [0, 0] 2 1 [(1, .pointer (pB b1)), (3, .pointer (pB b2)), (26, iq (IntKind.i64.wrap ((i : Int) + 1)))] ?_
  refine cont_recast 26 (iq (IntKind.i64.wrap ((i : Int) + 1))) (iq ((i : Int) + 1)) rfl (wrapI (by omega) (by omega)) ?_
  refine bS [0] 3 0 [(1, .pointer (pB b1)), (3, .pointer (pB b2)), (5, iq ((i : Int) + 1))] ?_
  refine cont_done ?_
  refine then_normal ?_
  refine cont_rowEq (k := .u32) 1 (setL W H (bldP px i) ((i : Int) % W) ((i : Int) / W) (px.getD i 0)) (bldP px (i + 1)) rfl ((setL_at hok.w1 hok.num (by omega) (hmay.get (by omega)).1).trans (bldP_set (by omega))) ?_
  refine cont_again (i + 1) (show (i + 1) ≤ n2 from (by omega)) (show n2 - (i + 1) < n2 - i from by omega) (by kernel_rfl) (by kernel_rfl)
 replace c4_ := of_decide_eq_false c4_
 refine cont_false rfl ?_
 refine cont_exit ?_
 refine then_exit ?_
 refine then_exit ?_
 refine blk_exit ?_
 refine then_normal ?_
 refine cont_seq ?_
 refine cont_region 2 rfl ?_
 refine bS [0, 0] 2 0 [(2, .pointer (pB b2))] ?_
 refine cont_forget 2 rfl ?_
 refine cont_done ?_
 refine then_normal ?_
 refine cont_ret ?_
 refine ret_one (.inl rfl) rfl 0 (.pointer (pB b2)) (by kernel_rfl) (by kernel_rfl) (fun w hT => ?_)
 replace hT := hT.erase 2 (fun e h hw => by cases h; first | rfl | cases hw)
 rw [bldP_all (by omega)] at hT
 rw [← hnn]
 exact ⟨_, _, rfl, newImg_of_tab hT⟩

theorem refHas (a b c d x y : Int) (w : World) :
    Calls Try.prog 65 #[.agg #[.int .i64 a, .int .i64 b, .int .i64 c, .int .i64 d], .int .i64 x, .int .i64 y] w fun e w' => e = .returned (.bool (hasB a b c d x y)) ∧ Below w.heap.size w w' := by
 refine enter 29 [(0, .agg #[iq a, iq b, iq c, iq d]), (1, iq x), (2, iq y)] [] Try.func65 rfl Try.ntmps65 rfl (by kernel_rfl) (Tab.start w) ?_
 refine cont_seq ?_
 refine cont_region 2 rfl ?_
 refine batch1 [0, 0] 2 0 (fun b1 => [(1, iq x), (2, iq y), (3, .pointer (pB b1))]) (fun b1 => [.cells b1 [iq a, iq b, iq c, iq d] 53 true]) rfl rfl [1, 2, 3] (fun _ => rfl) (fun b1 => by kernel_rfl) (fun b1 => by kernel_rfl) (fun b1 => ?_)
 refine cont_done ?_
 refine then_normal ?_
 refine cont_seq ?_
 refine cont_region 23 rfl ?_
 refine bS [0, 0, 0, 0, 0] 5 18 [(1, iq x), (2, iq y), (3, .pointer (pB b1)), (11, .bool (decide (a ≤ x)))] ?_
 refine cont_split 11 (decide (a ≤ x)) rfl (fun c2_ => ?_) (fun c2_ => ?_)
 ·
  replace c2_ := of_decide_eq_true c2_
  refine bS [0, 0, 0, 0, 0, 0] 11 12 [(2, iq y), (3, .pointer (pB b1)), (17, .bool (decide (x < c)))] ?_
  refine cont_split 17 (decide (x < c)) rfl (fun c3_ => ?_) (fun c3_ => ?_)
  ·
   replace c3_ := of_decide_eq_true c3_
   refine bS [0, 0, 0, 0, 0, 0] 17 6 [(2, iq y), (3, .pointer (pB b1)), (23, .bool (decide (b ≤ y)))] ?_
   refine cont_split 23 (decide (b ≤ y)) rfl (fun c4_ => ?_) (fun c4_ => ?_)
   ·
    replace c4_ := of_decide_eq_true c4_
    refine bS [0, 0, 0, 0, 0, 0] 23 0 [(6, .bool (decide (y < d)))] ?_
    refine cont_forget 0 rfl ?_
    refine cont_done ?_
    refine then_normal ?_
    refine cont_ret ?_
    refine ret_one (.inl rfl) rfl 0 (.bool (decide (y < d))) (by kernel_rfl) (by kernel_rfl) (fun w hT => ?_)
    exact ⟨ret_bool (by simp [hasB, *] <;> omega), hT.post rfl⟩
   replace c4_ := of_decide_eq_false c4_
   refine bS [0, 0, 0, 0, 0, 0] 23 0 [(6, .bool false)] ?_
   refine cont_forget 0 rfl ?_
   refine cont_done ?_
   refine then_normal ?_
   refine cont_ret ?_
   refine ret_one (.inl rfl) rfl 0 (.bool false) (by kernel_rfl) (by kernel_rfl) (fun w hT => ?_)
   exact ⟨ret_bool (by simp [hasB, *] <;> omega), hT.post rfl⟩
  replace c3_ := of_decide_eq_false c3_
  refine bS [0, 0, 0, 0, 0, 0, 0, 0, 0, 0, 0, 0] 23 0 [(6, .bool false)] ?_
  refine cont_forget 0 rfl ?_
  refine cont_done ?_
  refine then_normal ?_
  refine cont_ret ?_
  refine ret_one (.inl rfl) rfl 0 (.bool false) (by kernel_rfl) (by kernel_rfl) (fun w hT => ?_)
  exact ⟨ret_bool (by simp [hasB, *] <;> omega), hT.post rfl⟩
 replace c2_ := of_decide_eq_false c2_
 refine bS [0, 0, 0, 0, 0, 0, 0, 0, 0, 0, 0, 0, 0, 0, 0, 0, 0, 0] 23 0 [(6, .bool false)] ?_
 refine cont_forget 0 rfl ?_
 refine cont_done ?_
 refine then_normal ?_
 refine cont_ret ?_
 refine ret_one (.inl rfl) rfl 0 (.bool false) (by kernel_rfl) (by kernel_rfl) (fun w hT => ?_)
 exact ⟨ret_bool (by simp [hasB, *] <;> omega), hT.post rfl⟩

theorem refAt (W H : Int) (r n cap : Nat) (px : List Int) (x y : Int) (w : World) (hT0 : Tab w w [.gen (rdE (some ⟨r, 0, none⟩) r 0 n 1 (ivals .u32 px))]) (hok : ImgOk W H n px) :
    Calls Try.prog 74 #[.agg #[.int .i64 W, .int .i64 H, .slice (some ⟨r, 0, none⟩) n cap], .int .i64 x, .int .i64 y] w fun e w' => e = .returned (.tuple #[.int .u32 (atC W H px x y), .bool (hasB 0 0 W H x y)]) ∧ Below w.heap.size w w' := by
 have hw1 := hok.w1
 have hw2 := hok.w2
 have hh1 := hok.h1
 have hh2 := hok.h2
 have hnum := hok.num
 have hlen := hok.len
 have hle := hok.le
 refine enter 36 [(0, .agg #[iq W, iq H, .slice (pB r) n cap]), (1, iq x), (2, iq y)] [.gen (rdE (pB r) r 0 n 1 (ivals .u32 px))] Try.func74 rfl Try.ntmps74 rfl (by kernel_rfl) hT0 ?_
 refine cont_seq ?_
 refine cont_region 3 rfl ?_
 refine batch1 [0, 0, 0] 3 0 (fun b1 => [(1, iq x), (2, iq y), (3, .pointer (pB b1))]) (fun b1 => [.cells b1 [iq W, iq H, .slice (pB r) n cap] 41 true, .gen (rdE (pB r) r 0 n 1 (ivals .u32 px))]) rfl rfl [1, 2, 3] (fun _ => rfl) (fun b1 => by kernel_rfl) (fun b1 => by kernel_rfl) (fun b1 => ?_)
 refine cont_done ?_
 refine then_normal ?_
 refine cont_seq ?_
 refine cont_seq ?_
 refine cont_region 18 rfl ?_
 refine bS [0, 0, 0] 3 15 [(1, iq x), (2, iq y), (3, .pointer (pB b1)), (10, .bool (decide (x < 0)))] ?_
 refine cont_split 10 (decide (x < 0)) rfl (fun c2_ => ?_) (fun c2_ => ?_)
 ·
  replace c2_ := of_decide_eq_true c2_
  refine bS [0, 0, 0, 0, 0, 0, 0, 0, 0, 0, 0, 0, 0, 0, 0] 18 0 [(1, iq x), (2, iq y), (3, .pointer (pB b1)), (25, .bool true)] ?_
  refine cont_done ?_
  refine then_normal ?_
  refine cont_true rfl ?_
  refine cont_seq ?_
  refine cont_region 2 rfl ?_
  refine bS [0, 0] 2 0 [(6, .int .u32 0), (7, .bool false)] ?_
  refine cont_forget 0 rfl ?_
  refine cont_done ?_
  refine then_normal ?_
  refine cont_ret ?_
  refine then_ret ?_
  refine ret_two (.inl rfl) rfl 0 0 (.int .u32 0) (.bool false) (by kernel_rfl) (by kernel_rfl) (by kernel_rfl) (by kernel_rfl) (fun w hT => ?_)
  refine ⟨?_, hT.post rfl⟩
  rw [show hasB 0 0 W H x y = false from hasB_no (by omega), show atC W H px x y = 0 from by unfold atC; rw [hasB_no (by omega)]; rfl]
 replace c2_ := of_decide_eq_false c2_
 refine bS [0, 0, 0, 0] 7 11 [(1, iq x), (2, iq y), (3, .pointer (pB b1)), (14, .bool (decide (y < 0)))] ?_
 refine cont_split 14 (decide (y < 0)) rfl (fun c3_ => ?_) (fun c3_ => ?_)
 ·
  replace c3_ := of_decide_eq_true c3_
  refine bS [0, 0, 0, 0, 0, 0, 0, 0, 0, 0, 0] 18 0 [(1, iq x), (2, iq y), (3, .pointer (pB b1)), (25, .bool true)] ?_
  refine cont_done ?_
  refine then_normal ?_
  refine cont_true rfl ?_
  refine cont_seq ?_
  refine cont_region 2 rfl ?_
  refine bS [0, 0] 2 0 [(6, .int .u32 0), (7, .bool false)] ?_
  refine cont_forget 0 rfl ?_
  refine cont_done ?_
  refine then_normal ?_
  refine cont_ret ?_
  refine then_ret ?_
  refine ret_two (.inl rfl) rfl 0 0 (.int .u32 0) (.bool false) (by kernel_rfl) (by kernel_rfl) (by kernel_rfl) (by kernel_rfl) (fun w hT => ?_)
  refine ⟨?_, hT.post rfl⟩
  rw [show hasB 0 0 W H x y = false from hasB_no (by omega), show atC W H px x y = 0 from by unfold atC; rw [hasB_no (by omega)]; rfl]
 replace c3_ := of_decide_eq_false c3_
 refine bS [0, 0, 0, 0, 0, 0] 13 5 [(1, iq x), (2, iq y), (3, .pointer (pB b1)), (20, .bool (decide (x ≥ W)))] ?_
 refine cont_split 20 (decide (x ≥ W)) rfl (fun c4_ => ?_) (fun c4_ => ?_)
 ·
  replace c4_ := of_decide_eq_true c4_
  refine bS [0, 0, 0, 0, 0] 18 0 [(1, iq x), (2, iq y), (3, .pointer (pB b1)), (25, .bool true)] ?_
  refine cont_done ?_
  refine then_normal ?_
  refine cont_true rfl ?_
  refine cont_seq ?_
  refine cont_region 2 rfl ?_
  refine bS [0, 0] 2 0 [(6, .int .u32 0), (7, .bool false)] ?_
  refine cont_forget 0 rfl ?_
  refine cont_done ?_
  refine then_normal ?_
  refine cont_ret ?_
  refine then_ret ?_
  refine ret_two (.inl rfl) rfl 0 0 (.int .u32 0) (.bool false) (by kernel_rfl) (by kernel_rfl) (by kernel_rfl) (by kernel_rfl) (fun w hT => ?_)
  refine ⟨?_, hT.post rfl⟩
  rw [show hasB 0 0 W H x y = false from hasB_no (by omega), show atC W H px x y = 0 from by unfold atC; rw [hasB_no (by omega)]; rfl]
 replace c4_ := of_decide_eq_false c4_
 refine bS [0, 0, 0, 0, 0] 18 0 [(1, iq x), (2, iq y), (3, .pointer (pB b1)), (25, .bool (decide (y ≥ H)))] ?_
 refine cont_done ?_
 refine then_normal ?_
 refine cont_split 25 (decide (y ≥ H)) rfl (fun c5_ => ?_) (fun c5_ => ?_)
 ·
  replace c5_ := of_decide_eq_true c5_
  refine cont_true rfl ?_
  refine cont_seq ?_
  refine cont_region 2 rfl ?_
  refine bS [0, 0] 2 0 [(6, .int .u32 0), (7, .bool false)] ?_
  refine cont_forget 0 rfl ?_
  refine cont_done ?_
  refine then_normal ?_
  refine cont_ret ?_
  refine then_ret ?_
  refine ret_two (.inl rfl) rfl 0 0 (.int .u32 0) (.bool false) (by kernel_rfl) (by kernel_rfl) (by kernel_rfl) (by kernel_rfl) (fun w hT => ?_)
  refine ⟨?_, hT.post rfl⟩
  rw [show hasB 0 0 W H x y = false from hasB_no (by omega), show atC W H px x y = 0 from by unfold atC; rw [hasB_no (by omega)]; rfl]
 replace c5_ := of_decide_eq_false c5_
 refine cont_false rfl ?_
 refine cont_skip ?_
 refine then_normal ?_
 refine cont_seq ?_
 refine cont_region 12 rfl ?_
 have hpl := hok.place (x := x) (y := y) (by omega) (by omega) (by omega) (by omega)
 refine bS [0, 0, 0, 0, 0, 0] 6 6 [(1, iq x), (27, .slice (pB r) n cap), (31, iq (IntKind.i64.wrap (y * W)))] ?_
 refine cont_recast 31 (iq (IntKind.i64.wrap (y * W))) (iq (y * W)) rfl (wrapI (by omega) (by omega)) ?_
 refine cont_forget 0 rfl ?_
 refine bS [0, 0] 8 4 [(27, .slice (pB r) n cap), (33, iq (IntKind.i64.wrap ((y * W) + x)))] ?_
 refine cont_recast 33 (iq (IntKind.i64.wrap ((y * W) + x))) (iq ((y * W) + x)) rfl (wrapI (by omega) (by omega)) ?_
 refine pl_step 9 3 rfl rfl ?_
 refine sem_step 34 (Instr.indexAt 39 (.slice (pB r) n cap) (iq ((y * W) + x))) (.pointer (some ⟨r, Int.toNat ((y * W) + x), none⟩)) (by kernel_rfl) (fun w hT => run_indexAt (e := 24) (sz := 1) _ (by kernel_rfl) (by kernel_rfl) (by omega) (by omega) (by omega) w) ?_
 refine pl_step 10 2 rfl rfl ?_
 refine sem_step 35 (Instr.loadAt 24 (.pointer (some ⟨r, Int.toNat ((y * W) + x), none⟩))) (.int .u32 (px.getD (Int.toNat ((y * W) + x)) 0)) (by kernel_rfl) (fun w hT => run_load1 (by kernel_rfl) (Rd.cell0 (hT.ok 0 _ rfl) (Int.toNat ((y * W) + x)) _ (ivals_get (by omega)))) ?_
 refine bS [0, 0] 12 0 [(6, .int .u32 (px.getD (Int.toNat ((y * W) + x)) 0)), (7, .bool true)] ?_
 refine cont_done ?_
 refine then_normal ?_
 refine cont_ret ?_
 refine ret_two (.inl rfl) rfl 0 0 (.int .u32 (px.getD (Int.toNat ((y * W) + x)) 0)) (.bool true) (by kernel_rfl) (by kernel_rfl) (by kernel_rfl) (by kernel_rfl) (fun w hT => ?_)
 refine ⟨?_, hT.post rfl⟩
 rw [show hasB 0 0 W H x y = true from hasB_true.2 (by omega), show atC W H px x y = px.getD (Int.toNat ((y * W) + x)) 0 from by unfold atC; rw [hasB_true.2 (by omega)]; rfl]

end Go.Proofs.Ytlfahohbkgdabaa

