/- Texts of this proof's own, put together: what each holds is told ahead of it. -/
import Derived.Test.YtommojgfkkoghaaPiG1
import Derived.Test.YtommojgfkkoghaaProg
import Derived.Laws.BytesString
/- Contracts of functions of the given program, printed by a program of this project. -/
set_option linter.unusedVariables false
set_option linter.unusedSimpArgs false
namespace Go.Proofs.Ytommojgfkkoghaa
open Go Go.RowKit
set_option maxRecDepth 100000
set_option maxHeartbeats 8000000

theorem refAround (n m : Int) (w : World) (hn : -9223372036854775808 ≤ n ∧ n ≤ 9223372036854775807) (hm : 1 ≤ m ∧ m ≤ 9223372036854775807) :
    Calls Try.prog 24 #[.int .i64 n, .int .i64 m] w fun e w' => e = .returned (.int .i64 (aroundI n m)) ∧ Below w.heap.size w w' := by
 refine enter 13 [(0, iq n), (1, iq m)] [] Try.func24 rfl Try.ntmps24 rfl (by kernel_rfl) (Tab.start w) ?_
 refine cont_seq ?_
 refine cont_region 1 rfl ?_
 refine bS [0] 1 0 [(0, iq n), (1, iq m)] ?_
 refine cont_done ?_
 refine then_normal ?_
 refine cont_seq ?_
 refine cont_seq ?_
 refine cont_region 2 rfl ?_
 refine bS [0, 0] 2 0 [(0, iq n), (1, iq m), (6, .bool (decide (n < 0)))] ?_
 refine cont_done ?_
 refine then_normal ?_
 refine cont_split 6 (decide (n < 0)) rfl (fun c1_ => ?_) (fun c1_ => ?_)
 ·
  replace c1_ := of_decide_eq_true c1_
  refine cont_true rfl ?_
  refine cont_region 4 rfl ?_
  refine bS [0, 0] 2 2 [(1, iq m), (8, iq (IntKind.i64.wrap (n + 1)))] ?_
  refine cont_recast 8 (iq (IntKind.i64.wrap (n + 1))) (iq (n + 1)) rfl (wrapI (by omega) (by omega)) ?_
  refine bS [0] 3 1 [(1, iq m), (9, iq (IntKind.i64.wrap (0 - (n + 1))))] ?_
  refine cont_recast 9 (iq (IntKind.i64.wrap (0 - (n + 1)))) (iq (0 - (n + 1))) rfl (wrapI (by omega) (by omega)) ?_
  refine bS [0] 4 0 [(0, iq (0 - (n + 1))), (1, iq m)] ?_
  refine cont_done ?_
  refine then_normal ?_
  refine cont_seq ?_
  refine cont_region 4 rfl ?_
  refine bS [0, 0] 2 2 [(10, iq (0 - (n + 1))), (11, iq m)] ?_
  refine pl_step 3 1 rfl rfl ?_
  refine sem_step 12 (bopS .rem 3 (.tmp 10) (.tmp 11) (iq (0 - (n + 1))) (iq m)) (iq ((0 - (n + 1)).tmod m)) (by kernel_rfl) (fun w hT => run_rem (by omega) w) ?_
  refine cont_recast 12 (iq ((0 - (n + 1)).tmod m)) (iq ((0 - (n + 1)) % m)) rfl (tmodI (by omega)) ?_
  refine bS [0] 4 0 [(4, iq ((0 - (n + 1)) % m))] ?_
  refine cont_done ?_
  refine then_normal ?_
  refine cont_ret ?_
  refine ret_one (.inl rfl) rfl 0 (iq ((0 - (n + 1)) % m)) (by kernel_rfl) (by kernel_rfl) (fun w hT => ?_)
  exact ⟨ret_int (by simp [aroundI, *]), hT.post rfl⟩
 replace c1_ := of_decide_eq_false c1_
 refine cont_false rfl ?_
 refine cont_skip ?_
 refine then_normal ?_
 refine cont_seq ?_
 refine cont_region 4 rfl ?_
 refine bS [0, 0] 2 2 [(10, iq n), (11, iq m)] ?_
 refine pl_step 3 1 rfl rfl ?_
 refine sem_step 12 (bopS .rem 3 (.tmp 10) (.tmp 11) (iq n) (iq m)) (iq (n.tmod m)) (by kernel_rfl) (fun w hT => run_rem (by omega) w) ?_
 refine cont_recast 12 (iq (n.tmod m)) (iq (n % m)) rfl (tmodI (by omega)) ?_
 refine bS [0] 4 0 [(4, iq (n % m))] ?_
 refine cont_done ?_
 refine then_normal ?_
 refine cont_ret ?_
 refine ret_one (.inl rfl) rfl 0 (iq (n % m)) (by kernel_rfl) (by kernel_rfl) (fun w hT => ?_)
 exact ⟨ret_int (by simp [aroundI, *]), hT.post rfl⟩

theorem refParts (c : Int) (w : World) (h0 : 0 ≤ c) (h1 : c < 4294967296) :
    Calls Try.prog 54 #[.int .u32 c] w fun e w' => e = .returned (.agg #[.int .i64 (pa c), .int .i64 (pr c), .int .i64 (pg c), .int .i64 (pb c)]) ∧ Below w.heap.size w w' := by
 refine enter 17 [(0, .int .u32 c)] [] Try.func54 rfl Try.ntmps54 rfl (by kernel_rfl) (Tab.start w) ?_
 refine cont_seq ?_
 refine cont_region 1 rfl ?_
 refine batch1 [0] 1 0 (fun b1 => [(0, .int .u32 c), (2, .pointer (pB b1))]) (fun b1 => [.cells b1 [iq 0, iq 0, iq 0, iq 0] 86 true]) rfl rfl [0, 2] (fun _ => rfl) (fun b1 => by kernel_rfl) (fun b1 => by kernel_rfl) (fun b1 => ?_)
 refine cont_done ?_
 refine then_normal ?_
 refine cont_seq ?_
 refine cont_region 3 rfl ?_
 refine bS [0, 0] 2 1 [(2, .pointer (pB b1)), (5, iq (IntKind.i64.wrap c))] ?_
 refine cont_recast 5 (iq (IntKind.i64.wrap c)) (iq c) rfl (wrapI (by omega) (by omega)) ?_
 refine bS [0] 3 0 [(2, .pointer (pB b1)), (3, iq c)] ?_
 refine cont_done ?_
 refine then_normal ?_
 refine cont_seq ?_
 refine cont_region 12 rfl ?_
 refine bS [0, 0] 2 10 [(2, .pointer (pB b1)), (3, iq c), (7, iq (IntKind.i64.wrap (c.tdiv 16777216)))] ?_
 refine cont_recast 7 (iq (IntKind.i64.wrap (c.tdiv 16777216))) (iq (c / 16777216)) rfl (tdivI (by omega) (by omega) (by omega)) ?_
 refine bS [0, 0] 4 8 [(2, .pointer (pB b1)), (3, iq c), (7, iq (c / 16777216)), (9, iq (IntKind.i64.wrap (c.tdiv 65536)))] ?_
 refine cont_recast 9 (iq (IntKind.i64.wrap (c.tdiv 65536))) (iq (c / 65536)) rfl (tdivI (by omega) (by omega) (by omega)) ?_
 refine bS [0] 5 7 [(2, .pointer (pB b1)), (3, iq c), (7, iq (c / 16777216)), (10, iq ((c / 65536).tmod 256))] ?_
 refine cont_recast 10 (iq ((c / 65536).tmod 256)) (iq ((c / 65536) % 256)) rfl (tmodI (by omega)) ?_
 refine bS [0, 0] 7 5 [(2, .pointer (pB b1)), (3, iq c), (7, iq (c / 16777216)), (10, iq ((c / 65536) % 256)), (12, iq (IntKind.i64.wrap (c.tdiv 256)))] ?_
 refine cont_recast 12 (iq (IntKind.i64.wrap (c.tdiv 256))) (iq (c / 256)) rfl (tdivI (by omega) (by omega) (by omega)) ?_
 refine bS [0] 8 4 [(2, .pointer (pB b1)), (3, iq c), (7, iq (c / 16777216)), (10, iq ((c / 65536) % 256)), (13, iq ((c / 256).tmod 256))] ?_
 refine cont_recast 13 (iq ((c / 256).tmod 256)) (iq ((c / 256) % 256)) rfl (tmodI (by omega)) ?_
 refine bS [0, 0] 10 2 [(2, .pointer (pB b1)), (7, iq (c / 16777216)), (10, iq ((c / 65536) % 256)), (13, iq ((c / 256) % 256)), (15, iq (c.tmod 256))] ?_
 refine cont_recast 15 (iq (c.tmod 256)) (iq (c % 256)) rfl (tmodI (by omega)) ?_
 refine batch0 [0, 0] 12 0 [(2, .pointer (pB b1))] [.cells b1 [iq (c / 16777216), iq ((c / 65536) % 256), iq ((c / 256) % 256), iq (c % 256)] 86 true] rfl rfl (by kernel_rfl) (by kernel_rfl) ?_
 refine cont_done ?_
 refine then_normal ?_
 refine cont_ret ?_
 refine ret_one (.inl rfl) rfl 0 (.agg #[iq (c / 16777216), iq ((c / 65536) % 256), iq ((c / 256) % 256), iq (c % 256)]) (by kernel_rfl) (by kernel_rfl) (fun w hT => ?_)
 exact ⟨rfl, hT.post rfl⟩

theorem refMake (a r g b : Int) (w : World) :
    Calls Try.prog 55 #[.int .i64 a, .int .i64 r, .int .i64 g, .int .i64 b] w fun e w' => e = .returned (.int .u32 (mkC a r g b)) ∧ Below w.heap.size w w' := by
 have ha : 0 ≤ mn (mx a 0) 255 ∧ mn (mx a 0) 255 ≤ 255 := by unfold mn mx; omega
 have hr : 0 ≤ mn (mx r 0) 255 ∧ mn (mx r 0) 255 ≤ 255 := by unfold mn mx; omega
 have hg : 0 ≤ mn (mx g 0) 255 ∧ mn (mx g 0) 255 ≤ 255 := by unfold mn mx; omega
 have hb : 0 ≤ mn (mx b 0) 255 ∧ mn (mx b 0) 255 ≤ 255 := by unfold mn mx; omega
 refine enter 32 [(0, iq a), (1, iq r), (2, iq g), (3, iq b)] [] Try.func55 rfl Try.ntmps55 rfl (by kernel_rfl) (Tab.start w) ?_
 refine cont_seq ?_
 refine cont_region 1 rfl ?_
 refine bS [0] 1 0 [(0, iq a), (1, iq r), (2, iq g), (3, iq b)] ?_
 refine cont_done ?_
 refine then_normal ?_
 refine cont_seq ?_
 refine cont_region 4 rfl ?_
 refine bS [0, 0, 0, 0] 4 0 [(0, iq (mn (mx a 0) 255)), (1, iq r), (2, iq g), (3, iq b)] ?_
 refine cont_done ?_
 refine then_normal ?_
 refine cont_seq ?_
 refine cont_region 4 rfl ?_
 refine bS [0, 0, 0, 0] 4 0 [(0, iq (mn (mx a 0) 255)), (1, iq (mn (mx r 0) 255)), (2, iq g), (3, iq b)] ?_
 refine cont_done ?_
 refine then_normal ?_
 refine cont_seq ?_
 refine cont_region 4 rfl ?_
 refine bS [0, 0, 0, 0] 4 0 [(0, iq (mn (mx a 0) 255)), (1, iq (mn (mx r 0) 255)), (2, iq (mn (mx g 0) 255)), (3, iq b)] ?_
 refine cont_done ?_
 refine then_normal ?_
 refine cont_seq ?_
 refine cont_region 4 rfl ?_
 refine bS [0, 0, 0, 0] 4 0 [(0, iq (mn (mx a 0) 255)), (1, iq (mn (mx r 0) 255)), (2, iq (mn (mx g 0) 255)), (3, iq (mn (mx b 0) 255))] ?_
 refine cont_done ?_
 refine then_normal ?_
 refine cont_seq ?_
 refine cont_region 12 rfl ?_
 refine bS [0, 0] 2 10 [(1, iq (mn (mx r 0) 255)), (2, iq (mn (mx g 0) 255)), (3, iq (mn (mx b 0) 255)), (22, iq (IntKind.i64.wrap ((mn (mx a 0) 255) * 16777216)))] ?_
 refine cont_recast 22 (iq (IntKind.i64.wrap ((mn (mx a 0) 255) * 16777216))) (iq ((mn (mx a 0) 255) * 16777216)) rfl (wrapI (by omega) (by omega)) ?_
 refine bS [0, 0] 4 8 [(2, iq (mn (mx g 0) 255)), (3, iq (mn (mx b 0) 255)), (22, iq ((mn (mx a 0) 255) * 16777216)), (24, iq (IntKind.i64.wrap ((mn (mx r 0) 255) * 65536)))] ?_
 refine cont_recast 24 (iq (IntKind.i64.wrap ((mn (mx r 0) 255) * 65536))) (iq ((mn (mx r 0) 255) * 65536)) rfl (wrapI (by omega) (by omega)) ?_
 refine bS [0] 5 7 [(2, iq (mn (mx g 0) 255)), (3, iq (mn (mx b 0) 255)), (25, iq (IntKind.i64.wrap (((mn (mx a 0) 255) * 16777216) + ((mn (mx r 0) 255) * 65536))))] ?_
 refine cont_recast 25 (iq (IntKind.i64.wrap (((mn (mx a 0) 255) * 16777216) + ((mn (mx r 0) 255) * 65536)))) (iq (((mn (mx a 0) 255) * 16777216) + ((mn (mx r 0) 255) * 65536))) rfl (wrapI (by omega) (by omega)) ?_
 refine bS [0, 0] 7 5 [(3, iq (mn (mx b 0) 255)), (25, iq (((mn (mx a 0) 255) * 16777216) + ((mn (mx r 0) 255) * 65536))), (27, iq (IntKind.i64.wrap ((mn (mx g 0) 255) * 256)))] ?_
 refine cont_recast 27 (iq (IntKind.i64.wrap ((mn (mx g 0) 255) * 256))) (iq ((mn (mx g 0) 255) * 256)) rfl (wrapI (by omega) (by omega)) ?_
 refine bS [0] 8 4 [(3, iq (mn (mx b 0) 255)), (28, iq (IntKind.i64.wrap ((((mn (mx a 0) 255) * 16777216) + ((mn (mx r 0) 255) * 65536)) + ((mn (mx g 0) 255) * 256))))] ?_
 refine cont_recast 28 (iq (IntKind.i64.wrap ((((mn (mx a 0) 255) * 16777216) + ((mn (mx r 0) 255) * 65536)) + ((mn (mx g 0) 255) * 256)))) (iq ((((mn (mx a 0) 255) * 16777216) + ((mn (mx r 0) 255) * 65536)) + ((mn (mx g 0) 255) * 256))) rfl (wrapI (by omega) (by omega)) ?_
 refine bS [0, 0] 10 2 [(30, iq (IntKind.i64.wrap (((((mn (mx a 0) 255) * 16777216) + ((mn (mx r 0) 255) * 65536)) + ((mn (mx g 0) 255) * 256)) + (mn (mx b 0) 255))))] ?_
 refine cont_recast 30 (iq (IntKind.i64.wrap (((((mn (mx a 0) 255) * 16777216) + ((mn (mx r 0) 255) * 65536)) + ((mn (mx g 0) 255) * 256)) + (mn (mx b 0) 255)))) (iq (((((mn (mx a 0) 255) * 16777216) + ((mn (mx r 0) 255) * 65536)) + ((mn (mx g 0) 255) * 256)) + (mn (mx b 0) 255))) rfl (wrapI (by omega) (by omega)) ?_
 refine bS [0] 11 1 [(31, .int .u32 (IntKind.u32.wrap (((((mn (mx a 0) 255) * 16777216) + ((mn (mx r 0) 255) * 65536)) + ((mn (mx g 0) 255) * 256)) + (mn (mx b 0) 255))))] ?_
 refine cont_recast 31 (.int .u32 (IntKind.u32.wrap (((((mn (mx a 0) 255) * 16777216) + ((mn (mx r 0) 255) * 65536)) + ((mn (mx g 0) 255) * 256)) + (mn (mx b 0) 255)))) (.int .u32 (((((mn (mx a 0) 255) * 16777216) + ((mn (mx r 0) 255) * 65536)) + ((mn (mx g 0) 255) * 256)) + (mn (mx b 0) 255))) rfl (wrapU32 (by omega) (by omega)) ?_
 refine bS [0] 12 0 [(8, .int .u32 (((((mn (mx a 0) 255) * 16777216) + ((mn (mx r 0) 255) * 65536)) + ((mn (mx g 0) 255) * 256)) + (mn (mx b 0) 255)))] ?_
 refine cont_done ?_
 refine then_normal ?_
 refine cont_ret ?_
 refine ret_one (.inl rfl) rfl 0 (.int .u32 (((((mn (mx a 0) 255) * 16777216) + ((mn (mx r 0) 255) * 65536)) + ((mn (mx g 0) 255) * 256)) + (mn (mx b 0) 255))) (by kernel_rfl) (by kernel_rfl) (fun w hT => ?_)
 exact ⟨ret_int (by simp only [mkC, clip, mx_eq, mn_eq]), hT.post rfl⟩

theorem refGood3 (c : Int) (w : World) (h0 : 0 ≤ c) (h1 : c < 4294967296) :
    Calls Try.prog 29 #[.int .u32 c] w fun e w' => e = .returned (.int .u32 (goodC c)) ∧ Below w.heap.size w w' := by
 refine enter 24 [(0, .int .u32 c)] [] Try.func29 rfl Try.ntmps29 rfl (by kernel_rfl) (Tab.start w) ?_
 refine cont_seq ?_
 refine cont_region 1 rfl ?_
 refine bS [0] 1 0 [(0, .int .u32 c)] ?_
 refine cont_done ?_
 refine then_normal ?_
 refine cont_seq ?_
 refine cont_region 4 rfl ?_
 refine bS [0] 1 3 [(4, .int .u32 c)] ?_
 refine pl_step 2 2 rfl rfl ?_
 refine call_pure (d := 5) (.agg #[iq (pa c), iq (pr c), iq (pg c), iq (pb c)]) (by kernel_rfl) (fun w hT => refParts c w (by omega) (by omega)) ?_
 refine batch1 [0, 0] 4 0 (fun b1 => [(3, .pointer (pB b1))]) (fun b1 => [.cells b1 [iq (pa c), iq (pr c), iq (pg c), iq (pb c)] 86 true]) rfl rfl [3] (fun _ => rfl) (fun b1 => by kernel_rfl) (fun b1 => by kernel_rfl) (fun b1 => ?_)
 refine cont_done ?_
 refine then_normal ?_
 refine cont_seq ?_
 refine cont_region 19 rfl ?_
 refine bS [0, 0, 0, 0, 0, 0, 0, 0, 0, 0, 0, 0, 0, 0, 0, 0, 0] 17 2 [(7, iq (pa c)), (12, iq (mn (pr c) (pa c))), (17, iq (mn (pg c) (pa c))), (22, iq (mn (pb c) (pa c)))] ?_
 refine cont_forget 0 rfl ?_
 refine pl_step 18 1 rfl rfl ?_
 refine call_pure (d := 23) (.int .u32 (mkC (pa c) (mn (pr c) (pa c)) (mn (pg c) (pa c)) (mn (pb c) (pa c)))) (by kernel_rfl) (fun w hT => refMake (pa c) (mn (pr c) (pa c)) (mn (pg c) (pa c)) (mn (pb c) (pa c)) w) ?_
 refine bS [0] 19 0 [(2, .int .u32 (mkC (pa c) (mn (pr c) (pa c)) (mn (pg c) (pa c)) (mn (pb c) (pa c))))] ?_
 refine cont_done ?_
 refine then_normal ?_
 refine cont_ret ?_
 refine ret_one (.inl rfl) rfl 0 (.int .u32 (mkC (pa c) (mn (pr c) (pa c)) (mn (pg c) (pa c)) (mn (pb c) (pa c)))) (by kernel_rfl) (by kernel_rfl) (fun w hT => ?_)
 exact ⟨rfl, hT.post rfl⟩

theorem refNew4 (W H : Int) (w : World) (hwh : 1 ≤ W ∧ W ≤ 256 ∧ 1 ≤ H ∧ H ≤ 256) :
    Calls Try.prog 28 #[.int .i64 W, .int .i64 H] w fun e w' => ∃ r n : Nat, e = .returned (.agg #[.int .i64 W, .int .i64 H, .slice (some ⟨r, 0, none⟩) n n]) ∧ (n : Int) = W * H ∧ Tab w w' [.gen (rowE (some ⟨r, 0, none⟩) r n n 28 1 (ivals .u32 (List.replicate n 0)) true)] := by
 have hm : W * H ≤ 256 * 256 := mul_le_of (by omega) (by omega) (by omega) (by omega)
 have hm0 : 0 ≤ W * H := Int.mul_nonneg (by omega) (by omega)
 obtain ⟨n, hn⟩ : ∃ n : Nat, (n : Int) = W * H := ⟨(W * H).toNat, by omega⟩
 refine enter 12 [(0, iq W), (1, iq H)] [] Try.func28 rfl Try.ntmps28 rfl (by kernel_rfl) (Tab.start w) ?_
 refine cont_seq ?_
 refine cont_region 1 rfl ?_
 refine batch1 [0] 1 0 (fun b1 => [(0, iq W), (1, iq H), (4, .pointer (pB b1))]) (fun b1 => [.cells b1 [iq 0, iq 0, .slice none 0 0] 37 true]) rfl rfl [0, 1, 4] (fun _ => rfl) (fun b1 => by kernel_rfl) (fun b1 => by kernel_rfl) (fun b1 => ?_)
 refine cont_done ?_
 refine then_normal ?_
 refine cont_seq ?_
 refine cont_region 8 rfl ?_
 refine bS [0, 0, 0, 0, 0] 5 3 [(4, .pointer (pB b1)), (5, iq W), (6, iq H), (9, iq (IntKind.i64.wrap (W * H)))] ?_
 refine cont_recast 9 (iq (IntKind.i64.wrap (W * H))) (iq (n : Int)) rfl (by rw [hn]; exact wrapI (by omega) (by omega)) ?_
 refine pl_step 6 2 rfl rfl ?_
 refine sem_stepW 10 (Instr.makeSlice 35 (iq (n : Int)) (iq (n : Int))) (fun r2 => .slice (pB r2) n n) (fun r2 => [.gen (rowE (pB r2) r2 n n 28 1 (ivals .u32 (List.replicate n 0)) true), .cells b1 [iq 0, iq 0, .slice none 0 0] 37 true]) (fun _ => True) (by kernel_rfl) (fun w hT => make_row hT (bytes := 4) n (by kernel_rfl) (by kernel_rfl) (by omega) (by omega)) (fun r2 _ => ?_)
 refine batch0 [0, 1] 8 0 [(4, .pointer (pB b1))] [.gen (rowE (pB r2) r2 n n 28 1 (ivals .u32 (List.replicate n 0)) true), .cells b1 [iq W, iq H, .slice (pB r2) n n] 37 true] rfl rfl (by kernel_rfl) (by kernel_rfl) ?_
 refine cont_done ?_
 refine then_normal ?_
 refine cont_ret ?_
 refine ret_one (.inl rfl) rfl 1 (.agg #[iq W, iq H, .slice (pB r2) n n]) (by kernel_rfl) (by kernel_rfl) (fun w hT => ?_)
 replace hT := hT.erase 1 (fun e h hw => by cases h; first | rfl | cases hw)
 exact ⟨_, _, rfl, hn, hT⟩

theorem refGood4 (A1 : Option Addr) (g1 o1 n1 cap1 : Nat) (xs1 : List Int) (a b : Int) (w : World) (hT0 : Tab w w [.gen (rdE (A1) g1 o1 n1 1 (ivals .u32 xs1))]) (hh : GoodIn a b A1 g1 o1 n1 cap1 xs1) :
    Calls Try.prog 16 #[.int .i64 a, .int .i64 b, .slice A1 n1 cap1] w fun e w' => ∃ r n : Nat, e = .returned (.agg #[.int .i64 (1 + aroundI a 16), .int .i64 (1 + aroundI b 16), .slice (some ⟨r, 0, none⟩) n n]) ∧ (n : Int) = (1 + aroundI a 16) * (1 + aroundI b 16) ∧ Tab w w' [.gen (rowE (some ⟨r, 0, none⟩) r n n 28 1 (ivals .u32 (goodP n xs1 n)) true)] := by
 obtain ⟨ha, hb, hl1, hc1, hm1, hx1, hat1⟩ := hh
 unfold maxLen at hm1
 have hr1a := hat1
 refine enter 39 [(0, iq a), (1, iq b), (2, .slice A1 n1 cap1)] [.gen (rdE (A1) g1 o1 n1 1 (ivals .u32 xs1))] Try.func16 rfl Try.ntmps16 rfl (by kernel_rfl) hT0 ?_
 refine cont_seq ?_
 refine cont_region 1 rfl ?_
 refine batch1 [0] 1 0 (fun b1 => [(0, iq a), (1, iq b), (2, .slice A1 n1 cap1), (6, .pointer (pB b1))]) (fun b1 => [.cells b1 [iq 0, iq 0, .slice none 0 0] 37 true, .gen (rdE (A1) g1 o1 n1 1 (ivals .u32 xs1))]) rfl rfl [0, 1, 2, 6] (fun _ => rfl) (fun b1 => by kernel_rfl) (fun b1 => by kernel_rfl) (fun b1 => ?_)
 refine cont_done ?_
 refine then_normal ?_
 refine cont_seq ?_
 refine cont_region 9 rfl ?_
 refine bS [0] 1 8 [(1, iq b), (2, .slice A1 n1 cap1), (6, .pointer (pB b1)), (9, iq a)] ?_
 refine pl_step 2 7 rfl rfl ?_
 refine call_pure (d := 10) (iq (aroundI a 16)) (by kernel_rfl) (fun w hT => refAround a 16 w (by omega) (by omega)) ?_
 have hq2_ := aroundI_range a (m := 16) (by omega)
 refine bS [0] 3 6 [(1, iq b), (2, .slice A1 n1 cap1), (6, .pointer (pB b1)), (11, iq (IntKind.i64.wrap (1 + (aroundI a 16))))] ?_
 refine cont_recast 11 (iq (IntKind.i64.wrap (1 + (aroundI a 16)))) (iq (1 + (aroundI a 16))) rfl (wrapI (by omega) (by omega)) ?_
 refine bS [0] 4 5 [(2, .slice A1 n1 cap1), (6, .pointer (pB b1)), (11, iq (1 + (aroundI a 16))), (12, iq b)] ?_
 refine pl_step 5 4 rfl rfl ?_
 refine call_pure (d := 13) (iq (aroundI b 16)) (by kernel_rfl) (fun w hT => refAround b 16 w (by omega) (by omega)) ?_
 have hq3_ := aroundI_range b (m := 16) (by omega)
 refine bS [0] 6 3 [(2, .slice A1 n1 cap1), (6, .pointer (pB b1)), (11, iq (1 + (aroundI a 16))), (14, iq (IntKind.i64.wrap (1 + (aroundI b 16))))] ?_
 refine cont_recast 14 (iq (IntKind.i64.wrap (1 + (aroundI b 16)))) (iq (1 + (aroundI b 16))) rfl (wrapI (by omega) (by omega)) ?_
 refine pl_step 7 2 rfl rfl ?_
 refine call_gen (d := 15) (α := Nat × Nat) (fun x_ => .agg #[iq (1 + (aroundI a 16)), iq (1 + (aroundI b 16)), .slice (pB x_.1) x_.2 x_.2]) (fun x_ => [.gen (rowE (pB x_.1) x_.1 x_.2 x_.2 28 1 (ivals .u32 (List.replicate x_.2 0)) true), .cells b1 [iq 0, iq 0, .slice none 0 0] 37 true, .gen (rdE (A1) g1 o1 n1 1 (ivals .u32 xs1))]) (fun x_ => (x_.2 : Int) = (1 + (aroundI a 16)) * (1 + (aroundI b 16))) (by kernel_rfl) (fun w hT => (refNew4 (1 + (aroundI a 16)) (1 + (aroundI b 16)) w (by omega)).mono fun e w' ⟨r4, n5, he_, hf_, ht_⟩ => ⟨(r4, n5), he_, hf_, hT.news ht_ rfl⟩) ?_
 rintro ⟨r4, n5⟩ hf6_
 replace hf6_ : (n5 : Int) = (1 + (aroundI a 16)) * (1 + (aroundI b 16)) := hf6_
 refine cont_norm [(2, .slice A1 n1 cap1), (6, .pointer (pB b1)), (11, iq (1 + (aroundI a 16))), (14, iq (1 + (aroundI b 16))), (15, .agg #[iq (1 + (aroundI a 16)), iq (1 + (aroundI b 16)), .slice (pB r4) n5 n5])] _ (by kernel_rfl) rfl ?_
 refine batch1 [0, 0] 9 0 (fun b7 => [(2, .slice A1 n1 cap1), (6, .pointer (pB b1)), (7, .pointer (pB b7))]) (fun b7 => [.cells b7 [iq (1 + (aroundI a 16)), iq (1 + (aroundI b 16)), .slice (pB r4) n5 n5] 37 true, .gen (rowE (pB r4) r4 n5 n5 28 1 (ivals .u32 (List.replicate n5 0)) true), .cells b1 [iq 0, iq 0, .slice none 0 0] 37 true, .gen (rdE (A1) g1 o1 n1 1 (ivals .u32 xs1))]) rfl rfl [2, 6, 7] (fun _ => rfl) (fun b7 => by kernel_rfl) (fun b7 => by kernel_rfl) (fun b7 => ?_)
 refine cont_done ?_
 refine then_normal ?_
 refine cont_seq ?_
 refine cont_seq ?_
 refine cont_region 1 rfl ?_
 refine bS [0] 1 0 [(2, .slice A1 n1 cap1), (6, .pointer (pB b1)), (7, .pointer (pB b7)), (8, iq 0)] ?_
 refine cont_done ?_
 refine then_normal ?_
 refine cont_block ?_
 refine cont_rowEq (k := .u32) 1 (List.replicate n5 0) (goodP n5 xs1 0) rfl ((goodP_zero _ _).symm) ?_
 refine cont_loop (α := Nat) (fun x_ : Nat => x_ ≤ n1 ∧ x_ ≤ n5) (fun x_ : Nat => [(2, .slice A1 n1 cap1), (6, .pointer (pB b1)), (7, .pointer (pB b7)), (8, iq (x_ : Int))]) (fun x_ : Nat => [.cells b7 [iq (1 + (aroundI a 16)), iq (1 + (aroundI b 16)), .slice (pB r4) n5 n5] 37 true, .gen (rowE (pB r4) r4 n5 n5 28 1 (ivals .u32 (goodP n5 xs1 x_)) true), .cells b1 [iq 0, iq 0, .slice none 0 0] 37 true, .gen (rdE (A1) g1 o1 n1 1 (ivals .u32 xs1))]) (fun x_ : Nat => n1 - x_) 0 (⟨by omega, by omega⟩) (by kernel_rfl) (by kernel_rfl) ?_
 rintro i hinv8_
 replace hinv8_ : i ≤ n1 ∧ i ≤ n5 := hinv8_
 refine cont_norm [(2, .slice A1 n1 cap1), (6, .pointer (pB b1)), (7, .pointer (pB b7)), (8, iq (i : Int))] _ (by kernel_rfl) rfl ?_
 obtain ⟨hi1, hi2⟩ := hinv8_
 have hxi : i < n1 → 0 ≤ xs1.getD i 0 ∧ xs1.getD i 0 < 4294967296 := fun h => hx1 _ (by rw [List.getD_eq_getElem?_getD, List.getElem?_eq_getElem (by omega)]; simp)
 refine cont_seq ?_
 refine cont_seq ?_
 refine cont_region 11 rfl ?_
 refine bS [0, 0, 0, 0, 0] 5 6 [(2, .slice A1 n1 cap1), (6, .pointer (pB b1)), (7, .pointer (pB b7)), (8, iq (i : Int)), (20, .bool (decide ((i : Int) < (n1 : Int))))] ?_
 refine cont_split 20 (decide ((i : Int) < (n1 : Int))) rfl (fun c9_ => ?_) (fun c9_ => ?_)
 ·
  replace c9_ := of_decide_eq_true c9_
  refine bS [0, 0, 0, 0, 0, 0] 11 0 [(2, .slice A1 n1 cap1), (6, .pointer (pB b1)), (7, .pointer (pB b7)), (8, iq (i : Int)), (21, iq (i : Int)), (22, .pointer (some ⟨b7, 2, none⟩)), (23, .slice (pB r4) n5 n5), (24, iq (n5 : Int)), (25, .bool (decide ((i : Int) < (n5 : Int)))), (26, .bool (decide ((i : Int) < (n5 : Int))))] ?_
  refine cont_done ?_
  refine then_normal ?_
  refine cont_split 26 (decide ((i : Int) < (n5 : Int))) rfl (fun c10_ => ?_) (fun c10_ => ?_)
  ·
   refine cont_recast 25 (.bool (decide ((i : Int) < (n5 : Int)))) (.bool true) rfl (congrArg Value.bool c10_) ?_
   replace c10_ := of_decide_eq_true c10_
   refine cont_true rfl ?_
   refine cont_skip ?_
   refine then_normal ?_
   refine cont_seq ?_
   refine cont_block ?_
   refine drawn_enter 10 [1] rfl (by kernel_rfl) ?_
   refine takes 0 [1] [(0, 0), (2, 0), (3, 0), (4, 0), (1, 0)] 5 [1, 4, 3, 2, 0] [(2, .slice A1 n1 cap1), (6, .pointer (pB b1)), (7, .pointer (pB b7)), (8, iq (i : Int)), (21, iq (i : Int)), (22, .pointer (some ⟨b7, 2, none⟩)), (23, .slice (pB r4) n5 n5), (24, iq (n5 : Int)), (25, .bool true), (30, .slice (pB r4) n5 n5), (31, iq (i : Int)), (32, .slice A1 n1 cap1), (33, iq (i : Int))] (by kernel_rfl) (pok_blk (pok_then (pok_then (pok_blk (pok_then pok_body))))) (by kernel_rfl) rfl rfl (by kernel_rfl) (by kernel_rfl) ?_
   refine cont_recast 32 (.slice A1 n1 cap1) (.slice (some ⟨g1, o1, none⟩) n1 cap1) rfl (by rw [hat1 (by omega)]) ?_
   refine sem_take 0 [1] 5 4 34 (Instr.indexAt 35 (.slice (some ⟨g1, o1, none⟩) n1 cap1) (iq (i : Int))) (.pointer (some ⟨g1, o1 + i, none⟩)) (by kernel_rfl) (pok_blk (pok_then (pok_then (pok_blk (pok_then pok_body))))) (by kernel_rfl) rfl (by kernel_rfl) (by kernel_rfl) (fun w hT => run_indexAt (e := 28) (sz := 1) _ (by kernel_rfl) (by kernel_rfl) (by omega) (by omega) (by omega) w) ?_
   refine sem_take 0 [1] 6 3 35 (Instr.loadAt 28 (.pointer (some ⟨g1, o1 + i, none⟩))) (.int .u32 (xs1.getD i 0)) (by kernel_rfl) (pok_blk (pok_then (pok_then (pok_blk (pok_then pok_body))))) (by kernel_rfl) rfl (by kernel_rfl) (by kernel_rfl) (fun w hT => run_load1 (by kernel_rfl) (Rd.cell (hT 3 _ rfl) (i) _ (ivals_get (by omega)))) ?_
   refine drawn_one 7 2 rfl (by kernel_rfl) ?_
   refine call_pure (d := 36) (.int .u32 (goodC (xs1.getD i 0))) (by kernel_rfl) (fun w hT => refGood3 (xs1.getD i 0) w (by omega) (by omega)) ?_
   refine drawn_next 0 [1] (by kernel_rfl) ?_
   refine sem_take 0 [1] 8 1 37 (Instr.indexAt 35 (.slice (pB r4) n5 n5) (iq (i : Int))) (.pointer (some ⟨r4, i, none⟩)) (by kernel_rfl) (pok_blk (pok_then (pok_then (pok_blk (pok_then pok_body))))) (by kernel_rfl) rfl (by kernel_rfl) (by kernel_rfl) (fun w hT => run_indexAt (e := 28) (sz := 1) _ (by kernel_rfl) (by kernel_rfl) (by omega) (by omega) (by omega) w) ?_
   refine drawn_one 9 0 rfl (by kernel_rfl) ?_
   refine sem_stepU (Instr.storeAt 28 (.pointer (some ⟨r4, i, none⟩)) (.int .u32 (goodC (xs1.getD i 0)))) (fun _ => [.cells b7 [iq (1 + (aroundI a 16)), iq (1 + (aroundI b 16)), .slice (pB r4) n5 n5] 37 true, .gen (rowE (pB r4) r4 n5 n5 28 1 (ivals .u32 ((goodP n5 xs1 i).set i (goodC (xs1.getD i 0)))) true), .cells b1 [iq 0, iq 0, .slice none 0 0] 37 true, .gen (rdE (A1) g1 o1 n1 1 (ivals .u32 xs1))]) (fun _ => True) (by kernel_rfl) (fun w hT => store_row hT (i := 1) rfl (by kernel_rfl) (by simp only [goodP_length]; omega)) (fun _ _ => ?_)
   refine drawn_next 0 [1] (by kernel_rfl) ?_
   refine drawn_done (by kernel_rfl) ?_
   refine blk_normal ?_
   refine then_normal ?_
   refine cont_region 3 rfl ?_
   refine bS [0, 0] 2 1 [(2, .slice A1 n1 cap1), (6, .pointer (pB b1)), (7, .pointer (pB b7)), (21, iq (i : Int)), (22, .pointer (some ⟨b7, 2, none⟩)), (23, .slice (pB r4) n5 n5), (24, iq (n5 : Int)), (25, .bool true), (28, iq (IntKind.i64.wrap ((i : Int) + 1)))] ?_
   refine cont_recast 28 (iq (IntKind.i64.wrap ((i : Int) + 1))) (iq ((i : Int) + 1)) rfl (wrapI (by omega) (by omega)) ?_
   refine bS [0] 3 0 [(2, .slice A1 n1 cap1), (6, .pointer (pB b1)), (7, .pointer (pB b7)), (8, iq ((i : Int) + 1)), (21, iq (i : Int)), (22, .pointer (some ⟨b7, 2, none⟩)), (23, .slice (pB r4) n5 n5), (24, iq (n5 : Int)), (25, .bool true)] ?_
   refine cont_done ?_
   refine then_normal ?_
   refine cont_rowEq (k := .u32) 1 ((goodP n5 xs1 i).set i (goodC (xs1.getD i 0))) (goodP n5 xs1 (i + 1)) rfl (goodP_set (by omega)) ?_
   refine cont_again (i + 1) (show (i + 1) ≤ n1 ∧ (i + 1) ≤ n5 from ⟨by omega, by omega⟩) (show n1 - (i + 1) < n1 - i from by omega) (by kernel_rfl) (by kernel_rfl)
  refine cont_recast 25 (.bool (decide ((i : Int) < (n5 : Int)))) (.bool false) rfl (congrArg Value.bool c10_) ?_
  replace c10_ := of_decide_eq_false c10_
  refine cont_false rfl ?_
  refine cont_exit ?_
  refine then_exit ?_
  refine then_exit ?_
  refine blk_exit ?_
  refine then_normal ?_
  refine cont_seq ?_
  refine cont_region 2 rfl ?_
  refine batch0 [0, 2] 2 0 [(6, .pointer (pB b1))] [.cells b7 [iq (1 + (aroundI a 16)), iq (1 + (aroundI b 16)), .slice (pB r4) n5 n5] 37 true, .gen (rowE (pB r4) r4 n5 n5 28 1 (ivals .u32 (goodP n5 xs1 i)) true), .cells b1 [iq (1 + (aroundI a 16)), iq (1 + (aroundI b 16)), .slice (pB r4) n5 n5] 37 true, .gen (rdE (A1) g1 o1 n1 1 (ivals .u32 xs1))] rfl rfl (by kernel_rfl) (by kernel_rfl) ?_
  refine cont_forget 0 rfl ?_
  refine cont_done ?_
  refine then_normal ?_
  refine cont_ret ?_
  refine ret_one (.inl rfl) rfl 1 (.agg #[iq (1 + (aroundI a 16)), iq (1 + (aroundI b 16)), .slice (pB r4) n5 n5]) (by kernel_rfl) (by kernel_rfl) (fun w hT => ?_)
  replace hT := hT.erase 2 (fun e h hw => by cases h; first | rfl | cases hw)
  replace hT := hT.erase 1 (fun e h hw => by cases h; first | rfl | cases hw)
  rw [goodP_end (by omega)] at hT
  exact ⟨_, _, rfl, ‹_›, hT⟩
 replace c9_ := of_decide_eq_false c9_
 refine bS [0, 0, 0, 0, 0, 0] 11 0 [(2, .slice A1 n1 cap1), (6, .pointer (pB b1)), (7, .pointer (pB b7)), (8, iq (i : Int)), (21, undef), (22, undef), (23, undef), (24, undef), (25, undef), (26, .bool false)] ?_
 refine cont_done ?_
 refine then_normal ?_
 refine cont_false rfl ?_
 refine cont_exit ?_
 refine then_exit ?_
 refine then_exit ?_
 refine blk_exit ?_
 refine then_normal ?_
 refine cont_seq ?_
 refine cont_region 2 rfl ?_
 refine batch0 [0, 2] 2 0 [(6, .pointer (pB b1))] [.cells b7 [iq (1 + (aroundI a 16)), iq (1 + (aroundI b 16)), .slice (pB r4) n5 n5] 37 true, .gen (rowE (pB r4) r4 n5 n5 28 1 (ivals .u32 (goodP n5 xs1 i)) true), .cells b1 [iq (1 + (aroundI a 16)), iq (1 + (aroundI b 16)), .slice (pB r4) n5 n5] 37 true, .gen (rdE (A1) g1 o1 n1 1 (ivals .u32 xs1))] rfl rfl (by kernel_rfl) (by kernel_rfl) ?_
 refine cont_forget 0 rfl ?_
 refine cont_done ?_
 refine then_normal ?_
 refine cont_ret ?_
 refine ret_one (.inl rfl) rfl 1 (.agg #[iq (1 + (aroundI a 16)), iq (1 + (aroundI b 16)), .slice (pB r4) n5 n5]) (by kernel_rfl) (by kernel_rfl) (fun w hT => ?_)
 replace hT := hT.erase 2 (fun e h hw => by cases h; first | rfl | cases hw)
 replace hT := hT.erase 1 (fun e h hw => by cases h; first | rfl | cases hw)
 rw [goodP_end (by omega)] at hT
 exact ⟨_, _, rfl, ‹_›, hT⟩

theorem refBox (W H : Int) (s : Value) (w : World) :
    Calls Try.prog 20 #[.agg #[.int .i64 W, .int .i64 H, s]] w fun e w' => e = .returned (.agg #[.int .i64 0, .int .i64 0, .int .i64 W, .int .i64 H]) ∧ Below w.heap.size w w' := by
 refine enter 8 [(0, .agg #[iq W, iq H, s])] [] Try.func20 rfl Try.ntmps20 rfl (by kernel_rfl) (Tab.start w) ?_
 refine cont_seq ?_
 refine cont_region 2 rfl ?_
 refine batch2 [0, 0] 2 0 (fun b1 b2 => [(1, .pointer (pB b1)), (2, .pointer (pB b2))]) (fun b1 b2 => [.cells b2 [iq 0, iq 0, iq 0, iq 0] 32 true, .cells b1 [iq W, iq H, s] 37 true]) rfl rfl [1, 2] (fun _ _ => rfl) (fun b1 b2 => by kernel_rfl) (fun b1 b2 => by kernel_rfl) (fun b1 b2 => ?_)
 refine cont_done ?_
 refine then_normal ?_
 refine cont_seq ?_
 refine cont_region 6 rfl ?_
 refine batch0 [0, 1, 0, 1, 0, 0] 6 0 [(2, .pointer (pB b2))] [.cells b2 [iq 0, iq 0, iq W, iq H] 32 true, .cells b1 [iq W, iq H, s] 37 true] rfl rfl (by kernel_rfl) (by kernel_rfl) ?_
 refine cont_forget 1 rfl ?_
 refine cont_done ?_
 refine then_normal ?_
 refine cont_ret ?_
 refine ret_one (.inl rfl) rfl 0 (.agg #[iq 0, iq 0, iq W, iq H]) (by kernel_rfl) (by kernel_rfl) (fun w hT => ?_)
 exact ⟨rfl, hT.post rfl⟩

theorem imgSet (m : Nat) (W H : Int) (r n cap : Nat) (px : List Int) (x y c : Int) (w : World) (hI : Img 84 28 w m W H r n cap px) (hok : ImgOk W H n px) (hc : InC c) :
    Calls Try.prog 36 #[.pointer (some ⟨m, 0, none⟩), .int .i64 x, .int .i64 y, .int .u32 c] w fun e w' => e = .returned (.int .i64 (setE W H x y c)) ∧ KeepBut w w' r ∧ Row w' (some ⟨r, 0, none⟩) r n cap 28 1 (ivals .u32 (setL W H px x y c)) := by
 have hw1 := hok.w1
 have hw2 := hok.w2
 have hh1 := hok.h1
 have hh2 := hok.h2
 have hnum := hok.num
 have hlen := hok.len
 have hle := hok.le
 have hcap := hI.row.capLe
 obtain ⟨hc0, hc1⟩ := hc
 refine enter 34 [(0, .pointer (pB m)), (1, iq x), (2, iq y), (3, .int .u32 c)] [.ro m [iq W, iq H, .slice (pB r) n cap] 84, .gen (rowE (pB r) r n cap 28 1 (ivals .u32 px) false)] Try.func36 rfl Try.ntmps36 rfl (by kernel_rfl) hI.tabRw ?_
 refine cont_seq ?_
 refine cont_region 1 rfl ?_
 refine bS [0] 1 0 [(0, .pointer (pB m)), (1, iq x), (2, iq y), (3, .int .u32 c)] ?_
 refine cont_done ?_
 refine then_normal ?_
 refine cont_seq ?_
 refine cont_block ?_
 refine cont_seq ?_
 refine cont_region 7 rfl ?_
 refine bS [0] 1 6 [(0, .pointer (pB m)), (1, iq x), (2, iq y), (3, .int .u32 c), (10, .pointer (pB m))] ?_
 refine pl_step 2 5 rfl rfl ?_
 refine call_pure (d := 11) (.agg #[iq 0, iq 0, iq W, iq H]) (by kernel_rfl) (fun w hT => imgBox m W H r n cap px  w ⟨hT.ok 0 _ rfl, Row.rd (hT.ok 1 _ rfl), Row.capLe (hT.ok 1 _ rfl)⟩ hok) ?_
 refine bS [0, 0] 4 3 [(0, .pointer (pB m)), (1, iq x), (2, iq y), (3, .int .u32 c), (11, .agg #[iq 0, iq 0, iq W, iq H]), (12, iq x), (13, iq y)] ?_
 refine pl_step 5 2 rfl rfl ?_
 refine call_pure (d := 14) (.bool (hasB 0 0 W H x y)) (by kernel_rfl) (fun w hT => rectHas 0 0 W H x y w) ?_
 refine bS [0, 0] 7 0 [(0, .pointer (pB m)), (1, iq x), (2, iq y), (3, .int .u32 c), (9, .bool (!(hasB 0 0 W H x y)))] ?_
 refine cont_done ?_
 refine then_normal ?_
 refine cont_split 9 (!(hasB 0 0 W H x y)) rfl (fun c1_ => ?_) (fun c1_ => ?_)
 ·
  replace c1_ : (hasB 0 0 W H x y) = false := by simpa using c1_
  refine cont_true rfl ?_
  refine cont_seq ?_
  refine cont_region 1 rfl ?_
  refine bS [0] 1 0 [(8, iq 4)] ?_
  refine cont_done ?_
  refine then_normal ?_
  refine cont_ret ?_
  refine blk_ret ?_
  refine then_ret ?_
  refine ret_one (.inl rfl) rfl 0 (iq 4) (by kernel_rfl) (by kernel_rfl) (fun w hT => ?_)
  refine ⟨ret_int (by simp [setE, *]), hT.keep 1 rfl rfl, ?_⟩
  have hR := hT.ok 1 _ rfl
  rw [show setL W H px x y c = px from by simp [setL, *]]
  exact hR
 replace c1_ : (hasB 0 0 W H x y) = true := by simpa using c1_
 obtain ⟨hx0, hx1, hy0, hy1⟩ := hasB_true.1 c1_
 have hpl := hok.place hx0 hx1 hy0 hy1
 refine cont_false rfl ?_
 refine cont_seq ?_
 refine cont_region 4 rfl ?_
 refine bS [0] 1 3 [(0, .pointer (pB m)), (1, iq x), (2, iq y), (3, .int .u32 c), (17, .int .u32 c)] ?_
 refine pl_step 2 2 rfl rfl ?_
 refine call_pure (d := 18) (.bool (mayB c)) (by kernel_rfl) (fun w hT => colorMay c w (by omega) (by omega)) ?_
 refine bS [0, 0] 4 0 [(0, .pointer (pB m)), (1, iq x), (2, iq y), (3, .int .u32 c), (16, .bool (!(mayB c)))] ?_
 refine cont_done ?_
 refine then_normal ?_
 refine cont_split 16 (!(mayB c)) rfl (fun c2_ => ?_) (fun c2_ => ?_)
 ·
  replace c2_ : (mayB c) = false := by simpa using c2_
  refine cont_true rfl ?_
  refine cont_seq ?_
  refine cont_region 1 rfl ?_
  refine bS [0] 1 0 [(8, iq 1)] ?_
  refine cont_done ?_
  refine then_normal ?_
  refine cont_ret ?_
  refine blk_ret ?_
  refine then_ret ?_
  refine ret_one (.inl rfl) rfl 0 (iq 1) (by kernel_rfl) (by kernel_rfl) (fun w hT => ?_)
  refine ⟨ret_int (by simp [setE, *]), hT.keep 1 rfl rfl, ?_⟩
  have hR := hT.ok 1 _ rfl
  rw [show setL W H px x y c = px from by simp [setL, *]]
  exact hR
 replace c2_ : (mayB c) = true := by simpa using c2_
 refine cont_false rfl ?_
 refine cont_skip ?_
 refine blk_normal ?_
 refine then_normal ?_
 refine cont_seq ?_
 refine drawn_enter 15 [1] rfl (by kernel_rfl) ?_
 refine takes 0 [1] [(0, 0), (4, 0), (5, 0), (10, 0), (12, 0), (1, 0), (6, 0), (2, 0), (7, 0), (3, 0), (8, 0), (9, 0)] 3 [9, 8, 3, 7, 2, 6, 1, 12, 10, 5, 4, 0] [(23, .slice (pB r) n cap), (29, iq (IntKind.i64.wrap (y * W))), (30, iq x), (32, .int .u32 c)] (by kernel_rfl) (pok_then pok_body) (by kernel_rfl) rfl rfl (by kernel_rfl) (by kernel_rfl) ?_
 refine cont_recast 29 (iq (IntKind.i64.wrap (y * W))) (iq (y * W)) rfl (wrapI (by omega) (by omega)) ?_
 refine takes 0 [1] [(11, 0)] 2 [11, 9, 8, 3, 7, 2, 6, 1, 12, 10, 5, 4, 0] [(23, .slice (pB r) n cap), (31, iq (IntKind.i64.wrap ((y * W) + x))), (32, .int .u32 c)] (by kernel_rfl) (pok_then pok_body) (by kernel_rfl) rfl rfl (by kernel_rfl) (by kernel_rfl) ?_
 refine cont_recast 31 (iq (IntKind.i64.wrap ((y * W) + x))) (iq ((y * W) + x)) rfl (wrapI (by omega) (by omega)) ?_
 refine sem_take 0 [1] 13 1 33 (Instr.indexAt 35 (.slice (pB r) n cap) (iq ((y * W) + x))) (.pointer (some ⟨r, Int.toNat ((y * W) + x), none⟩)) (by kernel_rfl) (pok_then pok_body) (by kernel_rfl) rfl (by kernel_rfl) (by kernel_rfl) (fun w hT => run_indexAt (e := 28) (sz := 1) _ (by kernel_rfl) (by kernel_rfl) (by omega) (by omega) (by omega) w) ?_
 refine drawn_one 14 0 rfl (by kernel_rfl) ?_
 refine sem_stepU (Instr.storeAt 28 (.pointer (some ⟨r, Int.toNat ((y * W) + x), none⟩)) (.int .u32 c)) (fun _ => [.ro m [iq W, iq H, .slice (pB r) n cap] 84, .gen (rowE (pB r) r n cap 28 1 (ivals .u32 (px.set (Int.toNat ((y * W) + x)) c)) false)]) (fun _ => True) (by kernel_rfl) (fun w hT => store_row hT (i := 1) rfl (by kernel_rfl) (by omega)) (fun _ _ => ?_)
 refine drawn_next 0 [1] (by kernel_rfl) ?_
 refine drawn_done (by kernel_rfl) ?_
 refine then_normal ?_
 refine cont_seq ?_
 refine cont_region 1 rfl ?_
 refine bS [0] 1 0 [(8, iq 0)] ?_
 refine cont_done ?_
 refine then_normal ?_
 refine cont_ret ?_
 refine ret_one (.inl rfl) rfl 0 (iq 0) (by kernel_rfl) (by kernel_rfl) (fun w hT => ?_)
 refine ⟨ret_int (by simp [setE, *]), hT.keep 1 rfl rfl, ?_⟩
 have hR := hT.ok 1 _ rfl
 rw [show setL W H px x y c = px.set (Int.toNat ((y * W) + x)) c from by simp [setL, *]]
 exact hR

theorem bld (W H : Int) (r n cap : Nat) (px : List Int) (w : World) (hT0 : Tab w w [.gen (rdE (some ⟨r, 0, none⟩) r 0 n 1 (ivals .u32 px))]) (hok : ImgOk W H n px) (hmay : AllMay px) :
    Calls Try.prog 17 #[.agg #[.int .i64 W, .int .i64 H, .slice (some ⟨r, 0, none⟩) n cap]] w fun e w' => ∃ b q : Nat, e = .returned (.pointer (some ⟨b, 0, none⟩)) ∧ NewImg 84 28 w w' b W H q n n px := by
 have hw1 := hok.w1
 have hw2 := hok.w2
 have hh1 := hok.h1
 have hh2 := hok.h2
 have hnum := hok.num
 have hlen := hok.len
 have hle := hok.le
 refine enter 43 [(0, .agg #[iq W, iq H, .slice (pB r) n cap])] [.gen (rdE (pB r) r 0 n 1 (ivals .u32 px))] Try.func17 rfl Try.ntmps17 rfl (by kernel_rfl) hT0 ?_
 refine cont_seq ?_
 refine cont_region 2 rfl ?_
 refine batch1 [0, 0] 2 0 (fun b1 => [(1, .pointer (pB b1))]) (fun b1 => [.cells b1 [iq W, iq H, .slice (pB r) n cap] 37 true, .gen (rdE (pB r) r 0 n 1 (ivals .u32 px))]) rfl rfl [1] (fun _ => rfl) (fun b1 => by kernel_rfl) (fun b1 => by kernel_rfl) (fun b1 => ?_)
 refine cont_done ?_
 refine then_normal ?_
 refine cont_seq ?_
 refine cont_region 10 rfl ?_
 refine bS [0, 0, 0, 0] 4 6 [(1, .pointer (pB b1)), (8, iq W), (10, iq H)] ?_
 refine pl_step 5 5 rfl rfl ?_
 refine call_gen (d := 11) (α := Nat × Nat × Nat) (fun x_ => .tuple #[.pointer (pB x_.1), iq 0]) (fun x_ => [.cells x_.1 [iq W, iq H, .slice (pB x_.2.1) x_.2.2 x_.2.2] 84 true, .gen (rowE (pB x_.2.1) x_.2.1 x_.2.2 x_.2.2 28 1 (ivals .u32 (List.replicate x_.2.2 0)) true), .cells b1 [iq W, iq H, .slice (pB r) n cap] 37 true, .gen (rdE (pB r) r 0 n 1 (ivals .u32 px))]) (fun x_ => (x_.2.2 : Int) = W * H) (by kernel_rfl) (fun w hT => (imgNew W H w ⟨hw1, hw2, hh1, hh2⟩).mono fun e w' ⟨b_, r_, n_, he_, hn_, hi_⟩ => ⟨(b_, r_, n_), he_, hn_, hT.addImg hi_⟩) ?_
 rintro ⟨b2, r2, n2⟩ hn2
 replace hn2 : (n2 : Int) = W * H := hn2
 refine cont_norm [(1, .pointer (pB b1)), (8, iq W), (10, iq H), (11, .tuple #[.pointer (pB b2), iq 0])] _ (by kernel_rfl) rfl ?_
 have hnn : n2 = n := by have := hok.num; omega
 refine bS [0, 0, 0, 0, 0] 10 0 [(1, .pointer (pB b1)), (3, .pointer (pB b2)), (4, iq 0)] ?_
 refine cont_done ?_
 refine then_normal ?_
 refine cont_seq ?_
 refine cont_seq ?_
 refine cont_region 6 rfl ?_
 refine bS [0, 0, 0, 0, 0, 0] 6 0 [(1, .pointer (pB b1)), (3, .pointer (pB b2)), (19, .bool false)] ?_
 refine cont_done ?_
 refine then_normal ?_
 refine cont_false rfl ?_
 refine cont_skip ?_
 refine then_normal ?_
 refine cont_seq ?_
 refine cont_seq ?_
 refine cont_region 1 rfl ?_
 refine bS [0] 1 0 [(1, .pointer (pB b1)), (3, .pointer (pB b2)), (5, iq 0)] ?_
 refine cont_done ?_
 refine then_normal ?_
 refine cont_block ?_
 refine cont_rowEq (k := .u32) 1 (List.replicate n2 0) (bldP px 0) rfl (by rw [bldP_zero, hlen, hnn]) ?_
 refine cont_loop (α := Nat) (fun x_ : Nat => x_ ≤ n2) (fun x_ : Nat => [(1, .pointer (pB b1)), (3, .pointer (pB b2)), (5, iq (x_ : Int))]) (fun x_ : Nat => [.cells b2 [iq W, iq H, .slice (pB r2) n2 n2] 84 true, .gen (rowE (pB r2) r2 n2 n2 28 1 (ivals .u32 (bldP px x_)) true), .cells b1 [iq W, iq H, .slice (pB r) n cap] 37 true, .gen (rdE (pB r) r 0 n 1 (ivals .u32 px))]) (fun x_ : Nat => n2 - x_) 0 (by omega) (by kernel_rfl) (by kernel_rfl) ?_
 rintro i hinv3_
 replace hinv3_ : i ≤ n2 := hinv3_
 refine cont_norm [(1, .pointer (pB b1)), (3, .pointer (pB b2)), (5, iq (i : Int))] _ (by kernel_rfl) rfl ?_
 have hi := hinv3_
 have hem := emod_range i hw1
 refine cont_seq ?_
 refine cont_seq ?_
 refine cont_region 5 rfl ?_
 refine bS [0, 0, 2, 0, 0] 5 0 [(1, .pointer (pB b1)), (3, .pointer (pB b2)), (5, iq (i : Int)), (24, .bool (decide ((i : Int) < (n : Int))))] ?_
 refine cont_done ?_
 refine then_normal ?_
 refine cont_split 24 (decide ((i : Int) < (n : Int))) rfl (fun c4_ => ?_) (fun c4_ => ?_)
 ·
  replace c4_ := of_decide_eq_true c4_
  refine cont_true rfl ?_
  refine cont_skip ?_
  refine then_normal ?_
  refine cont_seq ?_
  refine cont_block ?_
  refine drawn_enter 15 [1] rfl (by kernel_rfl) ?_
  refine takes 0 [1] [(0, 0), (1, 0), (2, 0), (5, 0), (6, 0), (9, 0), (11, 0), (3, 2), (7, 2), (10, 2)] 5 [10, 7, 3, 11, 9, 6, 5, 2, 1, 0] [(1, .pointer (pB b1)), (3, .pointer (pB b2)), (5, iq (i : Int)), (27, .pointer (pB b2)), (28, iq (i : Int)), (30, iq W), (32, iq (i : Int)), (34, iq W), (37, .slice (pB r) n cap), (38, iq (i : Int))] (by kernel_rfl) (pok_blk (pok_then (pok_then (pok_blk (pok_then pok_body))))) (by kernel_rfl) rfl rfl (by kernel_rfl) (by kernel_rfl) ?_
  refine sem_take 0 [1] 4 4 31 (bopS .rem 3 (.tmp 28) (.tmp 30) (iq (i : Int)) (iq W)) (iq ((i : Int).tmod W)) (by kernel_rfl) (pok_blk (pok_then (pok_then (pok_blk (pok_then pok_body))))) (by kernel_rfl) rfl (by kernel_rfl) (by kernel_rfl) (fun w hT => run_rem (by omega) w) ?_
  refine cont_recast 31 (iq ((i : Int).tmod W)) (iq ((i : Int) % W)) rfl (tmodI (by omega)) ?_
  refine sem_take 0 [1] 8 3 35 (bopS .quo 3 (.tmp 32) (.tmp 34) (iq (i : Int)) (iq W)) (iq (IntKind.i64.wrap ((i : Int).tdiv W))) (by kernel_rfl) (pok_blk (pok_then (pok_then (pok_blk (pok_then pok_body))))) (by kernel_rfl) rfl (by kernel_rfl) (by kernel_rfl) (fun w hT => run_quo (by omega) w) ?_
  refine cont_recast 35 (iq (IntKind.i64.wrap ((i : Int).tdiv W))) (iq ((i : Int) / W)) rfl (tdivI (by omega) (by omega) (by omega)) ?_
  refine sem_take 0 [1] 12 2 39 (Instr.indexAt 35 (.slice (pB r) n cap) (iq (i : Int))) (.pointer (some ⟨r, i, none⟩)) (by kernel_rfl) (pok_blk (pok_then (pok_then (pok_blk (pok_then pok_body))))) (by kernel_rfl) rfl (by kernel_rfl) (by kernel_rfl) (fun w hT => run_indexAt (e := 28) (sz := 1) _ (by kernel_rfl) (by kernel_rfl) (by omega) (by omega) (by omega) w) ?_
  refine sem_take 0 [1] 13 1 40 (Instr.loadAt 28 (.pointer (some ⟨r, i, none⟩))) (.int .u32 (px.getD i 0)) (by kernel_rfl) (pok_blk (pok_then (pok_then (pok_blk (pok_then pok_body))))) (by kernel_rfl) rfl (by kernel_rfl) (by kernel_rfl) (fun w hT => run_load1 (by kernel_rfl) (Rd.cell0 (hT 3 _ rfl) (i) _ (ivals_get (by omega)))) ?_
  refine drawn_one 14 0 rfl (by kernel_rfl) ?_
  refine call_gen (d := 41) (α := Unit) (fun _ => iq (setE W H ((i : Int) % W) ((i : Int) / W) (px.getD i 0))) (fun _ => [.cells b2 [iq W, iq H, .slice (pB r2) n2 n2] 84 true, .gen (rowE (pB r2) r2 n2 n2 28 1 (ivals .u32 (setL W H (bldP px i) ((i : Int) % W) ((i : Int) / W) (px.getD i 0))) true), .cells b1 [iq W, iq H, .slice (pB r) n cap] 37 true, .gen (rdE (pB r) r 0 n 1 (ivals .u32 px))]) (fun _ => True) (by kernel_rfl) (fun w hT => (imgSet b2 W H r2 n2 n2 (bldP px i) ((i : Int) % W) ((i : Int) / W) (px.getD i 0) w ⟨hT.ok 0 _ rfl, hT.ok 1 _ rfl, fun hne => hT.disj 0 1 _ _ (by omega) rfl rfl (.inr rfl) _ rfl ⟨hne, by simp⟩⟩ (imgOk_of ⟨hw1, hw2, hh1, hh2⟩ hn2 (by rw [bldP_length, hnn]; exact hlen) (bldP_may hmay i)) (hmay.get (by omega)).2).mono fun e w' ⟨he_, hk_, hr_⟩ => ⟨(), he_, trivial, hT.keepBut hk_ (i := 1) rfl hr_⟩) (fun _ _ => ?_)
  refine drawn_next 0 [1] (by kernel_rfl) ?_
  refine drawn_done (by kernel_rfl) ?_
  refine blk_normal ?_
  refine then_normal ?_
  refine cont_region 3 rfl ?_
  refine bS [0, 0] 2 1 [(1, .pointer (pB b1)), (3, .pointer (pB b2)), (26, iq (IntKind.i64.wrap ((i : Int) + 1)))] ?_
  refine cont_recast 26 (iq (IntKind.i64.wrap ((i : Int) + 1))) (iq ((i : Int) + 1)) rfl (wrapI (by omega) (by omega)) ?_
  refine bS [0] 3 0 [(1, .pointer (pB b1)), (3, .pointer (pB b2)), (5, iq ((i : Int) + 1))] ?_
  refine cont_done ?_
  refine then_normal ?_
  refine cont_rowEq (k := .u32) 1 (setL W H (bldP px i) ((i : Int) % W) ((i : Int) / W) (px.getD i 0)) (bldP px (i + 1)) rfl ((setL_at hok.w1 hok.num (by omega) (hmay.get (by omega)).1).trans (bldP_set (by omega))) ?_
  refine cont_again (i + 1) (show (i + 1) ≤ n2 from (by omega)) (show n2 - (i + 1) < n2 - i from by omega) (by kernel_rfl) (by kernel_rfl)
 replace c4_ := of_decide_eq_false c4_
 refine cont_false rfl ?_
 refine cont_exit ?_
 refine then_exit ?_
 refine then_exit ?_
 refine blk_exit ?_
 refine then_normal ?_
 refine cont_seq ?_
 refine cont_region 2 rfl ?_
 refine bS [0, 0] 2 0 [(2, .pointer (pB b2))] ?_
 refine cont_forget 2 rfl ?_
 refine cont_done ?_
 refine then_normal ?_
 refine cont_ret ?_
 refine ret_one (.inl rfl) rfl 0 (.pointer (pB b2)) (by kernel_rfl) (by kernel_rfl) (fun w hT => ?_)
 replace hT := hT.erase 2 (fun e h hw => by cases h; first | rfl | cases hw)
 rw [bldP_all (by omega)] at hT
 rw [← hnn]
 exact ⟨_, _, rfl, newImg_of_tab hT⟩

theorem likeT (m : Nat) (W H : Int) (r n cap : Nat) (px : List Int) (r' n' cap' : Nat) (w : World) (hT0 : Tab w w [.ro m [.int .i64 W, .int .i64 H, .slice (some ⟨r, 0, none⟩) n cap] 84, .gen (rdE (some ⟨r, 0, none⟩) r 0 n 1 (ivals .u32 px)), .gen (rdE (some ⟨r', 0, none⟩) r' 0 n' 1 (ivals .u32 px))]) (hok : ImgOk W H n px) (hcap : n ≤ cap) :
    Calls Try.prog 23 #[.pointer (some ⟨m, 0, none⟩), .agg #[.int .i64 W, .int .i64 H, .slice (some ⟨r', 0, none⟩) n' cap']] w fun e w' => e = .returned (.bool true) ∧ Below w.heap.size w w' := by
 have hw1 := hok.w1
 have hw2 := hok.w2
 have hh1 := hok.h1
 have hh2 := hok.h2
 have hnum := hok.num
 have hlen := hok.len
 have hle := hok.le
 have hrq : 0 < n' → True := fun _ => trivial
 refine enter 44 [(0, .pointer (pB m)), (1, .agg #[iq W, iq H, .slice (some ⟨r', 0, none⟩) n' cap'])] [.ro m [iq W, iq H, .slice (pB r) n cap] 84, .gen (rdE (pB r) r 0 n 1 (ivals .u32 px)), .gen (rdE (some ⟨r', 0, none⟩) r' 0 n' 1 (ivals .u32 px))] Try.func23 rfl Try.ntmps23 rfl (by kernel_rfl) hT0 ?_
 refine cont_seq ?_
 refine cont_region 2 rfl ?_
 refine batch1 [0, 0] 2 0 (fun b1 => [(0, .pointer (pB m)), (3, .pointer (pB b1))]) (fun b1 => [.cells b1 [iq W, iq H, .slice (some ⟨r', 0, none⟩) n' cap'] 37 true, .ro m [iq W, iq H, .slice (pB r) n cap] 84, .gen (rdE (pB r) r 0 n 1 (ivals .u32 px)), .gen (rdE (some ⟨r', 0, none⟩) r' 0 n' 1 (ivals .u32 px))]) rfl rfl [0, 3] (fun _ => rfl) (fun b1 => by kernel_rfl) (fun b1 => by kernel_rfl) (fun b1 => ?_)
 refine cont_done ?_
 refine then_normal ?_
 refine cont_seq ?_
 refine cont_seq ?_
 refine drawn_enter 5 [] rfl (by kernel_rfl) ?_
 refine takes 0 [] [(0, 0), (2, 0)] 3 [2, 0] [(0, .pointer (pB m)), (3, .pointer (pB b1)), (8, .pointer (pB m)), (10, .agg #[iq W, iq H, .slice (some ⟨r', 0, none⟩) n' cap'])] (by kernel_rfl) (pok_then (pok_then pok_body)) (by kernel_rfl) rfl rfl (by kernel_rfl) (by kernel_rfl) ?_
 refine drawn_one 1 2 rfl (by kernel_rfl) ?_
 refine call_pure (d := 9) (.agg #[iq 0, iq 0, iq W, iq H]) (by kernel_rfl) (fun w hT => imgBox m W H r n cap px  w ⟨hT.ok 1 _ rfl, hT.ok 2 _ rfl, by omega⟩ hok) ?_
 refine drawn_next 0 [] (by kernel_rfl) ?_
 refine drawn_one 3 1 rfl (by kernel_rfl) ?_
 refine call_pure (d := 11) (.agg #[iq 0, iq 0, iq W, iq H]) (by kernel_rfl) (fun w hT => refBox W H (.slice (some ⟨r', 0, none⟩) n' cap') w) ?_
 refine drawn_next 0 [] (by kernel_rfl) ?_
 refine sem_take 0 [] 4 0 12 (bopS .neq 32 (.tmp 9) (.tmp 11) (.agg #[iq 0, iq 0, iq W, iq H]) (.agg #[iq 0, iq 0, iq W, iq H])) (.bool (!(eqInts [0, 0, W, H] [0, 0, W, H]))) (by kernel_rfl) (pok_then (pok_then pok_body)) (by kernel_rfl) rfl (by kernel_rfl) (by kernel_rfl) (fun w hT => run_neS [0, 0, W, H] [0, 0, W, H] (by kernel_rfl) (by kernel_rfl) (by kernel_rfl) (by kernel_rfl) rfl rfl w) ?_
 refine drawn_done (by kernel_rfl) ?_
 refine then_normal ?_
 refine cont_recast 12 (.bool (!(eqInts [0, 0, W, H] [0, 0, W, H]))) (.bool false) rfl (congrArg Value.bool (by simp [eqInts])) ?_
 refine cont_false rfl ?_
 refine cont_skip ?_
 refine then_normal ?_
 refine cont_seq ?_
 refine cont_seq ?_
 refine cont_region 1 rfl ?_
 refine cont_fact (F := (0 < n' → (some ⟨r', 0, none⟩ : Option Addr) = some ⟨r', 0, none⟩) ∧ px.length = n') (fun w hT => Rd.facts (hT.ok 3 _ rfl)) (fun hl3_ => ?_)
 obtain ⟨hl3_a, hl3_l⟩ := hl3_
 refine bS [0] 1 0 [(0, .pointer (pB m)), (3, .pointer (pB b1)), (5, iq 0)] ?_
 refine cont_done ?_
 refine then_normal ?_
 refine cont_block ?_
 refine cont_loop (α := Nat) (fun x_ : Nat => x_ ≤ n') (fun x_ : Nat => [(0, .pointer (pB m)), (3, .pointer (pB b1)), (5, iq (x_ : Int))]) (fun x_ : Nat => [.cells b1 [iq W, iq H, .slice (some ⟨r', 0, none⟩) n' cap'] 37 true, .ro m [iq W, iq H, .slice (pB r) n cap] 84, .gen (rdE (pB r) r 0 n 1 (ivals .u32 px)), .gen (rdE (some ⟨r', 0, none⟩) r' 0 n' 1 (ivals .u32 px))]) (fun x_ : Nat => n' - x_) 0 (by omega) (by kernel_rfl) (by kernel_rfl) ?_
 rintro i hinv4_
 replace hinv4_ : i ≤ n' := hinv4_
 refine cont_norm [(0, .pointer (pB m)), (3, .pointer (pB b1)), (5, iq (i : Int))] _ (by kernel_rfl) rfl ?_
 have hi := hinv4_
 have hem := emod_range i hw1
 refine cont_seq ?_
 refine cont_seq ?_
 refine cont_region 5 rfl ?_
 refine bS [0, 0, 0, 0, 0] 5 0 [(0, .pointer (pB m)), (3, .pointer (pB b1)), (5, iq (i : Int)), (17, .bool (decide ((i : Int) < ((n' : Nat) : Int))))] ?_
 refine cont_done ?_
 refine then_normal ?_
 refine cont_split 17 (decide ((i : Int) < ((n' : Nat) : Int))) rfl (fun c5_ => ?_) (fun c5_ => ?_)
 ·
  replace c5_ := of_decide_eq_true c5_
  refine cont_true rfl ?_
  refine cont_skip ?_
  refine then_normal ?_
  refine cont_seq ?_
  refine cont_block ?_
  refine cont_seq ?_
  refine drawn_enter 15 [] rfl (by kernel_rfl) ?_
  refine takes 0 [] [(0, 0), (1, 0), (2, 0), (5, 0), (6, 0), (3, 0), (7, 0)] 8 [7, 3, 6, 5, 2, 1, 0] [(0, .pointer (pB m)), (3, .pointer (pB b1)), (5, iq (i : Int)), (21, .pointer (pB m)), (22, iq (i : Int)), (24, iq W), (26, iq (i : Int)), (28, iq W)] (by kernel_rfl) (pok_then (pok_blk (pok_then (pok_then (pok_blk (pok_then pok_body)))))) (by kernel_rfl) rfl rfl (by kernel_rfl) (by kernel_rfl) ?_
  refine sem_take 0 [] 4 7 25 (bopS .rem 3 (.tmp 22) (.tmp 24) (iq (i : Int)) (iq W)) (iq ((i : Int).tmod W)) (by kernel_rfl) (pok_then (pok_blk (pok_then (pok_then (pok_blk (pok_then pok_body)))))) (by kernel_rfl) rfl (by kernel_rfl) (by kernel_rfl) (fun w hT => run_rem (by omega) w) ?_
  refine cont_recast 25 (iq ((i : Int).tmod W)) (iq ((i : Int) % W)) rfl (tmodI (by omega)) ?_
  refine sem_take 0 [] 8 6 29 (bopS .quo 3 (.tmp 26) (.tmp 28) (iq (i : Int)) (iq W)) (iq (IntKind.i64.wrap ((i : Int).tdiv W))) (by kernel_rfl) (pok_then (pok_blk (pok_then (pok_then (pok_blk (pok_then pok_body)))))) (by kernel_rfl) rfl (by kernel_rfl) (by kernel_rfl) (fun w hT => run_quo (by omega) w) ?_
  refine cont_recast 29 (iq (IntKind.i64.wrap ((i : Int).tdiv W))) (iq ((i : Int) / W)) rfl (tdivI (by omega) (by omega) (by omega)) ?_
  refine drawn_one 9 5 rfl (by kernel_rfl) ?_
  refine call_pure (d := 30) (.tuple #[.int .u32 (atC W H px ((i : Int) % W) ((i : Int) / W)), .bool (hasB 0 0 W H ((i : Int) % W) ((i : Int) / W))]) (by kernel_rfl) (fun w hT => imgAt m W H r n cap px ((i : Int) % W) ((i : Int) / W) w ⟨hT.ok 1 _ rfl, hT.ok 2 _ rfl, by omega⟩ hok) ?_
  refine drawn_next 0 [] (by kernel_rfl) ?_
  refine takes 0 [] [(10, 0), (11, 0), (12, 0), (13, 0), (14, 0)] 0 [14, 13, 12, 11, 10, 9, 8, 4, 7, 3, 6, 5, 2, 1, 0] [(0, .pointer (pB m)), (3, .pointer (pB b1)), (5, iq (i : Int)), (6, .int .u32 (atC W H px ((i : Int) % W) ((i : Int) / W))), (7, .bool (hasB 0 0 W H ((i : Int) % W) ((i : Int) / W)))] (by kernel_rfl) (pok_then (pok_blk (pok_then (pok_then (pok_blk (pok_then pok_body)))))) (by kernel_rfl) rfl rfl (by kernel_rfl) (by kernel_rfl) ?_
  refine drawn_done (by kernel_rfl) ?_
  refine then_normal ?_
  refine cont_seq ?_
  refine cont_region 11 rfl ?_
  refine bS [0, 0, 0] 3 8 [(0, .pointer (pB m)), (3, .pointer (pB b1)), (5, iq (i : Int)), (6, .int .u32 (atC W H px ((i : Int) % W) ((i : Int) / W))), (35, .bool (!(hasB 0 0 W H ((i : Int) % W) ((i : Int) / W))))] ?_
  refine cont_recast 35 (.bool (!(hasB 0 0 W H ((i : Int) % W) ((i : Int) / W)))) (.bool false) rfl (congrArg Value.bool (by rw [in_box hw1 hnum (by omega)]; rfl)) ?_
  refine bS [0, 0, 0, 0] 7 4 [(0, .pointer (pB m)), (3, .pointer (pB b1)), (5, iq (i : Int)), (35, .bool false), (36, .int .u32 (atC W H px ((i : Int) % W) ((i : Int) / W))), (37, .pointer (some ⟨b1, 2, none⟩)), (38, .slice (some ⟨r', 0, none⟩) n' cap'), (39, iq (i : Int))] ?_
  refine pl_step 8 3 rfl rfl ?_
  refine sem_step 40 (Instr.indexAt 35 (.slice (some ⟨r', 0, none⟩) n' cap') (iq (i : Int))) (.pointer (some ⟨r', i, none⟩)) (by kernel_rfl) (fun w hT => run_indexAt (e := 28) (sz := 1) _ (by kernel_rfl) (by kernel_rfl) (by omega) (by omega) (by omega) w) ?_
  refine pl_step 9 2 rfl rfl ?_
  refine sem_step 41 (Instr.loadAt 28 (.pointer (some ⟨r', i, none⟩))) (.int .u32 (px.getD i 0)) (by kernel_rfl) (fun w hT => run_load1 (by kernel_rfl) (Rd.cell0 (hT.ok 3 _ rfl) (i) _ (ivals_get (by omega)))) ?_
  refine bS [0, 0] 11 0 [(0, .pointer (pB m)), (3, .pointer (pB b1)), (5, iq (i : Int)), (36, .int .u32 (atC W H px ((i : Int) % W) ((i : Int) / W))), (37, .pointer (some ⟨b1, 2, none⟩)), (38, .slice (some ⟨r', 0, none⟩) n' cap'), (39, iq (i : Int)), (40, .pointer (some ⟨r', i, none⟩)), (41, .int .u32 (px.getD i 0)), (42, .bool ((atC W H px ((i : Int) % W) ((i : Int) / W)) != (px.getD i 0))), (43, .bool ((atC W H px ((i : Int) % W) ((i : Int) / W)) != (px.getD i 0)))] ?_
  refine cont_done ?_
  refine then_normal ?_
  refine cont_recast 43 (.bool ((atC W H px ((i : Int) % W) ((i : Int) / W)) != (px.getD i 0))) (.bool false) rfl (congrArg Value.bool (by rw [atC_at px hw1 hnum (by omega)]; simp)) ?_
  refine cont_recast 42 (.bool ((atC W H px ((i : Int) % W) ((i : Int) / W)) != (px.getD i 0))) (.bool false) rfl (congrArg Value.bool (by rw [atC_at px hw1 hnum (by omega)]; simp)) ?_
  refine cont_false rfl ?_
  refine cont_skip ?_
  refine blk_normal ?_
  refine then_normal ?_
  refine cont_region 3 rfl ?_
  refine bS [0, 0] 2 1 [(0, .pointer (pB m)), (3, .pointer (pB b1)), (19, iq (IntKind.i64.wrap ((i : Int) + 1))), (36, .int .u32 (atC W H px ((i : Int) % W) ((i : Int) / W))), (37, .pointer (some ⟨b1, 2, none⟩)), (38, .slice (some ⟨r', 0, none⟩) n' cap'), (39, iq (i : Int)), (40, .pointer (some ⟨r', i, none⟩)), (41, .int .u32 (px.getD i 0)), (42, .bool false)] ?_
  refine cont_recast 19 (iq (IntKind.i64.wrap ((i : Int) + 1))) (iq ((i : Int) + 1)) rfl (wrapI (by omega) (by omega)) ?_
  refine bS [0] 3 0 [(0, .pointer (pB m)), (3, .pointer (pB b1)), (5, iq ((i : Int) + 1)), (36, .int .u32 (atC W H px ((i : Int) % W) ((i : Int) / W))), (37, .pointer (some ⟨b1, 2, none⟩)), (38, .slice (some ⟨r', 0, none⟩) n' cap'), (39, iq (i : Int)), (40, .pointer (some ⟨r', i, none⟩)), (41, .int .u32 (px.getD i 0)), (42, .bool false)] ?_
  refine cont_done ?_
  refine then_normal ?_
  refine cont_again (i + 1) (show (i + 1) ≤ n' from (by omega)) (show n' - (i + 1) < n' - i from by omega) (by kernel_rfl) (by kernel_rfl)
 replace c5_ := of_decide_eq_false c5_
 refine cont_false rfl ?_
 refine cont_exit ?_
 refine then_exit ?_
 refine then_exit ?_
 refine blk_exit ?_
 refine then_normal ?_
 refine cont_seq ?_
 refine cont_region 1 rfl ?_
 refine bS [0] 1 0 [(4, .bool true)] ?_
 refine cont_forget 0 rfl ?_
 refine cont_done ?_
 refine then_normal ?_
 refine cont_ret ?_
 refine ret_one (.inl rfl) rfl 0 (.bool true) (by kernel_rfl) (by kernel_rfl) (fun w hT => ?_)
 exact ⟨rfl, hT.post rfl⟩

theorem refHas (a b c d x y : Int) (w : World) :
    Calls Try.prog 27 #[.agg #[.int .i64 a, .int .i64 b, .int .i64 c, .int .i64 d], .int .i64 x, .int .i64 y] w fun e w' => e = .returned (.bool (hasB a b c d x y)) ∧ Below w.heap.size w w' := by
 refine enter 29 [(0, .agg #[iq a, iq b, iq c, iq d]), (1, iq x), (2, iq y)] [] Try.func27 rfl Try.ntmps27 rfl (by kernel_rfl) (Tab.start w) ?_
 refine cont_seq ?_
 refine cont_region 2 rfl ?_
 refine batch1 [0, 0] 2 0 (fun b1 => [(1, iq x), (2, iq y), (3, .pointer (pB b1))]) (fun b1 => [.cells b1 [iq a, iq b, iq c, iq d] 32 true]) rfl rfl [1, 2, 3] (fun _ => rfl) (fun b1 => by kernel_rfl) (fun b1 => by kernel_rfl) (fun b1 => ?_)
 refine cont_done ?_
 refine then_normal ?_
 refine cont_seq ?_
 refine cont_region 23 rfl ?_
 refine bS [0, 0, 0, 0, 0] 5 18 [(1, iq x), (2, iq y), (3, .pointer (pB b1)), (11, .bool (decide (a ≤ x)))] ?_
 refine cont_split 11 (decide (a ≤ x)) rfl (fun c2_ => ?_) (fun c2_ => ?_)
 ·
  replace c2_ := of_decide_eq_true c2_
  refine bS [0, 0, 0, 0, 0, 0] 11 12 [(2, iq y), (3, .pointer (pB b1)), (17, .bool (decide (x < c)))] ?_
  refine cont_split 17 (decide (x < c)) rfl (fun c3_ => ?_) (fun c3_ => ?_)
  ·
   replace c3_ := of_decide_eq_true c3_
   refine bS [0, 0, 0, 0, 0, 0] 17 6 [(2, iq y), (3, .pointer (pB b1)), (23, .bool (decide (b ≤ y)))] ?_
   refine cont_split 23 (decide (b ≤ y)) rfl (fun c4_ => ?_) (fun c4_ => ?_)
   ·
    replace c4_ := of_decide_eq_true c4_
    refine bS [0, 0, 0, 0, 0, 0] 23 0 [(6, .bool (decide (y < d)))] ?_
    refine cont_forget 0 rfl ?_
    refine cont_done ?_
    refine then_normal ?_
    refine cont_ret ?_
    refine ret_one (.inl rfl) rfl 0 (.bool (decide (y < d))) (by kernel_rfl) (by kernel_rfl) (fun w hT => ?_)
    exact ⟨ret_bool (by simp [hasB, *] <;> omega), hT.post rfl⟩
   replace c4_ := of_decide_eq_false c4_
   refine bS [0, 0, 0, 0, 0, 0] 23 0 [(6, .bool false)] ?_
   refine cont_forget 0 rfl ?_
   refine cont_done ?_
   refine then_normal ?_
   refine cont_ret ?_
   refine ret_one (.inl rfl) rfl 0 (.bool false) (by kernel_rfl) (by kernel_rfl) (fun w hT => ?_)
   exact ⟨ret_bool (by simp [hasB, *] <;> omega), hT.post rfl⟩
  replace c3_ := of_decide_eq_false c3_
  refine bS [0, 0, 0, 0, 0, 0, 0, 0, 0, 0, 0, 0] 23 0 [(6, .bool false)] ?_
  refine cont_forget 0 rfl ?_
  refine cont_done ?_
  refine then_normal ?_
  refine cont_ret ?_
  refine ret_one (.inl rfl) rfl 0 (.bool false) (by kernel_rfl) (by kernel_rfl) (fun w hT => ?_)
  exact ⟨ret_bool (by simp [hasB, *] <;> omega), hT.post rfl⟩
 replace c2_ := of_decide_eq_false c2_
 refine bS [0, 0, 0, 0, 0, 0, 0, 0, 0, 0, 0, 0, 0, 0, 0, 0, 0, 0] 23 0 [(6, .bool false)] ?_
 refine cont_forget 0 rfl ?_
 refine cont_done ?_
 refine then_normal ?_
 refine cont_ret ?_
 refine ret_one (.inl rfl) rfl 0 (.bool false) (by kernel_rfl) (by kernel_rfl) (fun w hT => ?_)
 exact ⟨ret_bool (by simp [hasB, *] <;> omega), hT.post rfl⟩

theorem refMay (c : Int) (w : World) (h0 : 0 ≤ c) (h1 : c < 4294967296) :
    Calls Try.prog 57 #[.int .u32 c] w fun e w' => e = .returned (.bool (mayB c)) ∧ Below w.heap.size w w' := by
 refine enter 25 [(0, .int .u32 c)] [] Try.func57 rfl Try.ntmps57 rfl (by kernel_rfl) (Tab.start w) ?_
 refine cont_seq ?_
 refine cont_region 1 rfl ?_
 refine bS [0] 1 0 [(0, .int .u32 c)] ?_
 refine cont_done ?_
 refine then_normal ?_
 refine cont_seq ?_
 refine cont_region 4 rfl ?_
 refine bS [0] 1 3 [(4, .int .u32 c)] ?_
 refine pl_step 2 2 rfl rfl ?_
 refine call_pure (d := 5) (.agg #[iq (pa c), iq (pr c), iq (pg c), iq (pb c)]) (by kernel_rfl) (fun w hT => refParts c w (by omega) (by omega)) ?_
 refine batch1 [0, 0] 4 0 (fun b1 => [(3, .pointer (pB b1))]) (fun b1 => [.cells b1 [iq (pa c), iq (pr c), iq (pg c), iq (pb c)] 86 true]) rfl rfl [3] (fun _ => rfl) (fun b1 => by kernel_rfl) (fun b1 => by kernel_rfl) (fun b1 => ?_)
 refine cont_done ?_
 refine then_normal ?_
 refine cont_seq ?_
 refine cont_region 20 rfl ?_
 refine bS [0, 0, 0, 0, 0, 0] 6 14 [(3, .pointer (pB b1)), (11, .bool (decide ((pr c) ≤ (pa c))))] ?_
 refine cont_split 11 (decide ((pr c) ≤ (pa c))) rfl (fun c2_ => ?_) (fun c2_ => ?_)
 ·
  replace c2_ := of_decide_eq_true c2_
  refine bS [0, 0, 0, 0, 0, 0, 0] 13 7 [(3, .pointer (pB b1)), (18, .bool (decide ((pg c) ≤ (pa c))))] ?_
  refine cont_split 18 (decide ((pg c) ≤ (pa c))) rfl (fun c3_ => ?_) (fun c3_ => ?_)
  ·
   replace c3_ := of_decide_eq_true c3_
   refine bS [0, 0, 0, 0, 0, 0, 0] 20 0 [(2, .bool (decide ((pb c) ≤ (pa c))))] ?_
   refine cont_forget 0 rfl ?_
   refine cont_done ?_
   refine then_normal ?_
   refine cont_ret ?_
   refine ret_one (.inl rfl) rfl 0 (.bool (decide ((pb c) ≤ (pa c)))) (by kernel_rfl) (by kernel_rfl) (fun w hT => ?_)
   exact ⟨ret_bool (by simp [mayB, *] <;> omega), hT.post rfl⟩
  replace c3_ := of_decide_eq_false c3_
  refine bS [0, 0, 0, 0, 0, 0, 0] 20 0 [(2, .bool false)] ?_
  refine cont_forget 0 rfl ?_
  refine cont_done ?_
  refine then_normal ?_
  refine cont_ret ?_
  refine ret_one (.inl rfl) rfl 0 (.bool false) (by kernel_rfl) (by kernel_rfl) (fun w hT => ?_)
  exact ⟨ret_bool (by simp [mayB, *] <;> omega), hT.post rfl⟩
 replace c2_ := of_decide_eq_false c2_
 refine bS [0, 0, 0, 0, 0, 0, 0, 0, 0, 0, 0, 0, 0, 0] 20 0 [(2, .bool false)] ?_
 refine cont_forget 0 rfl ?_
 refine cont_done ?_
 refine then_normal ?_
 refine cont_ret ?_
 refine ret_one (.inl rfl) rfl 0 (.bool false) (by kernel_rfl) (by kernel_rfl) (fun w hT => ?_)
 exact ⟨ret_bool (by simp [mayB, *] <;> omega), hT.post rfl⟩

theorem refAt (W H : Int) (r n cap : Nat) (px : List Int) (x y : Int) (w : World) (hT0 : Tab w w [.gen (rdE (some ⟨r, 0, none⟩) r 0 n 1 (ivals .u32 px))]) (hok : ImgOk W H n px) :
    Calls Try.prog 26 #[.agg #[.int .i64 W, .int .i64 H, .slice (some ⟨r, 0, none⟩) n cap], .int .i64 x, .int .i64 y] w fun e w' => e = .returned (.tuple #[.int .u32 (atC W H px x y), .bool (hasB 0 0 W H x y)]) ∧ Below w.heap.size w w' := by
 have hw1 := hok.w1
 have hw2 := hok.w2
 have hh1 := hok.h1
 have hh2 := hok.h2
 have hnum := hok.num
 have hlen := hok.len
 have hle := hok.le
 refine enter 36 [(0, .agg #[iq W, iq H, .slice (pB r) n cap]), (1, iq x), (2, iq y)] [.gen (rdE (pB r) r 0 n 1 (ivals .u32 px))] Try.func26 rfl Try.ntmps26 rfl (by kernel_rfl) hT0 ?_
 refine cont_seq ?_
 refine cont_region 3 rfl ?_
 refine batch1 [0, 0, 0] 3 0 (fun b1 => [(1, iq x), (2, iq y), (3, .pointer (pB b1))]) (fun b1 => [.cells b1 [iq W, iq H, .slice (pB r) n cap] 37 true, .gen (rdE (pB r) r 0 n 1 (ivals .u32 px))]) rfl rfl [1, 2, 3] (fun _ => rfl) (fun b1 => by kernel_rfl) (fun b1 => by kernel_rfl) (fun b1 => ?_)
 refine cont_done ?_
 refine then_normal ?_
 refine cont_seq ?_
 refine cont_seq ?_
 refine cont_region 18 rfl ?_
 refine bS [0, 0, 0] 3 15 [(1, iq x), (2, iq y), (3, .pointer (pB b1)), (10, .bool (decide (x < 0)))] ?_
 refine cont_split 10 (decide (x < 0)) rfl (fun c2_ => ?_) (fun c2_ => ?_)
 ·
  replace c2_ := of_decide_eq_true c2_
  refine bS [0, 0, 0, 0, 0, 0, 0, 0, 0, 0, 0, 0, 0, 0, 0] 18 0 [(1, iq x), (2, iq y), (3, .pointer (pB b1)), (25, .bool true)] ?_
  refine cont_done ?_
  refine then_normal ?_
  refine cont_true rfl ?_
  refine cont_seq ?_
  refine cont_region 2 rfl ?_
  refine bS [0, 0] 2 0 [(6, .int .u32 0), (7, .bool false)] ?_
  refine cont_forget 0 rfl ?_
  refine cont_done ?_
  refine then_normal ?_
  refine cont_ret ?_
  refine then_ret ?_
  refine ret_two (.inl rfl) rfl 0 0 (.int .u32 0) (.bool false) (by kernel_rfl) (by kernel_rfl) (by kernel_rfl) (by kernel_rfl) (fun w hT => ?_)
  refine ⟨?_, hT.post rfl⟩
  rw [show hasB 0 0 W H x y = false from hasB_no (by omega), show atC W H px x y = 0 from by unfold atC; rw [hasB_no (by omega)]; rfl]
 replace c2_ := of_decide_eq_false c2_
 refine bS [0, 0, 0, 0] 7 11 [(1, iq x), (2, iq y), (3, .pointer (pB b1)), (14, .bool (decide (y < 0)))] ?_
 refine cont_split 14 (decide (y < 0)) rfl (fun c3_ => ?_) (fun c3_ => ?_)
 ·
  replace c3_ := of_decide_eq_true c3_
  refine bS [0, 0, 0, 0, 0, 0, 0, 0, 0, 0, 0] 18 0 [(1, iq x), (2, iq y), (3, .pointer (pB b1)), (25, .bool true)] ?_
  refine cont_done ?_
  refine then_normal ?_
  refine cont_true rfl ?_
  refine cont_seq ?_
  refine cont_region 2 rfl ?_
  refine bS [0, 0] 2 0 [(6, .int .u32 0), (7, .bool false)] ?_
  refine cont_forget 0 rfl ?_
  refine cont_done ?_
  refine then_normal ?_
  refine cont_ret ?_
  refine then_ret ?_
  refine ret_two (.inl rfl) rfl 0 0 (.int .u32 0) (.bool false) (by kernel_rfl) (by kernel_rfl) (by kernel_rfl) (by kernel_rfl) (fun w hT => ?_)
  refine ⟨?_, hT.post rfl⟩
  rw [show hasB 0 0 W H x y = false from hasB_no (by omega), show atC W H px x y = 0 from by unfold atC; rw [hasB_no (by omega)]; rfl]
 replace c3_ := of_decide_eq_false c3_
 refine bS [0, 0, 0, 0, 0, 0] 13 5 [(1, iq x), (2, iq y), (3, .pointer (pB b1)), (20, .bool (decide (x ≥ W)))] ?_
 refine cont_split 20 (decide (x ≥ W)) rfl (fun c4_ => ?_) (fun c4_ => ?_)
 ·
  replace c4_ := of_decide_eq_true c4_
  refine bS [0, 0, 0, 0, 0] 18 0 [(1, iq x), (2, iq y), (3, .pointer (pB b1)), (25, .bool true)] ?_
  refine cont_done ?_
  refine then_normal ?_
  refine cont_true rfl ?_
  refine cont_seq ?_
  refine cont_region 2 rfl ?_
  refine bS [0, 0] 2 0 [(6, .int .u32 0), (7, .bool false)] ?_
  refine cont_forget 0 rfl ?_
  refine cont_done ?_
  refine then_normal ?_
  refine cont_ret ?_
  refine then_ret ?_
  refine ret_two (.inl rfl) rfl 0 0 (.int .u32 0) (.bool false) (by kernel_rfl) (by kernel_rfl) (by kernel_rfl) (by kernel_rfl) (fun w hT => ?_)
  refine ⟨?_, hT.post rfl⟩
  rw [show hasB 0 0 W H x y = false from hasB_no (by omega), show atC W H px x y = 0 from by unfold atC; rw [hasB_no (by omega)]; rfl]
 replace c4_ := of_decide_eq_false c4_
 refine bS [0, 0, 0, 0, 0] 18 0 [(1, iq x), (2, iq y), (3, .pointer (pB b1)), (25, .bool (decide (y ≥ H)))] ?_
 refine cont_done ?_
 refine then_normal ?_
 refine cont_split 25 (decide (y ≥ H)) rfl (fun c5_ => ?_) (fun c5_ => ?_)
 ·
  replace c5_ := of_decide_eq_true c5_
  refine cont_true rfl ?_
  refine cont_seq ?_
  refine cont_region 2 rfl ?_
  refine bS [0, 0] 2 0 [(6, .int .u32 0), (7, .bool false)] ?_
  refine cont_forget 0 rfl ?_
  refine cont_done ?_
  refine then_normal ?_
  refine cont_ret ?_
  refine then_ret ?_
  refine ret_two (.inl rfl) rfl 0 0 (.int .u32 0) (.bool false) (by kernel_rfl) (by kernel_rfl) (by kernel_rfl) (by kernel_rfl) (fun w hT => ?_)
  refine ⟨?_, hT.post rfl⟩
  rw [show hasB 0 0 W H x y = false from hasB_no (by omega), show atC W H px x y = 0 from by unfold atC; rw [hasB_no (by omega)]; rfl]
 replace c5_ := of_decide_eq_false c5_
 refine cont_false rfl ?_
 refine cont_skip ?_
 refine then_normal ?_
 refine cont_seq ?_
 refine cont_region 12 rfl ?_
 have hpl := hok.place (x := x) (y := y) (by omega) (by omega) (by omega) (by omega)
 refine bS [0, 0, 0, 0, 0, 0] 6 6 [(1, iq x), (27, .slice (pB r) n cap), (31, iq (IntKind.i64.wrap (y * W)))] ?_
 refine cont_recast 31 (iq (IntKind.i64.wrap (y * W))) (iq (y * W)) rfl (wrapI (by omega) (by omega)) ?_
 refine cont_forget 0 rfl ?_
 refine bS [0, 0] 8 4 [(27, .slice (pB r) n cap), (33, iq (IntKind.i64.wrap ((y * W) + x)))] ?_
 refine cont_recast 33 (iq (IntKind.i64.wrap ((y * W) + x))) (iq ((y * W) + x)) rfl (wrapI (by omega) (by omega)) ?_
 refine pl_step 9 3 rfl rfl ?_
 refine sem_step 34 (Instr.indexAt 35 (.slice (pB r) n cap) (iq ((y * W) + x))) (.pointer (some ⟨r, Int.toNat ((y * W) + x), none⟩)) (by kernel_rfl) (fun w hT => run_indexAt (e := 28) (sz := 1) _ (by kernel_rfl) (by kernel_rfl) (by omega) (by omega) (by omega) w) ?_
 refine pl_step 10 2 rfl rfl ?_
 refine sem_step 35 (Instr.loadAt 28 (.pointer (some ⟨r, Int.toNat ((y * W) + x), none⟩))) (.int .u32 (px.getD (Int.toNat ((y * W) + x)) 0)) (by kernel_rfl) (fun w hT => run_load1 (by kernel_rfl) (Rd.cell0 (hT.ok 0 _ rfl) (Int.toNat ((y * W) + x)) _ (ivals_get (by omega)))) ?_
 refine bS [0, 0] 12 0 [(6, .int .u32 (px.getD (Int.toNat ((y * W) + x)) 0)), (7, .bool true)] ?_
 refine cont_done ?_
 refine then_normal ?_
 refine cont_ret ?_
 refine ret_two (.inl rfl) rfl 0 0 (.int .u32 (px.getD (Int.toNat ((y * W) + x)) 0)) (.bool true) (by kernel_rfl) (by kernel_rfl) (by kernel_rfl) (by kernel_rfl) (fun w hT => ?_)
 refine ⟨?_, hT.post rfl⟩
 rw [show hasB 0 0 W H x y = true from hasB_true.2 (by omega), show atC W H px x y = px.getD (Int.toNat ((y * W) + x)) 0 from by unfold atC; rw [hasB_true.2 (by omega)]; rfl]

theorem refFill (W H : Int) (r n cap : Nat) (px : List Int) (a b c d col : Int) (w : World) (hT0 : Tab w w [.gen (rdE (some ⟨r, 0, none⟩) r 0 n 1 (ivals .u32 px))]) (hok : ImgOk W H n px) (hmay : mayB col = true ∧ InC col) :
    Calls Try.prog 31 #[.agg #[.int .i64 W, .int .i64 H, .slice (some ⟨r, 0, none⟩) n cap], .agg #[.int .i64 a, .int .i64 b, .int .i64 c, .int .i64 d], .int .u32 col] w fun e w' => ∃ (g cp : Nat), e = .returned (.tuple #[.agg #[.int .i64 W, .int .i64 H, .slice (some ⟨g, 0, none⟩) n cp], .int .i64 (cntP W a b c d n)]) ∧ Tab w w' [.gen (rowE (some ⟨g, 0, none⟩) g n cp 28 1 (ivals .u32 (fillP W px a b c d col)) true)] := by
 have hw1 := hok.w1
 have hw2 := hok.w2
 have hh1 := hok.h1
 have hh2 := hok.h2
 have hnum := hok.num
 have hlen := hok.len
 have hle := hok.le
 obtain ⟨hmay, hc0, hc1⟩ := hmay
 refine enter 52 [(0, .agg #[iq W, iq H, .slice (pB r) n cap]), (1, .agg #[iq a, iq b, iq c, iq d]), (2, .int .u32 col)] [.gen (rdE (pB r) r 0 n 1 (ivals .u32 px))] Try.func31 rfl Try.ntmps31 rfl (by kernel_rfl) hT0 ?_
 refine cont_seq ?_
 refine cont_region 4 rfl ?_
 refine batch3 [0, 0, 0, 0] 4 0 (fun b1 b2 b3 => [(2, .int .u32 col), (3, .pointer (pB b1)), (4, .pointer (pB b2)), (6, .pointer (pB b3))]) (fun b1 b2 b3 => [.cells b3 [iq 0, iq 0, .slice none 0 0] 37 true, .cells b2 [iq a, iq b, iq c, iq d] 32 true, .cells b1 [iq W, iq H, .slice (pB r) n cap] 37 true, .gen (rdE (pB r) r 0 n 1 (ivals .u32 px))]) rfl rfl [2, 3, 4, 6] (fun _ _ _ => rfl) (fun b1 b2 b3 => by kernel_rfl) (fun b1 b2 b3 => by kernel_rfl) (fun b1 b2 b3 => ?_)
 refine cont_done ?_
 refine then_normal ?_
 refine cont_seq ?_
 refine cont_region 3 rfl ?_
 refine bS [0] 1 2 [(2, .int .u32 col), (3, .pointer (pB b1)), (4, .pointer (pB b2)), (6, .pointer (pB b3)), (12, .int .u32 col)] ?_
 refine pl_step 2 1 rfl rfl ?_
 refine call_pure (d := 13) (.bool (mayB col)) (by kernel_rfl) (fun w hT => refMay col w (by omega) (by omega)) ?_
 refine bS [0] 3 0 [(2, .int .u32 col), (3, .pointer (pB b1)), (4, .pointer (pB b2)), (6, .pointer (pB b3)), (8, .bool (mayB col))] ?_
 refine cont_done ?_
 refine then_normal ?_
 refine cont_seq ?_
 refine cont_seq ?_
 refine cont_region 2 rfl ?_
 refine bS [0, 0] 2 0 [(2, .int .u32 col), (3, .pointer (pB b1)), (4, .pointer (pB b2)), (6, .pointer (pB b3)), (15, .bool (!(mayB col)))] ?_
 refine cont_done ?_
 refine then_normal ?_
 refine cont_recast 15 (.bool (!(mayB col))) (.bool false) rfl (congrArg Value.bool (by rw [hmay]; rfl)) ?_
 refine cont_false rfl ?_
 refine cont_skip ?_
 refine then_normal ?_
 refine cont_seq ?_
 refine cont_region 1 rfl ?_
 refine bS [0] 1 0 [(2, .int .u32 col), (3, .pointer (pB b1)), (4, .pointer (pB b2)), (6, .pointer (pB b3)), (9, .slice none 0 0)] ?_
 refine cont_done ?_
 refine then_normal ?_
 refine cont_seq ?_
 refine cont_region 1 rfl ?_
 refine bS [0] 1 0 [(2, .int .u32 col), (3, .pointer (pB b1)), (4, .pointer (pB b2)), (6, .pointer (pB b3)), (9, .slice none 0 0), (10, iq 0)] ?_
 refine cont_done ?_
 refine then_normal ?_
 refine cont_seq ?_
 refine cont_seq ?_
 refine cont_region 1 rfl ?_
 refine bS [0] 1 0 [(2, .int .u32 col), (3, .pointer (pB b1)), (4, .pointer (pB b2)), (6, .pointer (pB b3)), (9, .slice none 0 0), (10, iq 0), (11, iq 0)] ?_
 refine cont_done ?_
 refine then_normal ?_
 refine cont_block ?_
 refine cont_nilrow 28 1 ?_
 refine cont_norm [(2, .int .u32 col), (3, .pointer (pB b1)), (4, .pointer (pB b2)), (6, .pointer (pB b3)), (9, .slice none 0 0), (10, iq 0), (11, iq 0)] _ (by kernel_rfl) rfl ?_
 refine cont_rowEq (k := .u32) 0 ([]) ((fillP W px a b c d col).take 0) rfl (by simp) ?_
 refine cont_loop (α := Nat × Option Addr × Nat × Nat) (fun x_ : Nat × Option Addr × Nat × Nat => x_.1 ≤ n) (fun x_ : Nat × Option Addr × Nat × Nat => [(2, .int .u32 col), (3, .pointer (pB b1)), (4, .pointer (pB b2)), (6, .pointer (pB b3)), (9, .slice x_.2.1 x_.1 x_.2.2.2), (10, iq (cntP W a b c d x_.1)), (11, iq (x_.1 : Int))]) (fun x_ : Nat × Option Addr × Nat × Nat => [.gen (rowE (x_.2.1) x_.2.2.1 x_.1 x_.2.2.2 28 1 (ivals .u32 ((fillP W px a b c d col).take x_.1)) true), .cells b3 [iq 0, iq 0, .slice none 0 0] 37 true, .cells b2 [iq a, iq b, iq c, iq d] 32 true, .cells b1 [iq W, iq H, .slice (pB r) n cap] 37 true, .gen (rdE (pB r) r 0 n 1 (ivals .u32 px))]) (fun x_ : Nat × Option Addr × Nat × Nat => n - x_.1) (0, none, 0, 0) (show (0) ≤ n from (by omega)) (by kernel_rfl) (by kernel_rfl) ?_
 rintro ⟨i, A, g, cp⟩ hinv6_
 replace hinv6_ : i ≤ n := hinv6_
 refine cont_norm [(2, .int .u32 col), (3, .pointer (pB b1)), (4, .pointer (pB b2)), (6, .pointer (pB b3)), (9, .slice A i cp), (10, iq (cntP W a b c d i)), (11, iq (i : Int))] _ (by kernel_rfl) rfl ?_
 have hi := hinv6_
 have hem := emod_range i hw1
 have hcn := cntP_range W a b c d i
 refine cont_seq ?_
 refine cont_seq ?_
 refine cont_region 5 rfl ?_
 refine bS [0, 0, 3, 0, 0] 5 0 [(2, .int .u32 col), (3, .pointer (pB b1)), (4, .pointer (pB b2)), (6, .pointer (pB b3)), (9, .slice A i cp), (10, iq (cntP W a b c d i)), (11, iq (i : Int)), (21, .bool (decide ((i : Int) < (n : Int))))] ?_
 refine cont_done ?_
 refine then_normal ?_
 refine cont_split 21 (decide ((i : Int) < (n : Int))) rfl (fun c7_ => ?_) (fun c7_ => ?_)
 ·
  replace c7_ := of_decide_eq_true c7_
  refine cont_true rfl ?_
  refine cont_skip ?_
  refine then_normal ?_
  refine cont_seq ?_
  refine cont_block ?_
  refine cont_seq ?_
  refine drawn_enter 10 [] rfl (by kernel_rfl) ?_
  refine takes 0 [] [(0, 2), (1, 0), (2, 0), (5, 0), (6, 0), (3, 3), (7, 3)] 3 [7, 3, 6, 5, 2, 1, 0] [(2, .int .u32 col), (3, .pointer (pB b1)), (4, .pointer (pB b2)), (6, .pointer (pB b3)), (9, .slice A i cp), (10, iq (cntP W a b c d i)), (11, iq (i : Int)), (24, .agg #[iq a, iq b, iq c, iq d]), (25, iq (i : Int)), (27, iq W), (29, iq (i : Int)), (31, iq W)] (by kernel_rfl) (pok_then (pok_blk (pok_then (pok_then (pok_blk (pok_then pok_body)))))) (by kernel_rfl) rfl rfl (by kernel_rfl) (by kernel_rfl) ?_
  refine sem_take 0 [] 4 2 28 (bopS .rem 3 (.tmp 25) (.tmp 27) (iq (i : Int)) (iq W)) (iq ((i : Int).tmod W)) (by kernel_rfl) (pok_then (pok_blk (pok_then (pok_then (pok_blk (pok_then pok_body)))))) (by kernel_rfl) rfl (by kernel_rfl) (by kernel_rfl) (fun w hT => run_rem (by omega) w) ?_
  refine cont_recast 28 (iq ((i : Int).tmod W)) (iq ((i : Int) % W)) rfl (tmodI (by omega)) ?_
  refine sem_take 0 [] 8 1 32 (bopS .quo 3 (.tmp 29) (.tmp 31) (iq (i : Int)) (iq W)) (iq (IntKind.i64.wrap ((i : Int).tdiv W))) (by kernel_rfl) (pok_then (pok_blk (pok_then (pok_then (pok_blk (pok_then pok_body)))))) (by kernel_rfl) rfl (by kernel_rfl) (by kernel_rfl) (fun w hT => run_quo (by omega) w) ?_
  refine cont_recast 32 (iq (IntKind.i64.wrap ((i : Int).tdiv W))) (iq ((i : Int) / W)) rfl (tdivI (by omega) (by omega) (by omega)) ?_
  refine drawn_one 9 0 rfl (by kernel_rfl) ?_
  refine call_pure (d := 33) (.bool (hasB a b c d ((i : Int) % W) ((i : Int) / W))) (by kernel_rfl) (fun w hT => refHas a b c d ((i : Int) % W) ((i : Int) / W) w) ?_
  refine drawn_next 0 [] (by kernel_rfl) ?_
  refine drawn_done (by kernel_rfl) ?_
  refine then_normal ?_
  refine cont_split 33 (hasB a b c d ((i : Int) % W) ((i : Int) / W)) rfl (fun c8_ => ?_) (fun c8_ => ?_)
  ·
   have hcs : cntP W a b c d (i + 1) = cntP W a b c d i + 1 := by simp [cntP, c8_]
   refine cont_true rfl ?_
   refine cont_seq ?_
   refine cont_region 5 rfl ?_
   refine batch1 [0, 0, 0] 3 2 (fun b9 => [(2, .int .u32 col), (3, .pointer (pB b1)), (4, .pointer (pB b2)), (6, .pointer (pB b3)), (10, iq (cntP W a b c d i)), (11, iq (i : Int)), (34, .slice A i cp), (36, .slice (pB b9) 1 1)]) (fun b9 => [.cells b9 [.int .u32 col] 28 true, .gen (rowE (A) g i cp 28 1 (ivals .u32 ((fillP W px a b c d col).take i)) true), .cells b3 [iq 0, iq 0, .slice none 0 0] 37 true, .cells b2 [iq a, iq b, iq c, iq d] 32 true, .cells b1 [iq W, iq H, .slice (pB r) n cap] 37 true, .gen (rdE (pB r) r 0 n 1 (ivals .u32 px))]) rfl rfl [2, 3, 4, 6, 10, 11, 34, 36] (fun _ => rfl) (fun b9 => by kernel_rfl) (fun b9 => by kernel_rfl) (fun b9 => ?_)
   refine pl_step 4 1 rfl rfl ?_
   refine sem_stepW (α := Option Addr × Nat × Nat) 37 (Builtin.append_ #[35, 35] 35 #[.slice A i cp, .slice (pB b9) 1 1]) (fun x_ => .slice x_.1 (i + 1) x_.2.2) (fun x_ => [.cells b9 [.int .u32 col] 28 true, .gen (rowE (x_.1) x_.2.1 (i + 1) x_.2.2 28 1 (ivals .u32 (((fillP W px a b c d col).take i) ++ [col])) true), .cells b3 [iq 0, iq 0, .slice none 0 0] 37 true, .cells b2 [iq a, iq b, iq c, iq d] 32 true, .cells b1 [iq W, iq H, .slice (pB r) n cap] 37 true, .gen (rdE (pB r) r 0 n 1 (ivals .u32 px))]) (fun _ => True) (by kernel_rfl) (fun w hT => append_own (n' := (i + 1)) (z := .int .u32 0) hT (i := 1) (bytes := 4) rfl (by kernel_rfl) (by kernel_rfl) rfl (by decide) (by decide) (Rd.ofCells (vals := ivals .u32 [col]) (hT.ok 0 _ rfl) rfl rfl) (ivals_one .u32 [col]) (by omega) (ivals_append .u32 ((fillP W px a b c d col).take i) [col]) rfl) ?_
   rintro ⟨A10, g10, cp10⟩ -
   refine cont_norm [(2, .int .u32 col), (3, .pointer (pB b1)), (4, .pointer (pB b2)), (6, .pointer (pB b3)), (10, iq (cntP W a b c d i)), (11, iq (i : Int)), (34, .slice A i cp), (36, .slice (pB b9) 1 1), (37, .slice A10 (i + 1) cp10)] _ (by kernel_rfl) rfl ?_
   refine cont_fact (F := (0 < (i + 1) → (A10 : Option Addr) = pB g10) ∧ (((fillP W px a b c d col).take i) ++ [col]).length = (i + 1) ∧ (i + 1) ≤ cp10 ∧ cp10 ≤ maxLen) (fun w hT => Row.facts (hT.ok 1 _ rfl)) (fun hr11_ => ?_)
   obtain ⟨hr11_a, hr11_l, hr11_c, hr11_m⟩ := hr11_
   unfold maxLen at hr11_m
   refine bS [0] 5 0 [(2, .int .u32 col), (3, .pointer (pB b1)), (4, .pointer (pB b2)), (6, .pointer (pB b3)), (9, .slice A10 (i + 1) cp10), (10, iq (cntP W a b c d i)), (11, iq (i : Int))] ?_
   refine cont_forget 0 rfl ?_
   refine cont_done ?_
   refine then_normal ?_
   refine cont_region 3 rfl ?_
   refine bS [0, 0] 2 1 [(2, .int .u32 col), (3, .pointer (pB b1)), (4, .pointer (pB b2)), (6, .pointer (pB b3)), (9, .slice A10 (i + 1) cp10), (11, iq (i : Int)), (39, iq (IntKind.i64.wrap ((cntP W a b c d i) + 1)))] ?_
   refine cont_recast 39 (iq (IntKind.i64.wrap ((cntP W a b c d i) + 1))) (iq (cntP W a b c d (i + 1))) rfl (by rw [hcs]; exact wrapI (by omega) (by omega)) ?_
   refine bS [0] 3 0 [(2, .int .u32 col), (3, .pointer (pB b1)), (4, .pointer (pB b2)), (6, .pointer (pB b3)), (9, .slice A10 (i + 1) cp10), (10, iq (cntP W a b c d (i + 1))), (11, iq (i : Int))] ?_
   refine cont_done ?_
   refine blk_normal ?_
   refine then_normal ?_
   refine cont_region 3 rfl ?_
   refine bS [0, 0] 2 1 [(2, .int .u32 col), (3, .pointer (pB b1)), (4, .pointer (pB b2)), (6, .pointer (pB b3)), (9, .slice A10 (i + 1) cp10), (10, iq (cntP W a b c d (i + 1))), (23, iq (IntKind.i64.wrap ((i : Int) + 1)))] ?_
   refine cont_recast 23 (iq (IntKind.i64.wrap ((i : Int) + 1))) (iq ((i : Int) + 1)) rfl (wrapI (by omega) (by omega)) ?_
   refine bS [0] 3 0 [(2, .int .u32 col), (3, .pointer (pB b1)), (4, .pointer (pB b2)), (6, .pointer (pB b3)), (9, .slice A10 (i + 1) cp10), (10, iq (cntP W a b c d (i + 1))), (11, iq ((i : Int) + 1))] ?_
   refine cont_done ?_
   refine then_normal ?_
   refine cont_rowEq (k := .u32) 0 (((fillP W px a b c d col).take i) ++ [col]) ((fillP W px a b c d col).take (i + 1)) rfl (by rw [← fillP_take (by omega), if_pos ‹_›]) ?_
   refine cont_again (i + 1, A10, g10, cp10) (show (i + 1) ≤ n from (by omega)) (show n - (i + 1) < n - i from by omega) (by kernel_rfl) (by kernel_rfl)
  have hcs : cntP W a b c d (i + 1) = cntP W a b c d i := by simp [cntP, c8_]
  refine cont_false rfl ?_
  refine cont_region 9 rfl ?_
  refine bS [0, 0, 3, 0] 4 5 [(2, .int .u32 col), (3, .pointer (pB b1)), (4, .pointer (pB b2)), (6, .pointer (pB b3)), (10, iq (cntP W a b c d i)), (11, iq (i : Int)), (40, .slice A i cp), (42, .slice (pB r) n cap), (43, iq (i : Int))] ?_
  refine pl_step 5 4 rfl rfl ?_
  refine sem_step 44 (Instr.indexAt 35 (.slice (pB r) n cap) (iq (i : Int))) (.pointer (some ⟨r, i, none⟩)) (by kernel_rfl) (fun w hT => run_indexAt (e := 28) (sz := 1) _ (by kernel_rfl) (by kernel_rfl) (by omega) (by omega) (by omega) w) ?_
  refine pl_step 6 3 rfl rfl ?_
  refine sem_step 45 (Instr.loadAt 28 (.pointer (some ⟨r, i, none⟩))) (.int .u32 (px.getD i 0)) (by kernel_rfl) (fun w hT => run_load1 (by kernel_rfl) (Rd.cell0 (hT.ok 4 _ rfl) (i) _ (ivals_get (by omega)))) ?_
  refine batch1 [0] 7 2 (fun b12 => [(2, .int .u32 col), (3, .pointer (pB b1)), (4, .pointer (pB b2)), (6, .pointer (pB b3)), (10, iq (cntP W a b c d i)), (11, iq (i : Int)), (40, .slice A i cp), (46, .slice (pB b12) 1 1)]) (fun b12 => [.cells b12 [.int .u32 (px.getD i 0)] 28 true, .gen (rowE (A) g i cp 28 1 (ivals .u32 ((fillP W px a b c d col).take i)) true), .cells b3 [iq 0, iq 0, .slice none 0 0] 37 true, .cells b2 [iq a, iq b, iq c, iq d] 32 true, .cells b1 [iq W, iq H, .slice (pB r) n cap] 37 true, .gen (rdE (pB r) r 0 n 1 (ivals .u32 px))]) rfl rfl [2, 3, 4, 6, 10, 11, 40, 46] (fun _ => rfl) (fun b12 => by kernel_rfl) (fun b12 => by kernel_rfl) (fun b12 => ?_)
  refine pl_step 8 1 rfl rfl ?_
  refine sem_stepW (α := Option Addr × Nat × Nat) 47 (Builtin.append_ #[35, 35] 35 #[.slice A i cp, .slice (pB b12) 1 1]) (fun x_ => .slice x_.1 (i + 1) x_.2.2) (fun x_ => [.cells b12 [.int .u32 (px.getD i 0)] 28 true, .gen (rowE (x_.1) x_.2.1 (i + 1) x_.2.2 28 1 (ivals .u32 (((fillP W px a b c d col).take i) ++ [px.getD i 0])) true), .cells b3 [iq 0, iq 0, .slice none 0 0] 37 true, .cells b2 [iq a, iq b, iq c, iq d] 32 true, .cells b1 [iq W, iq H, .slice (pB r) n cap] 37 true, .gen (rdE (pB r) r 0 n 1 (ivals .u32 px))]) (fun _ => True) (by kernel_rfl) (fun w hT => append_own (n' := (i + 1)) (z := .int .u32 0) hT (i := 1) (bytes := 4) rfl (by kernel_rfl) (by kernel_rfl) rfl (by decide) (by decide) (Rd.ofCells (vals := ivals .u32 [px.getD i 0]) (hT.ok 0 _ rfl) rfl rfl) (ivals_one .u32 [px.getD i 0]) (by omega) (ivals_append .u32 ((fillP W px a b c d col).take i) [px.getD i 0]) rfl) ?_
  rintro ⟨A13, g13, cp13⟩ -
  refine cont_norm [(2, .int .u32 col), (3, .pointer (pB b1)), (4, .pointer (pB b2)), (6, .pointer (pB b3)), (10, iq (cntP W a b c d i)), (11, iq (i : Int)), (40, .slice A i cp), (46, .slice (pB b12) 1 1), (47, .slice A13 (i + 1) cp13)] _ (by kernel_rfl) rfl ?_
  refine cont_fact (F := (0 < (i + 1) → (A13 : Option Addr) = pB g13) ∧ (((fillP W px a b c d col).take i) ++ [px.getD i 0]).length = (i + 1) ∧ (i + 1) ≤ cp13 ∧ cp13 ≤ maxLen) (fun w hT => Row.facts (hT.ok 1 _ rfl)) (fun hr14_ => ?_)
  obtain ⟨hr14_a, hr14_l, hr14_c, hr14_m⟩ := hr14_
  unfold maxLen at hr14_m
  refine bS [0] 9 0 [(2, .int .u32 col), (3, .pointer (pB b1)), (4, .pointer (pB b2)), (6, .pointer (pB b3)), (9, .slice A13 (i + 1) cp13), (10, iq (cntP W a b c d i)), (11, iq (i : Int))] ?_
  refine cont_forget 0 rfl ?_
  refine cont_done ?_
  refine blk_normal ?_
  refine then_normal ?_
  refine cont_region 3 rfl ?_
  refine bS [0, 0] 2 1 [(2, .int .u32 col), (3, .pointer (pB b1)), (4, .pointer (pB b2)), (6, .pointer (pB b3)), (9, .slice A13 (i + 1) cp13), (10, iq (cntP W a b c d i)), (23, iq (IntKind.i64.wrap ((i : Int) + 1)))] ?_
  refine cont_recast 23 (iq (IntKind.i64.wrap ((i : Int) + 1))) (iq ((i : Int) + 1)) rfl (wrapI (by omega) (by omega)) ?_
  refine bS [0] 3 0 [(2, .int .u32 col), (3, .pointer (pB b1)), (4, .pointer (pB b2)), (6, .pointer (pB b3)), (9, .slice A13 (i + 1) cp13), (10, iq (cntP W a b c d i)), (11, iq ((i : Int) + 1))] ?_
  refine cont_done ?_
  refine then_normal ?_
  refine cont_rowEq (k := .u32) 0 (((fillP W px a b c d col).take i) ++ [px.getD i 0]) ((fillP W px a b c d col).take (i + 1)) rfl (by rw [← fillP_take (by omega), if_neg (by simp [*])]) ?_
  refine cont_recast 10 (iq (cntP W a b c d i)) (iq (cntP W a b c d (i + 1))) rfl (congrArg (Value.int .i64) hcs.symm) ?_
  refine cont_again (i + 1, A13, g13, cp13) (show (i + 1) ≤ n from (by omega)) (show n - (i + 1) < n - i from by omega) (by kernel_rfl) (by kernel_rfl)
 replace c7_ := of_decide_eq_false c7_
 refine cont_false rfl ?_
 refine cont_exit ?_
 refine then_exit ?_
 refine then_exit ?_
 refine blk_exit ?_
 refine then_normal ?_
 refine cont_seq ?_
 refine cont_region 3 rfl ?_
 refine batch0 [0, 0, 3] 3 0 [(3, .pointer (pB b1)), (6, .pointer (pB b3)), (10, iq (cntP W a b c d i))] [.gen (rowE (A) g i cp 28 1 (ivals .u32 ((fillP W px a b c d col).take i)) true), .cells b3 [iq 0, iq 0, .slice none 0 0] 37 true, .cells b2 [iq a, iq b, iq c, iq d] 32 true, .cells b1 [iq W, iq H, .slice A i cp] 37 true, .gen (rdE (pB r) r 0 n 1 (ivals .u32 px))] rfl rfl (by kernel_rfl) (by kernel_rfl) ?_
 refine cont_forget 2 rfl ?_
 refine cont_done ?_
 refine then_normal ?_
 refine cont_seq ?_
 refine cont_region 4 rfl ?_
 refine batch0 [2, 0, 1, 0] 4 0 [(6, .pointer (pB b3)), (7, iq (cntP W a b c d i))] [.gen (rowE (A) g i cp 28 1 (ivals .u32 ((fillP W px a b c d col).take i)) true), .cells b3 [iq W, iq H, .slice A i cp] 37 true, .cells b1 [iq W, iq H, .slice A i cp] 37 true, .gen (rdE (pB r) r 0 n 1 (ivals .u32 px))] rfl rfl (by kernel_rfl) (by kernel_rfl) ?_
 refine cont_forget 2 rfl ?_
 refine cont_done ?_
 refine then_normal ?_
 refine cont_ret ?_
 refine ret_two (.inl rfl) rfl 1 0 (.agg #[iq W, iq H, .slice A i cp]) (iq (cntP W a b c d i)) (by kernel_rfl) (by kernel_rfl) (by kernel_rfl) (by kernel_rfl) (fun w hT => ?_)
 replace hT := hT.erase 2 (fun e h hw => by cases h; first | rfl | cases hw)
 replace hT := hT.erase 1 (fun e h hw => by cases h; first | rfl | cases hw)
 rw [fillP_full (by omega)] at hT
 have hin : i = n := by omega
 subst hin
 have hA := (Row.facts (hT.ok 0 _ rfl)).1 (by omega)
 subst hA
 exact ⟨_, _, rfl, hT⟩

theorem sliceClone (r n cap : Nat) (px : List Int) (w : World) (hT0 : Tab w w [.gen (rdE (some ⟨r, 0, none⟩) r 0 n 1 (ivals .u32 px))]) (hn : 1 ≤ n ∧ n ≤ 65536) :
    Calls Try.prog 50 #[.slice (some ⟨r, 0, none⟩) n cap] w fun e w' => ∃ g cp : Nat, e = .returned (.slice (some ⟨g, 0, none⟩) n cp) ∧ Tab w w' [.gen (rowE (some ⟨g, 0, none⟩) g n cp 28 1 (ivals .u32 px) true)] := by
 refine enter 8 [(0, .slice (pB r) n cap)] [.gen (rdE (pB r) r 0 n 1 (ivals .u32 px))] Try.func50 rfl Try.ntmps50 rfl (by kernel_rfl) hT0 ?_
 refine cont_seq ?_
 refine cont_region 1 rfl ?_
 refine bS [0] 1 0 [(0, .slice (pB r) n cap)] ?_
 refine cont_done ?_
 refine then_normal ?_
 refine cont_seq ?_
 refine cont_seq ?_
 refine cont_region 2 rfl ?_
 refine bS [0, 0] 2 0 [(0, .slice (pB r) n cap), (4, .bool false)] ?_
 refine cont_done ?_
 refine then_normal ?_
 refine cont_false rfl ?_
 refine cont_skip ?_
 refine then_normal ?_
 refine cont_seq ?_
 refine cont_region 4 rfl ?_
 refine batch1 [0, 0] 2 2 (fun b1 => [(5, .slice (pB b1) 0 0), (6, .slice (pB r) n cap)]) (fun b1 => [.cells b1 [] 28 true, .gen (rdE (pB r) r 0 n 1 (ivals .u32 px))]) rfl rfl [5, 6] (fun _ => rfl) (fun b1 => by kernel_rfl) (fun b1 => by kernel_rfl) (fun b1 => ?_)
 refine pl_step 3 1 rfl rfl ?_
 refine cont_asRow 0 0 1 rfl (vals := ivals .u32 []) rfl rfl (by decide) ?_
 refine sem_stepW (α := Option Addr × Nat × Nat) 7 (Builtin.append_ #[35, 35] 35 #[.slice (pB b1) 0 0, .slice (pB r) n cap]) (fun x_ => .slice x_.1 n x_.2.2) (fun x_ => [.gen (rowE (x_.1) x_.2.1 n x_.2.2 28 1 (ivals .u32 px) true), .gen (rdE (pB r) r 0 n 1 (ivals .u32 px))]) (fun _ => True) (by kernel_rfl) (fun w hT => append_own (n' := n) (z := .int .u32 0) hT (i := 0) (bytes := 4) rfl (by kernel_rfl) (by kernel_rfl) rfl (by decide) (by decide) (hT.ok 1 _ rfl) (ivals_one .u32 px) (by omega) rfl (Nat.zero_add _).symm) ?_
 rintro ⟨A2, g2, cp2⟩ -
 refine cont_norm [(5, .slice (pB b1) 0 0), (6, .slice (pB r) n cap), (7, .slice A2 n cp2)] [.gen (rowE (A2) g2 n cp2 28 1 (ivals .u32 px) true), .gen (rdE (pB r) r 0 n 1 (ivals .u32 px))] (by kernel_rfl) rfl ?_
 refine cont_fact (F := (0 < n → (A2 : Option Addr) = pB g2) ∧ px.length = n ∧ n ≤ cp2 ∧ cp2 ≤ maxLen) (fun w hT => Row.facts (hT.ok 0 _ rfl)) (fun hr3_ => ?_)
 obtain ⟨hr3_a, hr3_l, hr3_c, hr3_m⟩ := hr3_
 unfold maxLen at hr3_m
 refine bS [0] 4 0 [(2, .slice A2 n cp2)] ?_
 refine cont_done ?_
 refine then_normal ?_
 refine cont_ret ?_
 refine ret_one (.inl rfl) rfl 0 (.slice A2 n cp2) (by kernel_rfl) (by kernel_rfl) (fun w hT => ?_)
 replace hT := hT.erase 1 (fun e h hw => by cases h; first | rfl | cases hw)
 have hA := (Row.facts (hT.ok 0 _ rfl)).1 (by omega)
 subst hA
 exact ⟨_, _, rfl, hT⟩

theorem imgClone (m : Nat) (W H : Int) (r n cap : Nat) (px : List Int) (w : World) (hI : ImgR 84 w m W H r n cap px) (hok : ImgOk W H n px) :
    Calls Try.prog 33 #[.pointer (some ⟨m, 0, none⟩)] w fun e w' => ∃ b g cp : Nat, e = .returned (.pointer (some ⟨b, 0, none⟩)) ∧ NewImg 84 28 w w' b W H g n cp px := by
 have hw1 := hok.w1
 have hw2 := hok.w2
 have hh1 := hok.h1
 have hh2 := hok.h2
 have hnum := hok.num
 have hlen := hok.len
 have hle := hok.le
 refine enter 18 [(0, .pointer (pB m))] [.ro m [iq W, iq H, .slice (pB r) n cap] 84, .gen (rdE (pB r) r 0 n 1 (ivals .u32 px))] Try.func33 rfl Try.ntmps33 rfl (by kernel_rfl) hI.tab ?_
 refine cont_seq ?_
 refine cont_region 1 rfl ?_
 refine bS [0] 1 0 [(0, .pointer (pB m))] ?_
 refine cont_done ?_
 refine then_normal ?_
 refine cont_seq ?_
 refine drawn_enter 16 [] rfl (by kernel_rfl) ?_
 refine takes 0 [] [(0, 0), (4, 0), (8, 0), (1, 0), (5, 0), (9, 0), (2, 0), (6, 0), (10, 0), (3, 0), (7, 0), (11, 0)] 4 [11, 7, 3, 10, 6, 2, 9, 5, 1, 8, 4, 0] [(6, iq W), (10, iq H), (14, .slice (pB r) n cap)] (by kernel_rfl) (pok_then pok_body) (by kernel_rfl) rfl rfl (by kernel_rfl) (by kernel_rfl) ?_
 refine drawn_one 12 3 rfl (by kernel_rfl) ?_
 refine call_gen (d := 15) (α := Nat × Nat) (fun x_ => .slice (pB x_.1) n x_.2) (fun x_ => [.gen (rowE (pB x_.1) x_.1 n x_.2 28 1 (ivals .u32 px) true), .ro m [iq W, iq H, .slice (pB r) n cap] 84, .gen (rdE (pB r) r 0 n 1 (ivals .u32 px))]) (fun x_ => True) (by kernel_rfl) (fun w hT => (sliceClone r n cap px w (hT.viewRo (.cons (i := 1) rfl Vw.rd .nil) rfl) (by omega)).mono fun e w' ⟨g1, cp2, he_, ht_⟩ => ⟨(g1, cp2), he_, trivial, hT.news ht_ rfl⟩) ?_
 rintro ⟨g1, cp2⟩ hf3_
 refine cont_norm [(6, iq W), (10, iq H), (14, .slice (pB r) n cap), (15, .slice (pB g1) n cp2)] _ (by kernel_rfl) rfl ?_
 refine drawn_next 1 [] (by kernel_rfl) ?_
 refine takes 1 [] [(13, 0)] 2 [13, 12, 11, 7, 3, 10, 6, 2, 9, 5, 1, 8, 4, 0] [(16, .agg #[iq W, iq H, .slice (pB g1) n cp2])] (by kernel_rfl) (pok_then pok_body) (by kernel_rfl) rfl rfl (by kernel_rfl) (by kernel_rfl) ?_
 refine drawn_one 14 1 rfl (by kernel_rfl) ?_
 refine one_step1 0 (fun b4 => [(17, .pointer (pB b4))]) (fun b4 => [.cells b4 [iq W, iq H, .slice (pB g1) n cp2] 84 true, .gen (rowE (pB g1) g1 n cp2 28 1 (ivals .u32 px) true), .ro m [iq W, iq H, .slice (pB r) n cap] 84, .gen (rdE (pB r) r 0 n 1 (ivals .u32 px))]) (fun b4 => by kernel_rfl) (fun b4 => by kernel_rfl) (fun b4 => ?_)
 refine drawn_next 2 [] (by kernel_rfl) ?_
 refine takes 2 [] [(15, 0)] 0 [15, 14, 13, 12, 11, 7, 3, 10, 6, 2, 9, 5, 1, 8, 4, 0] [(2, .pointer (pB b4))] (by kernel_rfl) (pok_then pok_body) (by kernel_rfl) rfl rfl (by kernel_rfl) (by kernel_rfl) ?_
 refine drawn_done (by kernel_rfl) ?_
 refine then_normal ?_
 refine cont_ret ?_
 refine ret_one (.inl rfl) rfl 0 (.pointer (pB b4)) (by kernel_rfl) (by kernel_rfl) (fun w hT => ?_)
 replace hT := hT.erase 3 (fun e h hw => by cases h; first | rfl | cases hw)
 replace hT := hT.erase 2 (fun e h hw => by cases h; first | rfl | cases hw)
 exact ⟨_, _, _, rfl, newImg_of_tab hT⟩

theorem refPut (W H : Int) (r n cap : Nat) (px : List Int) (x y c : Int) (w : World) (hT0 : Tab w w [.gen (rdE (some ⟨r, 0, none⟩) r 0 n 1 (ivals .u32 px))]) (hok : ImgOk W H n px) (hc : InC c) (hg : (hasB 0 0 W H x y && mayB c) = true) :
    Calls Try.prog 62 #[.agg #[.int .i64 W, .int .i64 H, .slice (some ⟨r, 0, none⟩) n cap], .int .i64 x, .int .i64 y, .int .u32 c] w fun e w' => ∃ g cp : Nat, e = .returned (.agg #[.int .i64 W, .int .i64 H, .slice (some ⟨g, 0, none⟩) n cp]) ∧ Tab w w' [.gen (rowE (some ⟨g, 0, none⟩) g n cp 28 1 (ivals .u32 (setL W H px x y c)) true)] := by
 have hw1 := hok.w1
 have hw2 := hok.w2
 have hh1 := hok.h1
 have hh2 := hok.h2
 have hnum := hok.num
 have hlen := hok.len
 have hle := hok.le
 obtain ⟨hc0, hc1⟩ := hc
 obtain ⟨hg1, hg2⟩ := Bool.and_eq_true_iff.1 hg
 obtain ⟨hx0, hx1, hy0, hy1⟩ := hasB_true.1 hg1
 have hpl := hok.place hx0 hx1 hy0 hy1
 refine enter 38 [(0, .agg #[iq W, iq H, .slice (pB r) n cap]), (1, iq x), (2, iq y), (3, .int .u32 c)] [.gen (rdE (pB r) r 0 n 1 (ivals .u32 px))] Try.func62 rfl Try.ntmps62 rfl (by kernel_rfl) hT0 ?_
 refine cont_seq ?_
 refine cont_region 2 rfl ?_
 refine batch2 [0, 0] 2 0 (fun b1 b2 => [(1, iq x), (2, iq y), (3, .int .u32 c), (4, .pointer (pB b1)), (8, .pointer (pB b2))]) (fun b1 b2 => [.cells b2 [iq 0, iq 0, .slice none 0 0] 37 true, .cells b1 [iq W, iq H, .slice (pB r) n cap] 37 true, .gen (rdE (pB r) r 0 n 1 (ivals .u32 px))]) rfl rfl [1, 2, 3, 4, 8] (fun _ _ => rfl) (fun b1 b2 => by kernel_rfl) (fun b1 b2 => by kernel_rfl) (fun b1 b2 => ?_)
 refine cont_done ?_
 refine then_normal ?_
 refine cont_seq ?_
 refine cont_region 9 rfl ?_
 refine bS [1, 0, 0] 3 6 [(1, iq x), (2, iq y), (3, .int .u32 c), (4, .pointer (pB b1)), (8, .pointer (pB b2)), (13, .agg #[iq W, iq H, .slice (pB r) n cap]), (14, iq x), (15, iq y)] ?_
 refine pl_step 4 5 rfl rfl ?_
 refine call_pure (d := 16) (.tuple #[.int .u32 (atC W H px x y), .bool (hasB 0 0 W H x y)]) (by kernel_rfl) (fun w hT => refAt W H r n cap px x y w (hT.viewRo (.cons (i := 2) rfl Vw.rd .nil) rfl) hok) ?_
 refine bS [0, 0, 0, 0, 0] 9 0 [(1, iq x), (2, iq y), (3, .int .u32 c), (4, .pointer (pB b1)), (8, .pointer (pB b2)), (10, .bool (hasB 0 0 W H x y))] ?_
 refine cont_done ?_
 refine then_normal ?_
 refine cont_seq ?_
 refine cont_seq ?_
 refine cont_region 2 rfl ?_
 refine bS [0, 0] 2 0 [(1, iq x), (2, iq y), (3, .int .u32 c), (4, .pointer (pB b1)), (8, .pointer (pB b2)), (20, .bool (!(hasB 0 0 W H x y)))] ?_
 refine cont_done ?_
 refine then_normal ?_
 refine cont_recast 20 (.bool (!(hasB 0 0 W H x y))) (.bool false) rfl (congrArg Value.bool (by rw [hg1]; rfl)) ?_
 refine cont_false rfl ?_
 refine cont_skip ?_
 refine then_normal ?_
 refine cont_seq ?_
 refine cont_region 1 rfl ?_
 refine bS [0] 1 0 [(1, iq x), (2, iq y), (3, .int .u32 c), (4, .pointer (pB b1)), (8, .pointer (pB b2)), (11, .slice none 0 0)] ?_
 refine cont_done ?_
 refine then_normal ?_
 refine cont_seq ?_
 refine cont_region 5 rfl ?_
 refine bS [0, 0, 1] 3 2 [(1, iq x), (2, iq y), (3, .int .u32 c), (4, .pointer (pB b1)), (8, .pointer (pB b2)), (22, .slice none 0 0), (24, .slice (pB r) n cap)] ?_
 refine pl_step 4 1 rfl rfl ?_
 refine cont_nilrow 28 1 ?_
 refine sem_stepW (α := Option Addr × Nat × Nat) 25 (Builtin.append_ #[35, 35] 35 #[.slice none 0 0, .slice (pB r) n cap]) (fun x_ => .slice x_.1 n x_.2.2) (fun x_ => [.gen (rowE (x_.1) x_.2.1 n x_.2.2 28 1 (ivals .u32 px) true), .cells b2 [iq 0, iq 0, .slice none 0 0] 37 true, .cells b1 [iq W, iq H, .slice (pB r) n cap] 37 true, .gen (rdE (pB r) r 0 n 1 (ivals .u32 px))]) (fun _ => True) (by kernel_rfl) (fun w hT => append_own (n' := n) (z := .int .u32 0) hT (i := 0) (bytes := 4) rfl (by kernel_rfl) (by kernel_rfl) rfl (by decide) (by decide) (hT.ok 3 _ rfl) (ivals_one .u32 px) (by omega) rfl (Nat.zero_add _).symm) ?_
 rintro ⟨A5, g5, cp5⟩ -
 refine cont_norm [(1, iq x), (2, iq y), (3, .int .u32 c), (4, .pointer (pB b1)), (8, .pointer (pB b2)), (22, .slice none 0 0), (24, .slice (pB r) n cap), (25, .slice A5 n cp5)] _ (by kernel_rfl) rfl ?_
 refine cont_fact (F := (0 < n → (A5 : Option Addr) = pB g5) ∧ px.length = n ∧ n ≤ cp5 ∧ cp5 ≤ maxLen) (fun w hT => Row.facts (hT.ok 0 _ rfl)) (fun hr6_ => ?_)
 obtain ⟨hr6_a, hr6_l, hr6_c, hr6_m⟩ := hr6_
 unfold maxLen at hr6_m
 refine bS [0] 5 0 [(1, iq x), (2, iq y), (3, .int .u32 c), (4, .pointer (pB b1)), (8, .pointer (pB b2)), (11, .slice A5 n cp5)] ?_
 refine cont_done ?_
 refine then_normal ?_
 refine cont_seq ?_
 refine cont_region 10 rfl ?_
 refine bS [0, 0, 0, 2, 0] 5 5 [(1, iq x), (3, .int .u32 c), (4, .pointer (pB b1)), (8, .pointer (pB b2)), (11, .slice A5 n cp5), (26, .slice A5 n cp5), (30, iq (IntKind.i64.wrap (y * W)))] ?_
 refine cont_recast 30 (iq (IntKind.i64.wrap (y * W))) (iq (y * W)) rfl (wrapI (by omega) (by omega)) ?_
 refine bS [0, 0] 7 3 [(3, .int .u32 c), (4, .pointer (pB b1)), (8, .pointer (pB b2)), (11, .slice A5 n cp5), (26, .slice A5 n cp5), (32, iq (IntKind.i64.wrap ((y * W) + x)))] ?_
 refine cont_recast 32 (iq (IntKind.i64.wrap ((y * W) + x))) (iq ((y * W) + x)) rfl (wrapI (by omega) (by omega)) ?_
 refine bS [0] 8 2 [(4, .pointer (pB b1)), (8, .pointer (pB b2)), (11, .slice A5 n cp5), (26, .slice A5 n cp5), (32, iq ((y * W) + x)), (33, .int .u32 c)] ?_
 refine pl_step 9 1 rfl rfl ?_
 refine cont_recast 26 (.slice A5 n cp5) (.slice (pB g5) n cp5) rfl (by rw [hr6_a (by omega)]) ?_
 refine sem_step 34 (Instr.indexAt 35 (.slice (pB g5) n cp5) (iq ((y * W) + x))) (.pointer (some ⟨g5, Int.toNat ((y * W) + x), none⟩)) (by kernel_rfl) (fun w hT => run_indexAt (e := 28) (sz := 1) _ (by kernel_rfl) (by kernel_rfl) (by omega) (by omega) (by omega) w) ?_
 refine pl_step 10 0 rfl rfl ?_
 refine sem_stepU (Instr.storeAt 28 (.pointer (some ⟨g5, Int.toNat ((y * W) + x), none⟩)) (.int .u32 c)) (fun _ => [.gen (rowE (A5) g5 n cp5 28 1 (ivals .u32 (px.set (Int.toNat ((y * W) + x)) c)) true), .cells b2 [iq 0, iq 0, .slice none 0 0] 37 true, .cells b1 [iq W, iq H, .slice (pB r) n cap] 37 true, .gen (rdE (pB r) r 0 n 1 (ivals .u32 px))]) (fun _ => True) (by kernel_rfl) (fun w hT => store_row hT (i := 0) rfl (by kernel_rfl) (by omega)) (fun _ _ => ?_)
 refine cont_done ?_
 refine then_normal ?_
 refine cont_seq ?_
 refine cont_region 3 rfl ?_
 refine batch0 [0, 0, 2] 3 0 [(4, .pointer (pB b1)), (8, .pointer (pB b2))] [.gen (rowE (A5) g5 n cp5 28 1 (ivals .u32 (px.set (Int.toNat ((y * W) + x)) c)) true), .cells b2 [iq 0, iq 0, .slice none 0 0] 37 true, .cells b1 [iq W, iq H, .slice A5 n cp5] 37 true, .gen (rdE (pB r) r 0 n 1 (ivals .u32 px))] rfl rfl (by kernel_rfl) (by kernel_rfl) ?_
 refine cont_done ?_
 refine then_normal ?_
 refine cont_seq ?_
 refine cont_region 2 rfl ?_
 refine batch0 [2, 1] 2 0 [(8, .pointer (pB b2))] [.gen (rowE (A5) g5 n cp5 28 1 (ivals .u32 (px.set (Int.toNat ((y * W) + x)) c)) true), .cells b2 [iq W, iq H, .slice A5 n cp5] 37 true, .cells b1 [iq W, iq H, .slice A5 n cp5] 37 true, .gen (rdE (pB r) r 0 n 1 (ivals .u32 px))] rfl rfl (by kernel_rfl) (by kernel_rfl) ?_
 refine cont_forget 2 rfl ?_
 refine cont_done ?_
 refine then_normal ?_
 refine cont_ret ?_
 refine ret_one (.inl rfl) rfl 1 (.agg #[iq W, iq H, .slice A5 n cp5]) (by kernel_rfl) (by kernel_rfl) (fun w hT => ?_)
 replace hT := hT.erase 2 (fun e h hw => by cases h; first | rfl | cases hw)
 replace hT := hT.erase 1 (fun e h hw => by cases h; first | rfl | cases hw)
 rw [show px.set (Int.toNat ((y * W) + x)) c = setL W H px x y c from by simp [setL, hg]] at hT
 have hA := (Row.facts (hT.ok 0 _ rfl)).1 (by omega)
 subst hA
 exact ⟨_, _, rfl, hT⟩

theorem refSetB (W H : Int) (r n cap : Nat) (px : List Int) (x y c : Int) (w : World) (hT0 : Tab w w [.gen (rdE (some ⟨r, 0, none⟩) r 0 n 1 (ivals .u32 px))]) (hok : ImgOk W H n px) (hc : InC c) (hg : (hasB 0 0 W H x y && mayB c) = false) :
    Calls Try.prog 35 #[.agg #[.int .i64 W, .int .i64 H, .slice (some ⟨r, 0, none⟩) n cap], .int .i64 x, .int .i64 y, .int .u32 c] w fun e w' => e = .returned (.tuple #[.agg #[.int .i64 W, .int .i64 H, .slice (some ⟨r, 0, none⟩) n cap], .int .i64 (setE W H x y c)]) ∧ Below w.heap.size w w' := by
 have hw1 := hok.w1
 have hw2 := hok.w2
 have hh1 := hok.h1
 have hh2 := hok.h2
 have hnum := hok.num
 have hlen := hok.len
 have hle := hok.le
 obtain ⟨hc0, hc1⟩ := hc
 refine enter 33 [(0, .agg #[iq W, iq H, .slice (pB r) n cap]), (1, iq x), (2, iq y), (3, .int .u32 c)] [.gen (rdE (pB r) r 0 n 1 (ivals .u32 px))] Try.func35 rfl Try.ntmps35 rfl (by kernel_rfl) hT0 ?_
 refine cont_seq ?_
 refine cont_region 3 rfl ?_
 refine batch2 [0, 0, 0] 3 0 (fun b1 b2 => [(1, iq x), (2, iq y), (3, .int .u32 c), (4, .pointer (pB b1)), (8, .pointer (pB b2))]) (fun b1 b2 => [.cells b2 [iq 0, iq 0, .slice none 0 0] 37 true, .cells b1 [iq W, iq H, .slice (pB r) n cap] 37 true, .gen (rdE (pB r) r 0 n 1 (ivals .u32 px))]) rfl rfl [1, 2, 3, 4, 8] (fun _ _ => rfl) (fun b1 b2 => by kernel_rfl) (fun b1 b2 => by kernel_rfl) (fun b1 b2 => ?_)
 refine cont_done ?_
 refine then_normal ?_
 refine cont_seq ?_
 refine cont_region 9 rfl ?_
 refine bS [1, 0, 0] 3 6 [(1, iq x), (2, iq y), (3, .int .u32 c), (4, .pointer (pB b1)), (8, .pointer (pB b2)), (14, .agg #[iq W, iq H, .slice (pB r) n cap]), (15, iq x), (16, iq y)] ?_
 refine pl_step 4 5 rfl rfl ?_
 refine call_pure (d := 17) (.tuple #[.int .u32 (atC W H px x y), .bool (hasB 0 0 W H x y)]) (by kernel_rfl) (fun w hT => refAt W H r n cap px x y w (hT.viewRo (.cons (i := 2) rfl Vw.rd .nil) rfl) hok) ?_
 refine bS [0, 0, 0, 0, 0] 9 0 [(1, iq x), (2, iq y), (3, .int .u32 c), (4, .pointer (pB b1)), (8, .pointer (pB b2)), (11, .bool (hasB 0 0 W H x y))] ?_
 refine cont_done ?_
 refine then_normal ?_
 refine cont_seq ?_
 refine cont_seq ?_
 refine cont_region 2 rfl ?_
 refine bS [0, 0] 2 0 [(1, iq x), (2, iq y), (3, .int .u32 c), (4, .pointer (pB b1)), (8, .pointer (pB b2)), (21, .bool (!(hasB 0 0 W H x y)))] ?_
 refine cont_done ?_
 refine then_normal ?_
 refine cont_split 21 (!(hasB 0 0 W H x y)) rfl (fun c3_ => ?_) (fun c3_ => ?_)
 ·
  replace c3_ : (hasB 0 0 W H x y) = false := by simpa using c3_
  refine cont_true rfl ?_
  refine cont_seq ?_
  refine cont_region 3 rfl ?_
  refine batch0 [1, 0, 0] 3 0 [(8, .pointer (pB b2)), (9, iq 4)] [.cells b2 [iq W, iq H, .slice (pB r) n cap] 37 true, .cells b1 [iq W, iq H, .slice (pB r) n cap] 37 true, .gen (rdE (pB r) r 0 n 1 (ivals .u32 px))] rfl rfl (by kernel_rfl) (by kernel_rfl) ?_
  refine cont_forget 1 rfl ?_
  refine cont_done ?_
  refine then_normal ?_
  refine cont_ret ?_
  refine then_ret ?_
  refine ret_two (.inl rfl) rfl 0 0 (.agg #[iq W, iq H, .slice (pB r) n cap]) (iq 4) (by kernel_rfl) (by kernel_rfl) (by kernel_rfl) (by kernel_rfl) (fun w hT => ?_)
  refine ⟨?_, hT.post rfl⟩
  simp [setE, *]
 replace c3_ : (hasB 0 0 W H x y) = true := by simpa using c3_
 refine cont_false rfl ?_
 refine cont_skip ?_
 refine then_normal ?_
 refine cont_seq ?_
 refine cont_region 3 rfl ?_
 refine bS [0] 1 2 [(1, iq x), (2, iq y), (3, .int .u32 c), (4, .pointer (pB b1)), (8, .pointer (pB b2)), (23, .int .u32 c)] ?_
 refine pl_step 2 1 rfl rfl ?_
 refine call_pure (d := 24) (.bool (mayB c)) (by kernel_rfl) (fun w hT => refMay c w (by omega) (by omega)) ?_
 refine bS [0] 3 0 [(1, iq x), (2, iq y), (3, .int .u32 c), (4, .pointer (pB b1)), (8, .pointer (pB b2)), (12, .bool (mayB c))] ?_
 refine cont_done ?_
 refine then_normal ?_
 refine cont_seq ?_
 refine cont_seq ?_
 refine cont_region 2 rfl ?_
 refine bS [0, 0] 2 0 [(1, iq x), (2, iq y), (3, .int .u32 c), (4, .pointer (pB b1)), (8, .pointer (pB b2)), (26, .bool (!(mayB c)))] ?_
 refine cont_done ?_
 refine then_normal ?_
 refine cont_split 26 (!(mayB c)) rfl (fun c4_ => ?_) (fun c4_ => ?_)
 ·
  replace c4_ : (mayB c) = false := by simpa using c4_
  refine cont_true rfl ?_
  refine cont_seq ?_
  refine cont_region 3 rfl ?_
  refine batch0 [1, 0, 0] 3 0 [(8, .pointer (pB b2)), (9, iq 1)] [.cells b2 [iq W, iq H, .slice (pB r) n cap] 37 true, .cells b1 [iq W, iq H, .slice (pB r) n cap] 37 true, .gen (rdE (pB r) r 0 n 1 (ivals .u32 px))] rfl rfl (by kernel_rfl) (by kernel_rfl) ?_
  refine cont_forget 1 rfl ?_
  refine cont_done ?_
  refine then_normal ?_
  refine cont_ret ?_
  refine then_ret ?_
  refine ret_two (.inl rfl) rfl 0 0 (.agg #[iq W, iq H, .slice (pB r) n cap]) (iq 1) (by kernel_rfl) (by kernel_rfl) (by kernel_rfl) (by kernel_rfl) (fun w hT => ?_)
  refine ⟨?_, hT.post rfl⟩
  simp [setE, *]
 replace c4_ : (mayB c) = true := by simpa using c4_
 exfalso; simp_all

theorem refSetG (W H : Int) (r n cap : Nat) (px : List Int) (x y c : Int) (w : World) (hT0 : Tab w w [.gen (rdE (some ⟨r, 0, none⟩) r 0 n 1 (ivals .u32 px))]) (hok : ImgOk W H n px) (hc : InC c) (hg : (hasB 0 0 W H x y && mayB c) = true) :
    Calls Try.prog 35 #[.agg #[.int .i64 W, .int .i64 H, .slice (some ⟨r, 0, none⟩) n cap], .int .i64 x, .int .i64 y, .int .u32 c] w fun e w' => ∃ g cp : Nat, e = .returned (.tuple #[.agg #[.int .i64 W, .int .i64 H, .slice (some ⟨g, 0, none⟩) n cp], .int .i64 (setE W H x y c)]) ∧ Tab w w' [.gen (rowE (some ⟨g, 0, none⟩) g n cp 28 1 (ivals .u32 (setL W H px x y c)) true)] := by
 have hw1 := hok.w1
 have hw2 := hok.w2
 have hh1 := hok.h1
 have hh2 := hok.h2
 have hnum := hok.num
 have hlen := hok.len
 have hle := hok.le
 obtain ⟨hc0, hc1⟩ := hc
 obtain ⟨hg1, hg2⟩ := Bool.and_eq_true_iff.1 hg
 obtain ⟨hx0, hx1, hy0, hy1⟩ := hasB_true.1 hg1
 have hpl := hok.place hx0 hx1 hy0 hy1
 refine enter 33 [(0, .agg #[iq W, iq H, .slice (pB r) n cap]), (1, iq x), (2, iq y), (3, .int .u32 c)] [.gen (rdE (pB r) r 0 n 1 (ivals .u32 px))] Try.func35 rfl Try.ntmps35 rfl (by kernel_rfl) hT0 ?_
 refine cont_seq ?_
 refine cont_region 3 rfl ?_
 refine batch2 [0, 0, 0] 3 0 (fun b1 b2 => [(1, iq x), (2, iq y), (3, .int .u32 c), (4, .pointer (pB b1)), (8, .pointer (pB b2))]) (fun b1 b2 => [.cells b2 [iq 0, iq 0, .slice none 0 0] 37 true, .cells b1 [iq W, iq H, .slice (pB r) n cap] 37 true, .gen (rdE (pB r) r 0 n 1 (ivals .u32 px))]) rfl rfl [1, 2, 3, 4, 8] (fun _ _ => rfl) (fun b1 b2 => by kernel_rfl) (fun b1 b2 => by kernel_rfl) (fun b1 b2 => ?_)
 refine cont_done ?_
 refine then_normal ?_
 refine cont_seq ?_
 refine cont_region 9 rfl ?_
 refine bS [1, 0, 0] 3 6 [(1, iq x), (2, iq y), (3, .int .u32 c), (4, .pointer (pB b1)), (8, .pointer (pB b2)), (14, .agg #[iq W, iq H, .slice (pB r) n cap]), (15, iq x), (16, iq y)] ?_
 refine pl_step 4 5 rfl rfl ?_
 refine call_pure (d := 17) (.tuple #[.int .u32 (atC W H px x y), .bool (hasB 0 0 W H x y)]) (by kernel_rfl) (fun w hT => refAt W H r n cap px x y w (hT.viewRo (.cons (i := 2) rfl Vw.rd .nil) rfl) hok) ?_
 refine bS [0, 0, 0, 0, 0] 9 0 [(1, iq x), (2, iq y), (3, .int .u32 c), (4, .pointer (pB b1)), (8, .pointer (pB b2)), (11, .bool (hasB 0 0 W H x y))] ?_
 refine cont_done ?_
 refine then_normal ?_
 refine cont_seq ?_
 refine cont_seq ?_
 refine cont_region 2 rfl ?_
 refine bS [0, 0] 2 0 [(1, iq x), (2, iq y), (3, .int .u32 c), (4, .pointer (pB b1)), (8, .pointer (pB b2)), (21, .bool (!(hasB 0 0 W H x y)))] ?_
 refine cont_done ?_
 refine then_normal ?_
 refine cont_recast 21 (.bool (!(hasB 0 0 W H x y))) (.bool false) rfl (congrArg Value.bool (by rw [hg1]; rfl)) ?_
 refine cont_false rfl ?_
 refine cont_skip ?_
 refine then_normal ?_
 refine cont_seq ?_
 refine cont_region 3 rfl ?_
 refine bS [0] 1 2 [(1, iq x), (2, iq y), (3, .int .u32 c), (4, .pointer (pB b1)), (8, .pointer (pB b2)), (23, .int .u32 c)] ?_
 refine pl_step 2 1 rfl rfl ?_
 refine call_pure (d := 24) (.bool (mayB c)) (by kernel_rfl) (fun w hT => refMay c w (by omega) (by omega)) ?_
 refine bS [0] 3 0 [(1, iq x), (2, iq y), (3, .int .u32 c), (4, .pointer (pB b1)), (8, .pointer (pB b2)), (12, .bool (mayB c))] ?_
 refine cont_done ?_
 refine then_normal ?_
 refine cont_seq ?_
 refine cont_seq ?_
 refine cont_region 2 rfl ?_
 refine bS [0, 0] 2 0 [(1, iq x), (2, iq y), (3, .int .u32 c), (4, .pointer (pB b1)), (8, .pointer (pB b2)), (26, .bool (!(mayB c)))] ?_
 refine cont_done ?_
 refine then_normal ?_
 refine cont_recast 26 (.bool (!(mayB c))) (.bool false) rfl (congrArg Value.bool (by rw [hg2]; rfl)) ?_
 refine cont_false rfl ?_
 refine cont_skip ?_
 refine then_normal ?_
 refine cont_seq ?_
 refine cont_region 7 rfl ?_
 refine bS [1, 0, 0, 0] 4 3 [(8, .pointer (pB b2)), (28, .agg #[iq W, iq H, .slice (pB r) n cap]), (29, iq x), (30, iq y), (31, .int .u32 c)] ?_
 refine cont_forget 1 rfl ?_
 refine pl_step 5 2 rfl rfl ?_
 refine call_gen (d := 32) (α := Nat × Nat) (fun x_ => .agg #[iq W, iq H, .slice (pB x_.1) n x_.2]) (fun x_ => [.gen (rowE (pB x_.1) x_.1 n x_.2 28 1 (ivals .u32 (setL W H px x y c)) true), .cells b2 [iq 0, iq 0, .slice none 0 0] 37 true, .gen (rdE (pB r) r 0 n 1 (ivals .u32 px))]) (fun x_ => True) (by kernel_rfl) (fun w hT => (refPut W H r n cap px x y c w (hT.viewRo (.cons (i := 1) rfl Vw.rd .nil) rfl) hok ⟨hc0, hc1⟩ hg).mono fun e w' ⟨g5, cp6, he_, ht_⟩ => ⟨(g5, cp6), he_, trivial, hT.news ht_ rfl⟩) ?_
 rintro ⟨g5, cp6⟩ hf7_
 refine cont_norm [(8, .pointer (pB b2)), (28, .agg #[iq W, iq H, .slice (pB r) n cap]), (29, iq x), (30, iq y), (31, .int .u32 c), (32, .agg #[iq W, iq H, .slice (pB g5) n cp6])] _ (by kernel_rfl) rfl ?_
 refine batch0 [1, 0] 7 0 [(8, .pointer (pB b2)), (9, iq 0)] [.gen (rowE (pB g5) g5 n cp6 28 1 (ivals .u32 (setL W H px x y c)) true), .cells b2 [iq W, iq H, .slice (pB g5) n cp6] 37 true, .gen (rdE (pB r) r 0 n 1 (ivals .u32 px))] rfl rfl (by kernel_rfl) (by kernel_rfl) ?_
 refine cont_done ?_
 refine then_normal ?_
 refine cont_ret ?_
 refine ret_two (.inl rfl) rfl 1 0 (.agg #[iq W, iq H, .slice (pB g5) n cp6]) (iq 0) (by kernel_rfl) (by kernel_rfl) (by kernel_rfl) (by kernel_rfl) (fun w hT => ?_)
 replace hT := hT.erase 2 (fun e h hw => by cases h; first | rfl | cases hw)
 replace hT := hT.erase 1 (fun e h hw => by cases h; first | rfl | cases hw)
 rw [show setE W H x y c = 0 from by simp [setE, *]]
 exact ⟨_, _, rfl, hT⟩

theorem imgFar (n : Int) (w : World) :
    Calls Try.prog 51 #[.int .i64 n] w fun e w' => e = .returned (.int .i64 (farI n)) ∧ Below w.heap.size w w' := by
 refine enter 6 [(0, iq n)] [] Try.func51 rfl Try.ntmps51 rfl (by kernel_rfl) (Tab.start w) ?_
 refine cont_seq ?_
 refine cont_region 1 rfl ?_
 refine bS [0] 1 0 [(0, iq n)] ?_
 refine cont_done ?_
 refine then_normal ?_
 refine cont_seq ?_
 refine cont_region 4 rfl ?_
 refine bS [0, 0, 0, 0] 4 0 [(2, iq (mn (mx n (-1048576)) 1048576))] ?_
 refine cont_done ?_
 refine then_normal ?_
 refine cont_ret ?_
 refine ret_one (.inl rfl) rfl 0 (iq (mn (mx n (-1048576)) 1048576)) (by kernel_rfl) (by kernel_rfl) (fun w hT => ?_)
 exact ⟨rfl, hT.post rfl⟩

theorem imgCopy (m : Nat) (W H : Int) (r n cap : Nat) (px : List Int) (m' : Nat) (W' H' : Int) (r' n' cap' : Nat) (px' : List Int) (a b c d dx dy : Int) (w : World) (hT0 : Tab w w [.ro m [.int .i64 W, .int .i64 H, .slice (some ⟨r, 0, none⟩) n cap] 84, .gen (rowE (some ⟨r, 0, none⟩) r n cap 28 1 (ivals .u32 px) false), .ro m' [.int .i64 W', .int .i64 H', .slice (some ⟨r', 0, none⟩) n' cap'] 84, .gen (rdE (some ⟨r', 0, none⟩) r' 0 n' 1 (ivals .u32 px'))]) (hok : ImgOk W H n px) (hok' : ImgOk W' H' n' px') (hcap' : n' ≤ cap') (hcap : n ≤ cap) :
    Calls Try.prog 25 #[.pointer (some ⟨m, 0, none⟩), .pointer (some ⟨m', 0, none⟩), .agg #[.int .i64 a, .int .i64 b, .int .i64 c, .int .i64 d], .int .i64 dx, .int .i64 dy] w fun e w' => e = .returned (.int .i64 (areaI (copyR a b c d W' H' (farI dx) (farI dy) W H).x0 (copyR a b c d W' H' (farI dx) (farI dy) W H).y0 (copyR a b c d W' H' (farI dx) (farI dy) W H).x1 (copyR a b c d W' H' (farI dx) (farI dy) W H).y1)) ∧ Tab w w' [.ro m [.int .i64 W, .int .i64 H, .slice (some ⟨r, 0, none⟩) n cap] 84, .gen (rowE (some ⟨r, 0, none⟩) r n cap 28 1 (ivals .u32 (copyP W px W' px' (copyR a b c d W' H' (farI dx) (farI dy) W H).x0 (copyR a b c d W' H' (farI dx) (farI dy) W H).y0 (copyR a b c d W' H' (farI dx) (farI dy) W H).x1 (copyR a b c d W' H' (farI dx) (farI dy) W H).y1 (farI dx) (farI dy))) false), .ro m' [.int .i64 W', .int .i64 H', .slice (some ⟨r', 0, none⟩) n' cap'] 84, .gen (rdE (some ⟨r', 0, none⟩) r' 0 n' 1 (ivals .u32 px'))] := by
 have hw1 := hok.w1
 have hw2 := hok.w2
 have hh1 := hok.h1
 have hh2 := hok.h2
 have hnum := hok.num
 have hlen := hok.len
 have hle := hok.le
 have hlen' := hok'.len
 have hw1' := hok'.w1
 have hw2' := hok'.w2
 have hh1' := hok'.h1
 have hh2' := hok'.h2
 have hle' := hok'.le
 have hfx := farI_range dx
 have hfy := farI_range dy
 refine enter 77 [(0, .pointer (pB m)), (1, .pointer (some ⟨m', 0, none⟩)), (2, .agg #[iq a, iq b, iq c, iq d]), (3, iq dx), (4, iq dy)] [.ro m [iq W, iq H, .slice (pB r) n cap] 84, .gen (rowE (pB r) r n cap 28 1 (ivals .u32 px) false), .ro m' [iq W', iq H', .slice (some ⟨r', 0, none⟩) n' cap'] 84, .gen (rdE (some ⟨r', 0, none⟩) r' 0 n' 1 (ivals .u32 px'))] Try.func25 rfl Try.ntmps25 rfl (by kernel_rfl) hT0 ?_
 refine cont_seq ?_
 refine cont_region 2 rfl ?_
 refine batch1 [0, 0] 2 0 (fun b1 => [(0, .pointer (pB m)), (1, .pointer (some ⟨m', 0, none⟩)), (3, iq dx), (4, iq dy), (7, .pointer (pB b1))]) (fun b1 => [.cells b1 [iq a, iq b, iq c, iq d] 32 true, .ro m [iq W, iq H, .slice (pB r) n cap] 84, .gen (rowE (pB r) r n cap 28 1 (ivals .u32 px) false), .ro m' [iq W', iq H', .slice (some ⟨r', 0, none⟩) n' cap'] 84, .gen (rdE (some ⟨r', 0, none⟩) r' 0 n' 1 (ivals .u32 px'))]) rfl rfl [0, 1, 3, 4, 7] (fun _ => rfl) (fun b1 => by kernel_rfl) (fun b1 => by kernel_rfl) (fun b1 => ?_)
 refine cont_done ?_
 refine then_normal ?_
 refine cont_seq ?_
 refine cont_region 1 rfl ?_
 refine bS [0] 1 0 [(0, .pointer (pB m)), (1, .pointer (some ⟨m', 0, none⟩)), (3, iq dx), (4, iq dy), (7, .pointer (pB b1)), (11, .func (.func 51) #[] #[])] ?_
 refine cont_done ?_
 refine then_normal ?_
 refine cont_seq ?_
 refine cont_region 8 rfl ?_
 refine bS [0, 0] 2 6 [(0, .pointer (pB m)), (1, .pointer (some ⟨m', 0, none⟩)), (4, iq dy), (7, .pointer (pB b1)), (11, .func (.func 51) #[] #[]), (15, .func (.func 51) #[] #[]), (16, iq dx)] ?_
 refine pl_step 3 5 rfl rfl ?_
 refine call_pure (d := 17) (iq (farI dx)) (by kernel_rfl) (fun w hT => imgFar dx w) ?_
 refine bS [0, 0] 5 3 [(0, .pointer (pB m)), (1, .pointer (some ⟨m', 0, none⟩)), (7, .pointer (pB b1)), (17, iq (farI dx)), (18, .func (.func 51) #[] #[]), (19, iq dy)] ?_
 refine pl_step 6 2 rfl rfl ?_
 refine call_pure (d := 20) (iq (farI dy)) (by kernel_rfl) (fun w hT => imgFar dy w) ?_
 refine bS [0, 0] 8 0 [(0, .pointer (pB m)), (1, .pointer (some ⟨m', 0, none⟩)), (3, iq (farI dx)), (4, iq (farI dy)), (7, .pointer (pB b1))] ?_
 refine cont_done ?_
 refine then_normal ?_
 refine cont_seq ?_
 refine drawn_enter 19 [] rfl (by kernel_rfl) ?_
 refine takes 0 [] [(0, 0), (2, 0), (4, 0), (8, 0), (10, 0), (14, 0), (1, 0)] 12 [1, 14, 10, 8, 4, 2, 0] [(0, .pointer (pB m)), (1, .pointer (some ⟨m', 0, none⟩)), (3, iq (farI dx)), (4, iq (farI dy)), (7, .pointer (pB b1)), (22, iq (IntKind.i64.wrap (0 - (farI dx)))), (23, iq (farI dy)), (25, .pointer (pB m)), (29, iq (farI dx)), (31, .pointer (pB m)), (35, iq (farI dy))] (by kernel_rfl) (pok_then pok_body) (by kernel_rfl) rfl rfl (by kernel_rfl) (by kernel_rfl) ?_
 refine cont_recast 22 (iq (IntKind.i64.wrap (0 - (farI dx)))) (iq (0 - (farI dx))) rfl (wrapI (by omega) (by omega)) ?_
 refine takes 0 [] [(3, 0)] 11 [3, 1, 14, 10, 8, 4, 2, 0] [(0, .pointer (pB m)), (1, .pointer (some ⟨m', 0, none⟩)), (3, iq (farI dx)), (4, iq (farI dy)), (7, .pointer (pB b1)), (22, iq (0 - (farI dx))), (24, iq (IntKind.i64.wrap (0 - (farI dy)))), (25, .pointer (pB m)), (29, iq (farI dx)), (31, .pointer (pB m)), (35, iq (farI dy))] (by kernel_rfl) (pok_then pok_body) (by kernel_rfl) rfl rfl (by kernel_rfl) (by kernel_rfl) ?_
 refine cont_recast 24 (iq (IntKind.i64.wrap (0 - (farI dy)))) (iq (0 - (farI dy))) rfl (wrapI (by omega) (by omega)) ?_
 refine takes 0 [] [(5, 0), (11, 0), (6, 0), (12, 0), (7, 1), (13, 1), (9, 0)] 4 [9, 13, 7, 12, 6, 11, 5, 3, 1, 14, 10, 8, 4, 2, 0] [(0, .pointer (pB m)), (1, .pointer (some ⟨m', 0, none⟩)), (3, iq (farI dx)), (4, iq (farI dy)), (7, .pointer (pB b1)), (22, iq (0 - (farI dx))), (24, iq (0 - (farI dy))), (30, iq (IntKind.i64.wrap (W - (farI dx)))), (34, iq H), (35, iq (farI dy))] (by kernel_rfl) (pok_then pok_body) (by kernel_rfl) rfl rfl (by kernel_rfl) (by kernel_rfl) ?_
 refine cont_recast 30 (iq (IntKind.i64.wrap (W - (farI dx)))) (iq (W - (farI dx))) rfl (wrapI (by omega) (by omega)) ?_
 refine takes 0 [] [(15, 0)] 3 [15, 9, 13, 7, 12, 6, 11, 5, 3, 1, 14, 10, 8, 4, 2, 0] [(0, .pointer (pB m)), (1, .pointer (some ⟨m', 0, none⟩)), (3, iq (farI dx)), (4, iq (farI dy)), (7, .pointer (pB b1)), (22, iq (0 - (farI dx))), (24, iq (0 - (farI dy))), (30, iq (W - (farI dx))), (36, iq (IntKind.i64.wrap (H - (farI dy))))] (by kernel_rfl) (pok_then pok_body) (by kernel_rfl) rfl rfl (by kernel_rfl) (by kernel_rfl) ?_
 refine cont_recast 36 (iq (IntKind.i64.wrap (H - (farI dy)))) (iq (H - (farI dy))) rfl (wrapI (by omega) (by omega)) ?_
 refine takes 0 [] [(16, 0)] 2 [16, 15, 9, 13, 7, 12, 6, 11, 5, 3, 1, 14, 10, 8, 4, 2, 0] [(0, .pointer (pB m)), (1, .pointer (some ⟨m', 0, none⟩)), (3, iq (farI dx)), (4, iq (farI dy)), (7, .pointer (pB b1)), (37, .agg #[iq (0 - (farI dx)), iq (0 - (farI dy)), iq (W - (farI dx)), iq (H - (farI dy))])] (by kernel_rfl) (pok_then pok_body) (by kernel_rfl) rfl rfl (by kernel_rfl) (by kernel_rfl) ?_
 refine drawn_one 17 1 rfl (by kernel_rfl) ?_
 refine one_step1 0 (fun b2 => [(0, .pointer (pB m)), (1, .pointer (some ⟨m', 0, none⟩)), (3, iq (farI dx)), (4, iq (farI dy)), (7, .pointer (pB b1)), (12, .pointer (pB b2)), (37, .agg #[iq (0 - (farI dx)), iq (0 - (farI dy)), iq (W - (farI dx)), iq (H - (farI dy))])]) (fun b2 => [.cells b2 [iq 0, iq 0, iq 0, iq 0] 32 true, .cells b1 [iq a, iq b, iq c, iq d] 32 true, .ro m [iq W, iq H, .slice (pB r) n cap] 84, .gen (rowE (pB r) r n cap 28 1 (ivals .u32 px) false), .ro m' [iq W', iq H', .slice (some ⟨r', 0, none⟩) n' cap'] 84, .gen (rdE (some ⟨r', 0, none⟩) r' 0 n' 1 (ivals .u32 px'))]) (fun b2 => by kernel_rfl) (fun b2 => by kernel_rfl) (fun b2 => ?_)
 refine drawn_next 1 [] (by kernel_rfl) ?_
 refine drawn_one 18 0 rfl (by kernel_rfl) ?_
 refine one_step 0 [(0, .pointer (pB m)), (1, .pointer (some ⟨m', 0, none⟩)), (3, iq (farI dx)), (4, iq (farI dy)), (7, .pointer (pB b1)), (12, .pointer (pB b2))] [.cells b2 [iq (0 - (farI dx)), iq (0 - (farI dy)), iq (W - (farI dx)), iq (H - (farI dy))] 32 true, .cells b1 [iq a, iq b, iq c, iq d] 32 true, .ro m [iq W, iq H, .slice (pB r) n cap] 84, .gen (rowE (pB r) r n cap 28 1 (ivals .u32 px) false), .ro m' [iq W', iq H', .slice (some ⟨r', 0, none⟩) n' cap'] 84, .gen (rdE (some ⟨r', 0, none⟩) r' 0 n' 1 (ivals .u32 px'))] (by kernel_rfl) (by kernel_rfl) ?_
 refine drawn_next 1 [] (by kernel_rfl) ?_
 refine drawn_done (by kernel_rfl) ?_
 refine then_normal ?_
 refine cont_seq ?_
 refine drawn_enter 7 [1] rfl (by kernel_rfl) ?_
 refine takes 0 [1] [(1, 0), (4, 0)] 5 [4, 1] [(0, .pointer (pB m)), (1, .pointer (some ⟨m', 0, none⟩)), (3, iq (farI dx)), (4, iq (farI dy)), (7, .pointer (pB b1)), (39, .pointer (some ⟨m', 0, none⟩)), (42, .agg #[iq (0 - (farI dx)), iq (0 - (farI dy)), iq (W - (farI dx)), iq (H - (farI dy))])] (by kernel_rfl) (pok_then pok_body) (by kernel_rfl) rfl rfl (by kernel_rfl) (by kernel_rfl) ?_
 refine drawn_two 0 2 4 rfl (by kernel_rfl) ?_ ?_
 ·
  refine one_step 1 [(0, .pointer (pB m)), (1, .pointer (some ⟨m', 0, none⟩)), (3, iq (farI dx)), (4, iq (farI dy)), (7, .pointer (pB b1)), (38, .agg #[iq a, iq b, iq c, iq d]), (39, .pointer (some ⟨m', 0, none⟩)), (42, .agg #[iq (0 - (farI dx)), iq (0 - (farI dy)), iq (W - (farI dx)), iq (H - (farI dy))])] [.cells b2 [iq (0 - (farI dx)), iq (0 - (farI dy)), iq (W - (farI dx)), iq (H - (farI dy))] 32 true, .cells b1 [iq a, iq b, iq c, iq d] 32 true, .ro m [iq W, iq H, .slice (pB r) n cap] 84, .gen (rowE (pB r) r n cap 28 1 (ivals .u32 px) false), .ro m' [iq W', iq H', .slice (some ⟨r', 0, none⟩) n' cap'] 84, .gen (rdE (some ⟨r', 0, none⟩) r' 0 n' 1 (ivals .u32 px'))] (by kernel_rfl) (by kernel_rfl) ?_
  refine drawn_next 0 [1] (by kernel_rfl) ?_
  refine drawn_one 2 3 rfl (by kernel_rfl) ?_
  refine call_pure (d := 40) (.agg #[iq 0, iq 0, iq W', iq H']) (by kernel_rfl) (fun w hT => imgBox m' W' H' r' n' cap' px'  w ⟨hT.ok 4 _ rfl, hT.ok 5 _ rfl, by omega⟩ hok') ?_
  refine drawn_next 0 [1] (by kernel_rfl) ?_
  refine drawn_one 3 2 rfl (by kernel_rfl) ?_
  refine call_pure (d := 41) (.agg #[iq ((cutR a b c d 0 0 W' H').x0), iq ((cutR a b c d 0 0 W' H').y0), iq ((cutR a b c d 0 0 W' H').x1), iq ((cutR a b c d 0 0 W' H').y1)]) (by kernel_rfl) (fun w hT => rectCut a b c d 0 0 W' H' w) ?_
  refine drawn_next 0 [1] (by kernel_rfl) ?_
  refine drawn_one 5 1 rfl (by kernel_rfl) ?_
  refine call_pure (d := 43) (.agg #[iq ((cutR ((cutR a b c d 0 0 W' H').x0) ((cutR a b c d 0 0 W' H').y0) ((cutR a b c d 0 0 W' H').x1) ((cutR a b c d 0 0 W' H').y1) (0 - (farI dx)) (0 - (farI dy)) (W - (farI dx)) (H - (farI dy))).x0), iq ((cutR ((cutR a b c d 0 0 W' H').x0) ((cutR a b c d 0 0 W' H').y0) ((cutR a b c d 0 0 W' H').x1) ((cutR a b c d 0 0 W' H').y1) (0 - (farI dx)) (0 - (farI dy)) (W - (farI dx)) (H - (farI dy))).y0), iq ((cutR ((cutR a b c d 0 0 W' H').x0) ((cutR a b c d 0 0 W' H').y0) ((cutR a b c d 0 0 W' H').x1) ((cutR a b c d 0 0 W' H').y1) (0 - (farI dx)) (0 - (farI dy)) (W - (farI dx)) (H - (farI dy))).x1), iq ((cutR ((cutR a b c d 0 0 W' H').x0) ((cutR a b c d 0 0 W' H').y0) ((cutR a b c d 0 0 W' H').x1) ((cutR a b c d 0 0 W' H').y1) (0 - (farI dx)) (0 - (farI dy)) (W - (farI dx)) (H - (farI dy))).y1)]) (by kernel_rfl) (fun w hT => rectCut ((cutR a b c d 0 0 W' H').x0) ((cutR a b c d 0 0 W' H').y0) ((cutR a b c d 0 0 W' H').x1) ((cutR a b c d 0 0 W' H').y1) (0 - (farI dx)) (0 - (farI dy)) (W - (farI dx)) (H - (farI dy)) w) ?_
  obtain ⟨R, hR⟩ : ∃ R : Rect, R = copyR a b c d W' H' (farI dx) (farI dy) W H := ⟨_, rfl⟩
  have hcs := copyR_in a b c d W' H' (farI dx) (farI dy) W H hR hw1 hh1 ⟨hok'.w1, hok'.w2⟩ ⟨hok'.h1, hok'.h2⟩
  refine cont_recast 43 (.agg #[iq ((cutR ((cutR a b c d 0 0 W' H').x0) ((cutR a b c d 0 0 W' H').y0) ((cutR a b c d 0 0 W' H').x1) ((cutR a b c d 0 0 W' H').y1) (0 - (farI dx)) (0 - (farI dy)) (W - (farI dx)) (H - (farI dy))).x0), iq ((cutR ((cutR a b c d 0 0 W' H').x0) ((cutR a b c d 0 0 W' H').y0) ((cutR a b c d 0 0 W' H').x1) ((cutR a b c d 0 0 W' H').y1) (0 - (farI dx)) (0 - (farI dy)) (W - (farI dx)) (H - (farI dy))).y0), iq ((cutR ((cutR a b c d 0 0 W' H').x0) ((cutR a b c d 0 0 W' H').y0) ((cutR a b c d 0 0 W' H').x1) ((cutR a b c d 0 0 W' H').y1) (0 - (farI dx)) (0 - (farI dy)) (W - (farI dx)) (H - (farI dy))).x1), iq ((cutR ((cutR a b c d 0 0 W' H').x0) ((cutR a b c d 0 0 W' H').y0) ((cutR a b c d 0 0 W' H').x1) ((cutR a b c d 0 0 W' H').y1) (0 - (farI dx)) (0 - (farI dy)) (W - (farI dx)) (H - (farI dy))).y1)]) (.agg #[iq R.x0, iq R.y0, iq R.x1, iq R.y1]) rfl (by rw [hR]; rfl) ?_
  refine drawn_next 0 [1] (by kernel_rfl) ?_
  refine drawn_one 6 0 rfl (by kernel_rfl) ?_
  refine one_step 1 [(0, .pointer (pB m)), (1, .pointer (some ⟨m', 0, none⟩)), (3, iq (farI dx)), (4, iq (farI dy)), (7, .pointer (pB b1))] [.cells b2 [iq (0 - (farI dx)), iq (0 - (farI dy)), iq (W - (farI dx)), iq (H - (farI dy))] 32 true, .cells b1 [iq R.x0, iq R.y0, iq R.x1, iq R.y1] 32 true, .ro m [iq W, iq H, .slice (pB r) n cap] 84, .gen (rowE (pB r) r n cap 28 1 (ivals .u32 px) false), .ro m' [iq W', iq H', .slice (some ⟨r', 0, none⟩) n' cap'] 84, .gen (rdE (some ⟨r', 0, none⟩) r' 0 n' 1 (ivals .u32 px'))] (by kernel_rfl) (by kernel_rfl) ?_
  refine drawn_next 0 [1] (by kernel_rfl) ?_
  refine drawn_done (by kernel_rfl) ?_
  refine then_normal ?_
  refine cont_seq ?_
  refine cont_region 3 rfl ?_
  refine bS [0] 1 2 [(0, .pointer (pB m)), (3, iq (farI dx)), (4, iq (farI dy)), (7, .pointer (pB b1)), (44, .pointer (some ⟨m', 0, none⟩))] ?_
  refine cont_forget 0 rfl ?_
  refine pl_step 2 1 rfl rfl ?_
  refine call_gen (d := 45) (α := Nat × Nat × Nat) (fun x_ => .pointer (pB x_.1)) (fun x_ => [.cells x_.1 [iq W', iq H', .slice (pB x_.2.1) n' x_.2.2] 84 true, .gen (rowE (pB x_.2.1) x_.2.1 n' x_.2.2 28 1 (ivals .u32 px') true), .cells b1 [iq R.x0, iq R.y0, iq R.x1, iq R.y1] 32 true, .ro m [iq W, iq H, .slice (pB r) n cap] 84, .gen (rowE (pB r) r n cap 28 1 (ivals .u32 px) false), .ro m' [iq W', iq H', .slice (some ⟨r', 0, none⟩) n' cap'] 84, .gen (rdE (some ⟨r', 0, none⟩) r' 0 n' 1 (ivals .u32 px'))]) (fun _ => True) (by kernel_rfl) (fun w hT => (imgClone m' W' H' r' n' cap' px' w ⟨hT.ok 3 _ rfl, hT.ok 4 _ rfl, by omega⟩ hok').mono fun e w' ⟨b_, g_, c_, he_, hi_⟩ => ⟨(b_, g_, c_), he_, trivial, hT.addImg hi_⟩) ?_
  rintro ⟨cb3, cg3, cc3⟩ -
  refine cont_norm [(0, .pointer (pB m)), (3, iq (farI dx)), (4, iq (farI dy)), (7, .pointer (pB b1)), (44, .pointer (some ⟨m', 0, none⟩)), (45, .pointer (pB cb3))] _ (by kernel_rfl) rfl ?_
  refine bS [0] 3 0 [(0, .pointer (pB m)), (3, iq (farI dx)), (4, iq (farI dy)), (7, .pointer (pB b1)), (13, .pointer (pB cb3))] ?_
  refine cont_done ?_
  refine then_normal ?_
  refine cont_seq ?_
  refine cont_seq ?_
  refine cont_region 3 rfl ?_
  refine bS [0, 2, 0] 3 0 [(0, .pointer (pB m)), (3, iq (farI dx)), (4, iq (farI dy)), (7, .pointer (pB b1)), (13, .pointer (pB cb3)), (14, iq R.y0)] ?_
  refine cont_done ?_
  refine then_normal ?_
  refine cont_block ?_
  refine cont_rowEq (k := .u32) 4 (px) (copyP W px W' px' R.x0 R.y0 R.x1 R.y0 (farI dx) (farI dy)) rfl ((copyP_none _ _ _ _ _ _ _ _ _ _ (by omega)).symm) ?_
  refine cont_loop (α := Int) (fun x_ : Int => R.y0 ≤ x_ ∧ x_ ≤ R.y1) (fun x_ : Int => [(0, .pointer (pB m)), (3, iq (farI dx)), (4, iq (farI dy)), (7, .pointer (pB b1)), (13, .pointer (pB cb3)), (14, iq x_)]) (fun x_ : Int => [.cells cb3 [iq W', iq H', .slice (pB cg3) n' cc3] 84 true, .gen (rowE (pB cg3) cg3 n' cc3 28 1 (ivals .u32 px') true), .cells b1 [iq R.x0, iq R.y0, iq R.x1, iq R.y1] 32 true, .ro m [iq W, iq H, .slice (pB r) n cap] 84, .gen (rowE (pB r) r n cap 28 1 (ivals .u32 (copyP W px W' px' R.x0 R.y0 R.x1 x_ (farI dx) (farI dy))) false), .ro m' [iq W', iq H', .slice (some ⟨r', 0, none⟩) n' cap'] 84, .gen (rdE (some ⟨r', 0, none⟩) r' 0 n' 1 (ivals .u32 px'))]) (fun x_ : Int => (R.y1 - x_).toNat) R.y0 (⟨by omega, by omega⟩) (by kernel_rfl) (by kernel_rfl) ?_
  rintro y hinv4_
  replace hinv4_ : R.y0 ≤ y ∧ y ≤ R.y1 := hinv4_
  refine cont_norm [(0, .pointer (pB m)), (3, iq (farI dx)), (4, iq (farI dy)), (7, .pointer (pB b1)), (13, .pointer (pB cb3)), (14, iq y)] _ (by kernel_rfl) rfl ?_
  obtain ⟨hy0, hy1⟩ := hinv4_
  have hpa : y < R.y1 → 0 ≤ (y + farI dy) * W ∧ (y + farI dy) * W ≤ 65536 ∧ (y + farI dy) * W + (W - 1) < n := fun h => hok.place (x := W - 1) (y := y + farI dy) (by omega) (by omega) (by omega) (by omega)
  have hpb : y < R.y1 → 0 ≤ y * W' ∧ y * W' ≤ 65536 ∧ y * W' + (W' - 1) < n' := fun h => hok'.place (x := W' - 1) (y := y) (by omega) (by omega) (by omega) (by omega)
  refine cont_seq ?_
  refine cont_seq ?_
  refine cont_region 4 rfl ?_
  refine bS [0, 0, 2, 0] 4 0 [(0, .pointer (pB m)), (3, iq (farI dx)), (4, iq (farI dy)), (7, .pointer (pB b1)), (13, .pointer (pB cb3)), (14, iq y), (51, .bool (decide (y < R.y1)))] ?_
  refine cont_done ?_
  refine then_normal ?_
  refine cont_split 51 (decide (y < R.y1)) rfl (fun c5_ => ?_) (fun c5_ => ?_)
  ·
   replace c5_ := of_decide_eq_true c5_
   refine cont_true rfl ?_
   refine cont_skip ?_
   refine then_normal ?_
   refine cont_seq ?_
   refine cont_block ?_
   refine drawn_enter 21 [4] rfl (by kernel_rfl) ?_
   refine takes 0 [4] [(0, 0), (1, 0), (2, 0), (4, 0), (6, 0), (8, 0), (10, 0), (13, 0), (14, 0), (15, 0), (17, 0), (3, 0)] 9 [3, 17, 15, 14, 13, 10, 8, 6, 4, 2, 1, 0] [(0, .pointer (pB m)), (3, iq (farI dx)), (4, iq (farI dy)), (7, .pointer (pB b1)), (13, .pointer (pB cb3)), (14, iq y), (54, .pointer (pB m)), (57, iq (IntKind.i64.wrap (y + (farI dy)))), (58, .pointer (pB b1)), (60, iq (farI dx)), (62, .pointer (some ⟨b1, 2, none⟩)), (64, iq (farI dx)), (67, .pointer (pB cb3)), (68, iq y), (69, .pointer (pB b1)), (71, .pointer (some ⟨b1, 2, none⟩))] (by kernel_rfl) (pok_blk (pok_then (pok_then (pok_blk (pok_then pok_body))))) (by kernel_rfl) rfl rfl (by kernel_rfl) (by kernel_rfl) ?_
   refine cont_recast 57 (iq (IntKind.i64.wrap (y + (farI dy)))) (iq (y + (farI dy))) rfl (wrapI (by omega) (by omega)) ?_
   refine takes 0 [4] [(5, 2), (9, 2), (16, 2), (18, 2), (7, 0)] 4 [7, 18, 16, 9, 5, 3, 17, 15, 14, 13, 10, 8, 6, 4, 2, 1, 0] [(0, .pointer (pB m)), (3, iq (farI dx)), (4, iq (farI dy)), (7, .pointer (pB b1)), (13, .pointer (pB cb3)), (14, iq y), (54, .pointer (pB m)), (57, iq (y + (farI dy))), (61, iq (IntKind.i64.wrap (R.x0 + (farI dx)))), (63, iq R.x1), (64, iq (farI dx)), (67, .pointer (pB cb3)), (68, iq y), (70, iq R.x0), (72, iq R.x1)] (by kernel_rfl) (pok_blk (pok_then (pok_then (pok_blk (pok_then pok_body))))) (by kernel_rfl) rfl rfl (by kernel_rfl) (by kernel_rfl) ?_
   refine cont_recast 61 (iq (IntKind.i64.wrap (R.x0 + (farI dx)))) (iq (R.x0 + (farI dx))) rfl (wrapI (by omega) (by omega)) ?_
   refine takes 0 [4] [(11, 0)] 3 [11, 7, 18, 16, 9, 5, 3, 17, 15, 14, 13, 10, 8, 6, 4, 2, 1, 0] [(0, .pointer (pB m)), (3, iq (farI dx)), (4, iq (farI dy)), (7, .pointer (pB b1)), (13, .pointer (pB cb3)), (14, iq y), (54, .pointer (pB m)), (57, iq (y + (farI dy))), (61, iq (R.x0 + (farI dx))), (65, iq (IntKind.i64.wrap (R.x1 + (farI dx)))), (67, .pointer (pB cb3)), (68, iq y), (70, iq R.x0), (72, iq R.x1)] (by kernel_rfl) (pok_blk (pok_then (pok_then (pok_blk (pok_then pok_body))))) (by kernel_rfl) rfl rfl (by kernel_rfl) (by kernel_rfl) ?_
   refine cont_recast 65 (iq (IntKind.i64.wrap (R.x1 + (farI dx)))) (iq (R.x1 + (farI dx))) rfl (wrapI (by omega) (by omega)) ?_
   refine drawn_one 12 2 rfl (by kernel_rfl) ?_
   refine call_pure (d := 66) (.slice (sliceA r 0 (Int.toNat ((y + (farI dy)) * W + (R.x0 + (farI dx)))) cap 1) (Int.toNat ((y + (farI dy)) * W + (R.x1 + (farI dx))) - Int.toNat ((y + (farI dy)) * W + (R.x0 + (farI dx)))) (cap - Int.toNat ((y + (farI dy)) * W + (R.x0 + (farI dx))))) (by kernel_rfl) (fun w hT => imgRow m W H r n cap (copyP W px W' px' R.x0 R.y0 R.x1 y (farI dx) (farI dy)) (y + (farI dy)) (R.x0 + (farI dx)) (R.x1 + (farI dx)) w ⟨hT.ok 3 _ rfl, Row.rd (hT.ok 4 _ rfl), Row.capLe (hT.ok 4 _ rfl)⟩ (hok.copyP hok' _ _ _ _ _ _) (by omega)) ?_
   refine drawn_next 0 [4] (by kernel_rfl) ?_
   refine drawn_one 19 1 rfl (by kernel_rfl) ?_
   refine call_pure (d := 73) (.slice (sliceA cg3 0 (Int.toNat (y * W' + R.x0)) cc3 1) (Int.toNat (y * W' + R.x1) - Int.toNat (y * W' + R.x0)) (cc3 - Int.toNat (y * W' + R.x0))) (by kernel_rfl) (fun w hT => imgRow cb3 W' H' cg3 n' cc3 px' y R.x0 R.x1 w ⟨hT.ok 0 _ rfl, Row.rd (hT.ok 1 _ rfl), Row.capLe (hT.ok 1 _ rfl)⟩ hok' (by omega)) ?_
   refine drawn_next 0 [4] (by kernel_rfl) ?_
   refine drawn_one 20 0 rfl (by kernel_rfl) ?_
   refine sem_stepW 74 (Builtin.copy_ #[35, 35] 3 #[.slice (sliceA r 0 (Int.toNat ((y + (farI dy)) * W + (R.x0 + (farI dx)))) cap 1) (Int.toNat ((y + (farI dy)) * W + (R.x1 + (farI dx))) - Int.toNat ((y + (farI dy)) * W + (R.x0 + (farI dx)))) (cap - Int.toNat ((y + (farI dy)) * W + (R.x0 + (farI dx)))), .slice (sliceA cg3 0 (Int.toNat (y * W' + R.x0)) cc3 1) (Int.toNat (y * W' + R.x1) - Int.toNat (y * W' + R.x0)) (cc3 - Int.toNat (y * W' + R.x0))]) (fun _ => iq ((min (Int.toNat (y * W' + R.x1) - Int.toNat (y * W' + R.x0)) (Int.toNat ((y + (farI dy)) * W + (R.x1 + (farI dx))) - Int.toNat ((y + (farI dy)) * W + (R.x0 + (farI dx)))) : Nat) : Int)) (fun _ => [.cells cb3 [iq W', iq H', .slice (pB cg3) n' cc3] 84 true, .gen (rowE (pB cg3) cg3 n' cc3 28 1 (ivals .u32 px') true), .cells b1 [iq R.x0, iq R.y0, iq R.x1, iq R.y1] 32 true, .ro m [iq W, iq H, .slice (pB r) n cap] 84, .gen (rowE (pB r) r n cap 28 1 (ivals .u32 (copyP W px W' px' R.x0 R.y0 R.x1 (y + 1) (farI dx) (farI dy))) false), .ro m' [iq W', iq H', .slice (some ⟨r', 0, none⟩) n' cap'] 84, .gen (rdE (some ⟨r', 0, none⟩) r' 0 n' 1 (ivals .u32 px'))]) (fun _ => True) (by kernel_rfl) (fun w hT => copy_row (o := 0 + (Int.toNat ((y + (farI dy)) * W + (R.x0 + (farI dx)))) * 1) hT (i := 4) rfl (by kernel_rfl) (by kernel_rfl) (fun h_ => sliceA_pos (by omega)) (by omega) (Row.sub (hT.ok 1 _ rfl) (by omega)) (copyP_row hok hok' (by omega) (by omega) (by omega) (by omega) (by omega) (by omega) (by omega) (by omega) (by omega) (by omega) (by omega) rfl (by omega) (by omega))) (fun _ _ => ?_)
   refine drawn_next 0 [4] (by kernel_rfl) ?_
   refine drawn_done (by kernel_rfl) ?_
   refine blk_normal ?_
   refine then_normal ?_
   refine cont_region 3 rfl ?_
   refine bS [0, 0] 2 1 [(0, .pointer (pB m)), (3, iq (farI dx)), (4, iq (farI dy)), (7, .pointer (pB b1)), (13, .pointer (pB cb3)), (53, iq (IntKind.i64.wrap (y + 1)))] ?_
   refine cont_recast 53 (iq (IntKind.i64.wrap (y + 1))) (iq (y + 1)) rfl (wrapI (by omega) (by omega)) ?_
   refine bS [0] 3 0 [(0, .pointer (pB m)), (3, iq (farI dx)), (4, iq (farI dy)), (7, .pointer (pB b1)), (13, .pointer (pB cb3)), (14, iq (y + 1))] ?_
   refine cont_done ?_
   refine then_normal ?_
   refine cont_again (y + 1) (show R.y0 ≤ (y + 1) ∧ (y + 1) ≤ R.y1 from ⟨by omega, by omega⟩) (show (R.y1 - (y + 1)).toNat < (R.y1 - y).toNat from by omega) (by kernel_rfl) (by kernel_rfl)
  replace c5_ := of_decide_eq_false c5_
  refine cont_false rfl ?_
  refine cont_exit ?_
  refine then_exit ?_
  refine then_exit ?_
  refine blk_exit ?_
  refine then_normal ?_
  refine cont_seq ?_
  refine cont_region 3 rfl ?_
  refine bS [2] 1 2 [(75, .agg #[iq R.x0, iq R.y0, iq R.x1, iq R.y1])] ?_
  refine cont_forget 0 rfl ?_
  refine cont_forget 1 rfl ?_
  refine pl_step 2 1 rfl rfl ?_
  refine call_pure (d := 76) (iq (areaI R.x0 R.y0 R.x1 R.y1)) (by kernel_rfl) (fun w hT => rectArea R.x0 R.y0 R.x1 R.y1 w (by omega) (by omega) (by omega) (by omega)) ?_
  refine bS [0] 3 0 [(10, iq (areaI R.x0 R.y0 R.x1 R.y1))] ?_
  refine cont_done ?_
  refine then_normal ?_
  refine cont_ret ?_
  refine ret_one (.inl rfl) rfl 0 (iq (areaI R.x0 R.y0 R.x1 R.y1)) (by kernel_rfl) (by kernel_rfl) (fun w hT => ?_)
  replace hT := hT.erase 0 (fun e h hw => by cases h; first | rfl | cases hw)
  rw [show y = R.y1 by omega, hR] at hT
  exact ⟨by rw [hR], hT⟩
 refine call_pure (d := 40) (.agg #[iq 0, iq 0, iq W', iq H']) (by kernel_rfl) (fun w hT => imgBox m' W' H' r' n' cap' px'  w ⟨hT.ok 4 _ rfl, hT.ok 5 _ rfl, by omega⟩ hok') ?_
 refine drawn_next 0 [1] (by kernel_rfl) ?_
 refine drawn_one 0 3 rfl (by kernel_rfl) ?_
 refine one_step 1 [(0, .pointer (pB m)), (1, .pointer (some ⟨m', 0, none⟩)), (3, iq (farI dx)), (4, iq (farI dy)), (7, .pointer (pB b1)), (38, .agg #[iq a, iq b, iq c, iq d]), (40, .agg #[iq 0, iq 0, iq W', iq H']), (42, .agg #[iq (0 - (farI dx)), iq (0 - (farI dy)), iq (W - (farI dx)), iq (H - (farI dy))])] [.cells b2 [iq (0 - (farI dx)), iq (0 - (farI dy)), iq (W - (farI dx)), iq (H - (farI dy))] 32 true, .cells b1 [iq a, iq b, iq c, iq d] 32 true, .ro m [iq W, iq H, .slice (pB r) n cap] 84, .gen (rowE (pB r) r n cap 28 1 (ivals .u32 px) false), .ro m' [iq W', iq H', .slice (some ⟨r', 0, none⟩) n' cap'] 84, .gen (rdE (some ⟨r', 0, none⟩) r' 0 n' 1 (ivals .u32 px'))] (by kernel_rfl) (by kernel_rfl) ?_
 refine drawn_next 0 [1] (by kernel_rfl) ?_
 refine drawn_one 3 2 rfl (by kernel_rfl) ?_
 refine call_pure (d := 41) (.agg #[iq ((cutR a b c d 0 0 W' H').x0), iq ((cutR a b c d 0 0 W' H').y0), iq ((cutR a b c d 0 0 W' H').x1), iq ((cutR a b c d 0 0 W' H').y1)]) (by kernel_rfl) (fun w hT => rectCut a b c d 0 0 W' H' w) ?_
 refine drawn_next 0 [1] (by kernel_rfl) ?_
 refine drawn_one 5 1 rfl (by kernel_rfl) ?_
 refine call_pure (d := 43) (.agg #[iq ((cutR ((cutR a b c d 0 0 W' H').x0) ((cutR a b c d 0 0 W' H').y0) ((cutR a b c d 0 0 W' H').x1) ((cutR a b c d 0 0 W' H').y1) (0 - (farI dx)) (0 - (farI dy)) (W - (farI dx)) (H - (farI dy))).x0), iq ((cutR ((cutR a b c d 0 0 W' H').x0) ((cutR a b c d 0 0 W' H').y0) ((cutR a b c d 0 0 W' H').x1) ((cutR a b c d 0 0 W' H').y1) (0 - (farI dx)) (0 - (farI dy)) (W - (farI dx)) (H - (farI dy))).y0), iq ((cutR ((cutR a b c d 0 0 W' H').x0) ((cutR a b c d 0 0 W' H').y0) ((cutR a b c d 0 0 W' H').x1) ((cutR a b c d 0 0 W' H').y1) (0 - (farI dx)) (0 - (farI dy)) (W - (farI dx)) (H - (farI dy))).x1), iq ((cutR ((cutR a b c d 0 0 W' H').x0) ((cutR a b c d 0 0 W' H').y0) ((cutR a b c d 0 0 W' H').x1) ((cutR a b c d 0 0 W' H').y1) (0 - (farI dx)) (0 - (farI dy)) (W - (farI dx)) (H - (farI dy))).y1)]) (by kernel_rfl) (fun w hT => rectCut ((cutR a b c d 0 0 W' H').x0) ((cutR a b c d 0 0 W' H').y0) ((cutR a b c d 0 0 W' H').x1) ((cutR a b c d 0 0 W' H').y1) (0 - (farI dx)) (0 - (farI dy)) (W - (farI dx)) (H - (farI dy)) w) ?_
 obtain ⟨R, hR⟩ : ∃ R : Rect, R = copyR a b c d W' H' (farI dx) (farI dy) W H := ⟨_, rfl⟩
 have hcs := copyR_in a b c d W' H' (farI dx) (farI dy) W H hR hw1 hh1 ⟨hok'.w1, hok'.w2⟩ ⟨hok'.h1, hok'.h2⟩
 refine cont_recast 43 (.agg #[iq ((cutR ((cutR a b c d 0 0 W' H').x0) ((cutR a b c d 0 0 W' H').y0) ((cutR a b c d 0 0 W' H').x1) ((cutR a b c d 0 0 W' H').y1) (0 - (farI dx)) (0 - (farI dy)) (W - (farI dx)) (H - (farI dy))).x0), iq ((cutR ((cutR a b c d 0 0 W' H').x0) ((cutR a b c d 0 0 W' H').y0) ((cutR a b c d 0 0 W' H').x1) ((cutR a b c d 0 0 W' H').y1) (0 - (farI dx)) (0 - (farI dy)) (W - (farI dx)) (H - (farI dy))).y0), iq ((cutR ((cutR a b c d 0 0 W' H').x0) ((cutR a b c d 0 0 W' H').y0) ((cutR a b c d 0 0 W' H').x1) ((cutR a b c d 0 0 W' H').y1) (0 - (farI dx)) (0 - (farI dy)) (W - (farI dx)) (H - (farI dy))).x1), iq ((cutR ((cutR a b c d 0 0 W' H').x0) ((cutR a b c d 0 0 W' H').y0) ((cutR a b c d 0 0 W' H').x1) ((cutR a b c d 0 0 W' H').y1) (0 - (farI dx)) (0 - (farI dy)) (W - (farI dx)) (H - (farI dy))).y1)]) (.agg #[iq R.x0, iq R.y0, iq R.x1, iq R.y1]) rfl (by rw [hR]; rfl) ?_
 refine drawn_next 0 [1] (by kernel_rfl) ?_
 refine drawn_one 6 0 rfl (by kernel_rfl) ?_
 refine one_step 1 [(0, .pointer (pB m)), (1, .pointer (some ⟨m', 0, none⟩)), (3, iq (farI dx)), (4, iq (farI dy)), (7, .pointer (pB b1))] [.cells b2 [iq (0 - (farI dx)), iq (0 - (farI dy)), iq (W - (farI dx)), iq (H - (farI dy))] 32 true, .cells b1 [iq R.x0, iq R.y0, iq R.x1, iq R.y1] 32 true, .ro m [iq W, iq H, .slice (pB r) n cap] 84, .gen (rowE (pB r) r n cap 28 1 (ivals .u32 px) false), .ro m' [iq W', iq H', .slice (some ⟨r', 0, none⟩) n' cap'] 84, .gen (rdE (some ⟨r', 0, none⟩) r' 0 n' 1 (ivals .u32 px'))] (by kernel_rfl) (by kernel_rfl) ?_
 refine drawn_next 0 [1] (by kernel_rfl) ?_
 refine drawn_done (by kernel_rfl) ?_
 refine then_normal ?_
 refine cont_seq ?_
 refine cont_region 3 rfl ?_
 refine bS [0] 1 2 [(0, .pointer (pB m)), (3, iq (farI dx)), (4, iq (farI dy)), (7, .pointer (pB b1)), (44, .pointer (some ⟨m', 0, none⟩))] ?_
 refine cont_forget 0 rfl ?_
 refine pl_step 2 1 rfl rfl ?_
 refine call_gen (d := 45) (α := Nat × Nat × Nat) (fun x_ => .pointer (pB x_.1)) (fun x_ => [.cells x_.1 [iq W', iq H', .slice (pB x_.2.1) n' x_.2.2] 84 true, .gen (rowE (pB x_.2.1) x_.2.1 n' x_.2.2 28 1 (ivals .u32 px') true), .cells b1 [iq R.x0, iq R.y0, iq R.x1, iq R.y1] 32 true, .ro m [iq W, iq H, .slice (pB r) n cap] 84, .gen (rowE (pB r) r n cap 28 1 (ivals .u32 px) false), .ro m' [iq W', iq H', .slice (some ⟨r', 0, none⟩) n' cap'] 84, .gen (rdE (some ⟨r', 0, none⟩) r' 0 n' 1 (ivals .u32 px'))]) (fun _ => True) (by kernel_rfl) (fun w hT => (imgClone m' W' H' r' n' cap' px' w ⟨hT.ok 3 _ rfl, hT.ok 4 _ rfl, by omega⟩ hok').mono fun e w' ⟨b_, g_, c_, he_, hi_⟩ => ⟨(b_, g_, c_), he_, trivial, hT.addImg hi_⟩) ?_
 rintro ⟨cb6, cg6, cc6⟩ -
 refine cont_norm [(0, .pointer (pB m)), (3, iq (farI dx)), (4, iq (farI dy)), (7, .pointer (pB b1)), (44, .pointer (some ⟨m', 0, none⟩)), (45, .pointer (pB cb6))] _ (by kernel_rfl) rfl ?_
 refine bS [0] 3 0 [(0, .pointer (pB m)), (3, iq (farI dx)), (4, iq (farI dy)), (7, .pointer (pB b1)), (13, .pointer (pB cb6))] ?_
 refine cont_done ?_
 refine then_normal ?_
 refine cont_seq ?_
 refine cont_seq ?_
 refine cont_region 3 rfl ?_
 refine bS [0, 2, 0] 3 0 [(0, .pointer (pB m)), (3, iq (farI dx)), (4, iq (farI dy)), (7, .pointer (pB b1)), (13, .pointer (pB cb6)), (14, iq R.y0)] ?_
 refine cont_done ?_
 refine then_normal ?_
 refine cont_block ?_
 refine cont_rowEq (k := .u32) 4 (px) (copyP W px W' px' R.x0 R.y0 R.x1 R.y0 (farI dx) (farI dy)) rfl ((copyP_none _ _ _ _ _ _ _ _ _ _ (by omega)).symm) ?_
 refine cont_loop (α := Int) (fun x_ : Int => R.y0 ≤ x_ ∧ x_ ≤ R.y1) (fun x_ : Int => [(0, .pointer (pB m)), (3, iq (farI dx)), (4, iq (farI dy)), (7, .pointer (pB b1)), (13, .pointer (pB cb6)), (14, iq x_)]) (fun x_ : Int => [.cells cb6 [iq W', iq H', .slice (pB cg6) n' cc6] 84 true, .gen (rowE (pB cg6) cg6 n' cc6 28 1 (ivals .u32 px') true), .cells b1 [iq R.x0, iq R.y0, iq R.x1, iq R.y1] 32 true, .ro m [iq W, iq H, .slice (pB r) n cap] 84, .gen (rowE (pB r) r n cap 28 1 (ivals .u32 (copyP W px W' px' R.x0 R.y0 R.x1 x_ (farI dx) (farI dy))) false), .ro m' [iq W', iq H', .slice (some ⟨r', 0, none⟩) n' cap'] 84, .gen (rdE (some ⟨r', 0, none⟩) r' 0 n' 1 (ivals .u32 px'))]) (fun x_ : Int => (R.y1 - x_).toNat) R.y0 (⟨by omega, by omega⟩) (by kernel_rfl) (by kernel_rfl) ?_
 rintro y hinv7_
 replace hinv7_ : R.y0 ≤ y ∧ y ≤ R.y1 := hinv7_
 refine cont_norm [(0, .pointer (pB m)), (3, iq (farI dx)), (4, iq (farI dy)), (7, .pointer (pB b1)), (13, .pointer (pB cb6)), (14, iq y)] _ (by kernel_rfl) rfl ?_
 obtain ⟨hy0, hy1⟩ := hinv7_
 have hpa : y < R.y1 → 0 ≤ (y + farI dy) * W ∧ (y + farI dy) * W ≤ 65536 ∧ (y + farI dy) * W + (W - 1) < n := fun h => hok.place (x := W - 1) (y := y + farI dy) (by omega) (by omega) (by omega) (by omega)
 have hpb : y < R.y1 → 0 ≤ y * W' ∧ y * W' ≤ 65536 ∧ y * W' + (W' - 1) < n' := fun h => hok'.place (x := W' - 1) (y := y) (by omega) (by omega) (by omega) (by omega)
 refine cont_seq ?_
 refine cont_seq ?_
 refine cont_region 4 rfl ?_
 refine bS [0, 0, 2, 0] 4 0 [(0, .pointer (pB m)), (3, iq (farI dx)), (4, iq (farI dy)), (7, .pointer (pB b1)), (13, .pointer (pB cb6)), (14, iq y), (51, .bool (decide (y < R.y1)))] ?_
 refine cont_done ?_
 refine then_normal ?_
 refine cont_split 51 (decide (y < R.y1)) rfl (fun c8_ => ?_) (fun c8_ => ?_)
 ·
  replace c8_ := of_decide_eq_true c8_
  refine cont_true rfl ?_
  refine cont_skip ?_
  refine then_normal ?_
  refine cont_seq ?_
  refine cont_block ?_
  refine drawn_enter 21 [4] rfl (by kernel_rfl) ?_
  refine takes 0 [4] [(0, 0), (1, 0), (2, 0), (4, 0), (6, 0), (8, 0), (10, 0), (13, 0), (14, 0), (15, 0), (17, 0), (3, 0)] 9 [3, 17, 15, 14, 13, 10, 8, 6, 4, 2, 1, 0] [(0, .pointer (pB m)), (3, iq (farI dx)), (4, iq (farI dy)), (7, .pointer (pB b1)), (13, .pointer (pB cb6)), (14, iq y), (54, .pointer (pB m)), (57, iq (IntKind.i64.wrap (y + (farI dy)))), (58, .pointer (pB b1)), (60, iq (farI dx)), (62, .pointer (some ⟨b1, 2, none⟩)), (64, iq (farI dx)), (67, .pointer (pB cb6)), (68, iq y), (69, .pointer (pB b1)), (71, .pointer (some ⟨b1, 2, none⟩))] (by kernel_rfl) (pok_blk (pok_then (pok_then (pok_blk (pok_then pok_body))))) (by kernel_rfl) rfl rfl (by kernel_rfl) (by kernel_rfl) ?_
  refine cont_recast 57 (iq (IntKind.i64.wrap (y + (farI dy)))) (iq (y + (farI dy))) rfl (wrapI (by omega) (by omega)) ?_
  refine takes 0 [4] [(5, 2), (9, 2), (16, 2), (18, 2), (7, 0)] 4 [7, 18, 16, 9, 5, 3, 17, 15, 14, 13, 10, 8, 6, 4, 2, 1, 0] [(0, .pointer (pB m)), (3, iq (farI dx)), (4, iq (farI dy)), (7, .pointer (pB b1)), (13, .pointer (pB cb6)), (14, iq y), (54, .pointer (pB m)), (57, iq (y + (farI dy))), (61, iq (IntKind.i64.wrap (R.x0 + (farI dx)))), (63, iq R.x1), (64, iq (farI dx)), (67, .pointer (pB cb6)), (68, iq y), (70, iq R.x0), (72, iq R.x1)] (by kernel_rfl) (pok_blk (pok_then (pok_then (pok_blk (pok_then pok_body))))) (by kernel_rfl) rfl rfl (by kernel_rfl) (by kernel_rfl) ?_
  refine cont_recast 61 (iq (IntKind.i64.wrap (R.x0 + (farI dx)))) (iq (R.x0 + (farI dx))) rfl (wrapI (by omega) (by omega)) ?_
  refine takes 0 [4] [(11, 0)] 3 [11, 7, 18, 16, 9, 5, 3, 17, 15, 14, 13, 10, 8, 6, 4, 2, 1, 0] [(0, .pointer (pB m)), (3, iq (farI dx)), (4, iq (farI dy)), (7, .pointer (pB b1)), (13, .pointer (pB cb6)), (14, iq y), (54, .pointer (pB m)), (57, iq (y + (farI dy))), (61, iq (R.x0 + (farI dx))), (65, iq (IntKind.i64.wrap (R.x1 + (farI dx)))), (67, .pointer (pB cb6)), (68, iq y), (70, iq R.x0), (72, iq R.x1)] (by kernel_rfl) (pok_blk (pok_then (pok_then (pok_blk (pok_then pok_body))))) (by kernel_rfl) rfl rfl (by kernel_rfl) (by kernel_rfl) ?_
  refine cont_recast 65 (iq (IntKind.i64.wrap (R.x1 + (farI dx)))) (iq (R.x1 + (farI dx))) rfl (wrapI (by omega) (by omega)) ?_
  refine drawn_one 12 2 rfl (by kernel_rfl) ?_
  refine call_pure (d := 66) (.slice (sliceA r 0 (Int.toNat ((y + (farI dy)) * W + (R.x0 + (farI dx)))) cap 1) (Int.toNat ((y + (farI dy)) * W + (R.x1 + (farI dx))) - Int.toNat ((y + (farI dy)) * W + (R.x0 + (farI dx)))) (cap - Int.toNat ((y + (farI dy)) * W + (R.x0 + (farI dx))))) (by kernel_rfl) (fun w hT => imgRow m W H r n cap (copyP W px W' px' R.x0 R.y0 R.x1 y (farI dx) (farI dy)) (y + (farI dy)) (R.x0 + (farI dx)) (R.x1 + (farI dx)) w ⟨hT.ok 3 _ rfl, Row.rd (hT.ok 4 _ rfl), Row.capLe (hT.ok 4 _ rfl)⟩ (hok.copyP hok' _ _ _ _ _ _) (by omega)) ?_
  refine drawn_next 0 [4] (by kernel_rfl) ?_
  refine drawn_one 19 1 rfl (by kernel_rfl) ?_
  refine call_pure (d := 73) (.slice (sliceA cg6 0 (Int.toNat (y * W' + R.x0)) cc6 1) (Int.toNat (y * W' + R.x1) - Int.toNat (y * W' + R.x0)) (cc6 - Int.toNat (y * W' + R.x0))) (by kernel_rfl) (fun w hT => imgRow cb6 W' H' cg6 n' cc6 px' y R.x0 R.x1 w ⟨hT.ok 0 _ rfl, Row.rd (hT.ok 1 _ rfl), Row.capLe (hT.ok 1 _ rfl)⟩ hok' (by omega)) ?_
  refine drawn_next 0 [4] (by kernel_rfl) ?_
  refine drawn_one 20 0 rfl (by kernel_rfl) ?_
  refine sem_stepW 74 (Builtin.copy_ #[35, 35] 3 #[.slice (sliceA r 0 (Int.toNat ((y + (farI dy)) * W + (R.x0 + (farI dx)))) cap 1) (Int.toNat ((y + (farI dy)) * W + (R.x1 + (farI dx))) - Int.toNat ((y + (farI dy)) * W + (R.x0 + (farI dx)))) (cap - Int.toNat ((y + (farI dy)) * W + (R.x0 + (farI dx)))), .slice (sliceA cg6 0 (Int.toNat (y * W' + R.x0)) cc6 1) (Int.toNat (y * W' + R.x1) - Int.toNat (y * W' + R.x0)) (cc6 - Int.toNat (y * W' + R.x0))]) (fun _ => iq ((min (Int.toNat (y * W' + R.x1) - Int.toNat (y * W' + R.x0)) (Int.toNat ((y + (farI dy)) * W + (R.x1 + (farI dx))) - Int.toNat ((y + (farI dy)) * W + (R.x0 + (farI dx)))) : Nat) : Int)) (fun _ => [.cells cb6 [iq W', iq H', .slice (pB cg6) n' cc6] 84 true, .gen (rowE (pB cg6) cg6 n' cc6 28 1 (ivals .u32 px') true), .cells b1 [iq R.x0, iq R.y0, iq R.x1, iq R.y1] 32 true, .ro m [iq W, iq H, .slice (pB r) n cap] 84, .gen (rowE (pB r) r n cap 28 1 (ivals .u32 (copyP W px W' px' R.x0 R.y0 R.x1 (y + 1) (farI dx) (farI dy))) false), .ro m' [iq W', iq H', .slice (some ⟨r', 0, none⟩) n' cap'] 84, .gen (rdE (some ⟨r', 0, none⟩) r' 0 n' 1 (ivals .u32 px'))]) (fun _ => True) (by kernel_rfl) (fun w hT => copy_row (o := 0 + (Int.toNat ((y + (farI dy)) * W + (R.x0 + (farI dx)))) * 1) hT (i := 4) rfl (by kernel_rfl) (by kernel_rfl) (fun h_ => sliceA_pos (by omega)) (by omega) (Row.sub (hT.ok 1 _ rfl) (by omega)) (copyP_row hok hok' (by omega) (by omega) (by omega) (by omega) (by omega) (by omega) (by omega) (by omega) (by omega) (by omega) (by omega) rfl (by omega) (by omega))) (fun _ _ => ?_)
  refine drawn_next 0 [4] (by kernel_rfl) ?_
  refine drawn_done (by kernel_rfl) ?_
  refine blk_normal ?_
  refine then_normal ?_
  refine cont_region 3 rfl ?_
  refine bS [0, 0] 2 1 [(0, .pointer (pB m)), (3, iq (farI dx)), (4, iq (farI dy)), (7, .pointer (pB b1)), (13, .pointer (pB cb6)), (53, iq (IntKind.i64.wrap (y + 1)))] ?_
  refine cont_recast 53 (iq (IntKind.i64.wrap (y + 1))) (iq (y + 1)) rfl (wrapI (by omega) (by omega)) ?_
  refine bS [0] 3 0 [(0, .pointer (pB m)), (3, iq (farI dx)), (4, iq (farI dy)), (7, .pointer (pB b1)), (13, .pointer (pB cb6)), (14, iq (y + 1))] ?_
  refine cont_done ?_
  refine then_normal ?_
  refine cont_again (y + 1) (show R.y0 ≤ (y + 1) ∧ (y + 1) ≤ R.y1 from ⟨by omega, by omega⟩) (show (R.y1 - (y + 1)).toNat < (R.y1 - y).toNat from by omega) (by kernel_rfl) (by kernel_rfl)
 replace c8_ := of_decide_eq_false c8_
 refine cont_false rfl ?_
 refine cont_exit ?_
 refine then_exit ?_
 refine then_exit ?_
 refine blk_exit ?_
 refine then_normal ?_
 refine cont_seq ?_
 refine cont_region 3 rfl ?_
 refine bS [2] 1 2 [(75, .agg #[iq R.x0, iq R.y0, iq R.x1, iq R.y1])] ?_
 refine cont_forget 0 rfl ?_
 refine cont_forget 1 rfl ?_
 refine pl_step 2 1 rfl rfl ?_
 refine call_pure (d := 76) (iq (areaI R.x0 R.y0 R.x1 R.y1)) (by kernel_rfl) (fun w hT => rectArea R.x0 R.y0 R.x1 R.y1 w (by omega) (by omega) (by omega) (by omega)) ?_
 refine bS [0] 3 0 [(10, iq (areaI R.x0 R.y0 R.x1 R.y1))] ?_
 refine cont_done ?_
 refine then_normal ?_
 refine cont_ret ?_
 refine ret_one (.inl rfl) rfl 0 (iq (areaI R.x0 R.y0 R.x1 R.y1)) (by kernel_rfl) (by kernel_rfl) (fun w hT => ?_)
 replace hT := hT.erase 0 (fun e h hw => by cases h; first | rfl | cases hw)
 rw [show y = R.y1 by omega, hR] at hT
 exact ⟨by rw [hR], hT⟩

end Go.Proofs.Ytommojgfkkoghaa

/- The symbolic executor: strings that are made of bytes. Generic in the program. -/
set_option linter.unusedVariables false
set_option linter.unusedSimpArgs false
namespace Go.Proofs.Ytommojgfkkoghaa
open Go Go.RowKit

theorem Rd.nil {w : World} {k : IntKind} : Rd w none 0 0 0 1 (ivals k []) := ⟨rfl, fun h => by omega, fun j v hj => by simp [ivals] at hj⟩
section
variable {P : Program}
end
end Go.Proofs.Ytommojgfkkoghaa

/- Plain words of Read: the bytes of points. -/
set_option linter.unusedVariables false
set_option linter.unusedSimpArgs false
namespace Go.Proofs.Ytommojgfkkoghaa
open Go Go.RowKit

def insB (W H a b c d : Int) : Bool := !emptyB a b c d && coversB 0 0 W H a b c d
theorem insB_true {W H a b c d : Int} (h : insB W H a b c d = true) : a < c ∧ b < d ∧ 0 ≤ a ∧ 0 ≤ b ∧ c ≤ W ∧ d ≤ H := by
  unfold insB coversB at h
  rw [Bool.and_eq_true, Bool.not_eq_true'] at h
  obtain ⟨h1, h2⟩ := h
  have he := emptyB_false.1 h1
  rw [h1] at h2
  simp only [Bool.false_or, Bool.and_eq_true, decide_eq_true_eq] at h2
  omega
end Go.Proofs.Ytommojgfkkoghaa

/- Contracts of functions of the given program, printed by a program of this project. -/
set_option linter.unusedVariables false
set_option linter.unusedSimpArgs false
namespace Go.Proofs.Ytommojgfkkoghaa
open Go Go.RowKit
set_option maxRecDepth 100000
set_option maxHeartbeats 8000000

theorem refEmpty (a b c d : Int) (w : World) :
    Calls Try.prog 45 #[.agg #[.int .i64 a, .int .i64 b, .int .i64 c, .int .i64 d]] w fun e w' => e = .returned (.bool (emptyB a b c d)) ∧ Below w.heap.size w w' := by
 refine enter 15 [(0, .agg #[iq a, iq b, iq c, iq d])] [] Try.func45 rfl Try.ntmps45 rfl (by kernel_rfl) (Tab.start w) ?_
 refine cont_seq ?_
 refine cont_region 2 rfl ?_
 refine batch1 [0, 0] 2 0 (fun b1 => [(1, .pointer (pB b1))]) (fun b1 => [.cells b1 [iq a, iq b, iq c, iq d] 32 true]) rfl rfl [1] (fun _ => rfl) (fun b1 => by kernel_rfl) (fun b1 => by kernel_rfl) (fun b1 => ?_)
 refine cont_done ?_
 refine then_normal ?_
 refine cont_seq ?_
 refine cont_region 13 rfl ?_
 refine bS [0, 0, 0, 0, 0, 0] 6 7 [(1, .pointer (pB b1)), (8, .bool (decide (a ≥ c)))] ?_
 refine cont_split 8 (decide (a ≥ c)) rfl (fun c2_ => ?_) (fun c2_ => ?_)
 ·
  replace c2_ := of_decide_eq_true c2_
  refine bS [0, 0, 0, 0, 0, 0, 0] 13 0 [(2, .bool true)] ?_
  refine cont_forget 0 rfl ?_
  refine cont_done ?_
  refine then_normal ?_
  refine cont_ret ?_
  refine ret_one (.inl rfl) rfl 0 (.bool true) (by kernel_rfl) (by kernel_rfl) (fun w hT => ?_)
  exact ⟨ret_bool (by simp [emptyB, *] <;> omega), hT.post rfl⟩
 replace c2_ := of_decide_eq_false c2_
 refine bS [0, 0, 0, 0, 0, 0, 0] 13 0 [(2, .bool (decide (b ≥ d)))] ?_
 refine cont_forget 0 rfl ?_
 refine cont_done ?_
 refine then_normal ?_
 refine cont_ret ?_
 refine ret_one (.inl rfl) rfl 0 (.bool (decide (b ≥ d))) (by kernel_rfl) (by kernel_rfl) (fun w hT => ?_)
 exact ⟨ret_bool (by simp [emptyB, *] <;> omega), hT.post rfl⟩

theorem refArea (a b c d : Int) (w : World) (ha : -2000000 ≤ a ∧ a ≤ 2000000) (hb : -2000000 ≤ b ∧ b ≤ 2000000) (hc : -2000000 ≤ c ∧ c ≤ 2000000) (hd : -2000000 ≤ d ∧ d ≤ 2000000) :
    Calls Try.prog 38 #[.agg #[.int .i64 a, .int .i64 b, .int .i64 c, .int .i64 d]] w fun e w' => e = .returned (.int .i64 (areaI a b c d)) ∧ Below w.heap.size w w' := by
 refine enter 16 [(0, .agg #[iq a, iq b, iq c, iq d])] [] Try.func38 rfl Try.ntmps38 rfl (by kernel_rfl) (Tab.start w) ?_
 refine cont_seq ?_
 refine cont_region 2 rfl ?_
 refine batch1 [0, 0] 2 0 (fun b1 => [(1, .pointer (pB b1))]) (fun b1 => [.cells b1 [iq a, iq b, iq c, iq d] 32 true]) rfl rfl [1] (fun _ => rfl) (fun b1 => by kernel_rfl) (fun b1 => by kernel_rfl) (fun b1 => ?_)
 refine cont_done ?_
 refine then_normal ?_
 refine cont_seq ?_
 refine cont_seq ?_
 refine cont_region 2 rfl ?_
 refine bS [0] 1 1 [(1, .pointer (pB b1)), (3, .agg #[iq a, iq b, iq c, iq d])] ?_
 refine pl_step 2 0 rfl rfl ?_
 refine call_pure (d := 4) (.bool (emptyB a b c d)) (by kernel_rfl) (fun w hT => refEmpty a b c d w) ?_
 refine cont_done ?_
 refine then_normal ?_
 refine cont_split 4 (emptyB a b c d) rfl (fun c2_ => ?_) (fun c2_ => ?_)
 ·
  refine cont_true rfl ?_
  refine cont_seq ?_
  refine cont_region 1 rfl ?_
  refine bS [0] 1 0 [(2, iq 0)] ?_
  refine cont_forget 0 rfl ?_
  refine cont_done ?_
  refine then_normal ?_
  refine cont_ret ?_
  refine then_ret ?_
  refine ret_one (.inl rfl) rfl 0 (iq 0) (by kernel_rfl) (by kernel_rfl) (fun w hT => ?_)
  exact ⟨ret_int (by simp [areaI, *]), hT.post rfl⟩
 have hem := emptyB_false.1 c2_
 have hp : (c - a) * (d - b) ≤ 4000000 * 4000000 := mul_le_of (by omega) (by omega) (by omega) (by omega)
 have hq : 0 ≤ (c - a) * (d - b) := Int.mul_nonneg (by omega) (by omega)
 refine cont_false rfl ?_
 refine cont_skip ?_
 refine then_normal ?_
 refine cont_seq ?_
 refine cont_region 12 rfl ?_
 refine bS [0, 0, 0, 0, 0] 5 7 [(1, .pointer (pB b1)), (9, iq (IntKind.i64.wrap (c - a)))] ?_
 refine cont_recast 9 (iq (IntKind.i64.wrap (c - a))) (iq (c - a)) rfl (wrapI (by omega) (by omega)) ?_
 refine bS [0, 0, 0, 0, 0] 10 2 [(9, iq (c - a)), (14, iq (IntKind.i64.wrap (d - b)))] ?_
 refine cont_recast 14 (iq (IntKind.i64.wrap (d - b))) (iq (d - b)) rfl (wrapI (by omega) (by omega)) ?_
 refine cont_forget 0 rfl ?_
 refine bS [0] 11 1 [(15, iq (IntKind.i64.wrap ((c - a) * (d - b))))] ?_
 refine cont_recast 15 (iq (IntKind.i64.wrap ((c - a) * (d - b)))) (iq ((c - a) * (d - b))) rfl (wrapI (by omega) (by omega)) ?_
 refine bS [0] 12 0 [(2, iq ((c - a) * (d - b)))] ?_
 refine cont_done ?_
 refine then_normal ?_
 refine cont_ret ?_
 refine ret_one (.inl rfl) rfl 0 (iq ((c - a) * (d - b))) (by kernel_rfl) (by kernel_rfl) (fun w hT => ?_)
 exact ⟨ret_int (by simp [areaI, *]), hT.post rfl⟩

theorem imgIns (m : Nat) (W H : Int) (r n cap : Nat) (px : List Int) (a b c d : Int) (w : World) (hI : ImgR 84 w m W H r n cap px) (hok : ImgOk W H n px) :
    Calls Try.prog 46 #[.pointer (some ⟨m, 0, none⟩), .agg #[.int .i64 a, .int .i64 b, .int .i64 c, .int .i64 d]] w fun e w' => e = .returned (.bool (insB W H a b c d)) ∧ Below w.heap.size w w' := by
 have hcap := hI.cap
 refine enter 14 [(0, .pointer (pB m)), (1, .agg #[iq a, iq b, iq c, iq d])] [.ro m [iq W, iq H, .slice (pB r) n cap] 84, .gen (rdE (pB r) r 0 n 1 (ivals .u32 px))] Try.func46 rfl Try.ntmps46 rfl (by kernel_rfl) hI.tab ?_
 refine cont_seq ?_
 refine cont_region 2 rfl ?_
 refine batch1 [0, 0] 2 0 (fun b1 => [(0, .pointer (pB m)), (3, .pointer (pB b1))]) (fun b1 => [.cells b1 [iq a, iq b, iq c, iq d] 32 true, .ro m [iq W, iq H, .slice (pB r) n cap] 84, .gen (rdE (pB r) r 0 n 1 (ivals .u32 px))]) rfl rfl [0, 3] (fun _ => rfl) (fun b1 => by kernel_rfl) (fun b1 => by kernel_rfl) (fun b1 => ?_)
 refine cont_done ?_
 refine then_normal ?_
 refine cont_seq ?_
 refine drawn_enter 10 [] rfl (by kernel_rfl) ?_
 refine takes 0 [] [(0, 0)] 9 [0] [(0, .pointer (pB m)), (3, .pointer (pB b1)), (5, .agg #[iq a, iq b, iq c, iq d])] (by kernel_rfl) (pok_then pok_body) (by kernel_rfl) rfl rfl (by kernel_rfl) (by kernel_rfl) ?_
 refine drawn_one 1 8 rfl (by kernel_rfl) ?_
 refine call_pure (d := 6) (.bool (emptyB a b c d)) (by kernel_rfl) (fun w hT => rectEmpty a b c d w) ?_
 refine drawn_next 0 [] (by kernel_rfl) ?_
 refine takes 0 [] [(2, 0), (3, 0)] 6 [3, 2, 1, 0] [(0, .pointer (pB m)), (3, .pointer (pB b1)), (8, .bool (!(emptyB a b c d)))] (by kernel_rfl) (pok_then pok_body) (by kernel_rfl) rfl rfl (by kernel_rfl) (by kernel_rfl) ?_
 refine cont_split 8 (!(emptyB a b c d)) rfl (fun c2_ => ?_) (fun c2_ => ?_)
 ·
  replace c2_ : (emptyB a b c d) = false := by simpa using c2_
  refine takes 0 [] [(4, 0), (6, 0)] 4 [6, 4, 3, 2, 1, 0] [(8, .bool true), (9, .pointer (pB m)), (11, .agg #[iq a, iq b, iq c, iq d])] (by kernel_rfl) (pok_then pok_body) (by kernel_rfl) rfl rfl (by kernel_rfl) (by kernel_rfl) ?_
  refine drawn_one 5 3 rfl (by kernel_rfl) ?_
  refine call_pure (d := 10) (.agg #[iq 0, iq 0, iq W, iq H]) (by kernel_rfl) (fun w hT => imgBox m W H r n cap px  w ⟨hT.ok 1 _ rfl, hT.ok 2 _ rfl, by omega⟩ hok) ?_
  refine drawn_next 0 [] (by kernel_rfl) ?_
  refine drawn_one 7 2 rfl (by kernel_rfl) ?_
  refine call_pure (d := 12) (.bool (coversB 0 0 W H a b c d)) (by kernel_rfl) (fun w hT => rectCovers 0 0 W H a b c d w) ?_
  refine drawn_next 0 [] (by kernel_rfl) ?_
  refine takes 0 [] [(8, 0), (9, 0)] 0 [9, 8, 7, 5, 6, 4, 3, 2, 1, 0] [(4, .bool (coversB 0 0 W H a b c d))] (by kernel_rfl) (pok_then pok_body) (by kernel_rfl) rfl rfl (by kernel_rfl) (by kernel_rfl) ?_
  refine drawn_done (by kernel_rfl) ?_
  refine then_normal ?_
  refine cont_ret ?_
  refine ret_one (.inl rfl) rfl 0 (.bool (coversB 0 0 W H a b c d)) (by kernel_rfl) (by kernel_rfl) (fun w hT => ?_)
  exact ⟨ret_bool (by simp [insB, *]), hT.post rfl⟩
 replace c2_ : (emptyB a b c d) = true := by simpa using c2_
 refine takes 0 [] [(4, 0), (6, 0)] 4 [6, 4, 3, 2, 1, 0] [(8, .bool false), (9, undef), (11, undef)] (by kernel_rfl) (pok_then pok_body) (by kernel_rfl) rfl rfl (by kernel_rfl) (by kernel_rfl) ?_
 refine drawn_one 5 3 rfl (by kernel_rfl) ?_
 refine one_step 0 [(8, .bool false), (10, undef), (11, undef)] [.cells b1 [iq a, iq b, iq c, iq d] 32 true, .ro m [iq W, iq H, .slice (pB r) n cap] 84, .gen (rdE (pB r) r 0 n 1 (ivals .u32 px))] (by kernel_rfl) (by kernel_rfl) ?_
 refine drawn_next 0 [] (by kernel_rfl) ?_
 refine drawn_one 7 2 rfl (by kernel_rfl) ?_
 refine one_step 0 [(8, .bool false), (12, undef)] [.cells b1 [iq a, iq b, iq c, iq d] 32 true, .ro m [iq W, iq H, .slice (pB r) n cap] 84, .gen (rdE (pB r) r 0 n 1 (ivals .u32 px))] (by kernel_rfl) (by kernel_rfl) ?_
 refine drawn_next 0 [] (by kernel_rfl) ?_
 refine takes 0 [] [(8, 0), (9, 0)] 0 [9, 8, 7, 5, 6, 4, 3, 2, 1, 0] [(4, .bool false)] (by kernel_rfl) (pok_then pok_body) (by kernel_rfl) rfl rfl (by kernel_rfl) (by kernel_rfl) ?_
 refine drawn_done (by kernel_rfl) ?_
 refine then_normal ?_
 refine cont_ret ?_
 refine ret_one (.inl rfl) rfl 0 (.bool false) (by kernel_rfl) (by kernel_rfl) (fun w hT => ?_)
 exact ⟨ret_bool (by simp [insB, *]), hT.post rfl⟩

end Go.Proofs.Ytommojgfkkoghaa

