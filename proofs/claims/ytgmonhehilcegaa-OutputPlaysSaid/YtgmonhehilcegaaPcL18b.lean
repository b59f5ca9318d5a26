/- Contracts of functions of the given program, printed by a program of this project. -/
import Derived.Test.YtgmonhehilcegaaPcL18
import Derived.Test.YtgmonhehilcegaaProg
set_option linter.unusedVariables false
set_option linter.unusedSimpArgs false
namespace Go.Proofs.Ytgmonhehilcegaa
open Go Go.RowKit
set_option maxRecDepth 100000
set_option maxHeartbeats 8000000

theorem refBox17 (a b W H : Int) (w : World) (hW : W = 1 + aroundI a 16) (hH : H = 1 + aroundI b 16) (ha : -9223372036854775808 ≤ a ∧ a ≤ 9223372036854775807) (hb : -9223372036854775808 ≤ b ∧ b ≤ 9223372036854775807) :
    Calls Try.prog 31 #[.int .i64 a, .int .i64 b] w fun e w' => e = .returned (.agg #[.int .i64 0, .int .i64 0, .int .i64 W, .int .i64 H]) ∧ Below w.heap.size w w' := by
 refine enter 12 [(0, iq a), (1, iq b)] [] Try.func31 rfl Try.ntmps31 rfl (by kernel_rfl) (Tab.start w) ?_
 refine cont_seq ?_
 refine cont_region 1 rfl ?_
 refine batch1 [0] 1 0 (fun b1 => [(0, iq a), (1, iq b), (4, .pointer (pB b1))]) (fun b1 => [.cells b1 [iq 0, iq 0, iq 0, iq 0] 28 true]) rfl rfl [0, 1, 4] (fun _ => rfl) (fun b1 => by kernel_rfl) (fun b1 => by kernel_rfl) (fun b1 => ?_)
 refine cont_done ?_
 refine then_normal ?_
 refine cont_seq ?_
 refine cont_region 8 rfl ?_
 refine bS [0] 1 7 [(1, iq b), (4, .pointer (pB b1)), (5, iq a)] ?_
 refine pl_step 2 6 rfl rfl ?_
 refine call_pure (d := 6) (iq (aroundI a 16)) (by kernel_rfl) (fun w hT => refAround a 16 w (by omega) (by omega)) ?_
 have hq2_ := aroundI_range a (m := 16) (by omega)
 refine bS [0] 3 5 [(1, iq b), (4, .pointer (pB b1)), (7, iq (IntKind.i64.wrap (1 + (aroundI a 16))))] ?_
 refine cont_recast 7 (iq (IntKind.i64.wrap (1 + (aroundI a 16)))) (iq (1 + (aroundI a 16))) rfl (wrapI (by omega) (by omega)) ?_
 refine bS [0] 4 4 [(4, .pointer (pB b1)), (7, iq (1 + (aroundI a 16))), (8, iq b)] ?_
 refine pl_step 5 3 rfl rfl ?_
 refine call_pure (d := 9) (iq (aroundI b 16)) (by kernel_rfl) (fun w hT => refAround b 16 w (by omega) (by omega)) ?_
 have hq3_ := aroundI_range b (m := 16) (by omega)
 refine bS [0] 6 2 [(4, .pointer (pB b1)), (7, iq (1 + (aroundI a 16))), (10, iq (IntKind.i64.wrap (1 + (aroundI b 16))))] ?_
 refine cont_recast 10 (iq (IntKind.i64.wrap (1 + (aroundI b 16)))) (iq (1 + (aroundI b 16))) rfl (wrapI (by omega) (by omega)) ?_
 refine batch0 [0, 0] 8 0 [(4, .pointer (pB b1))] [.cells b1 [iq 0, iq 0, iq (1 + (aroundI a 16)), iq (1 + (aroundI b 16))] 28 true] rfl rfl (by kernel_rfl) (by kernel_rfl) ?_
 refine cont_done ?_
 refine then_normal ?_
 refine cont_ret ?_
 refine ret_one (.inl rfl) rfl 0 (.agg #[iq 0, iq 0, iq (1 + (aroundI a 16)), iq (1 + (aroundI b 16))]) (by kernel_rfl) (by kernel_rfl) (fun w hT => ?_)
 exact ⟨by rw [hW, hH], hT.post rfl⟩

theorem refNew18 (W H : Int) (w : World) :
    Calls Try.prog 39 #[.agg #[.int .i64 0, .int .i64 0, .int .i64 W, .int .i64 H]] w fun e w' => ∃ (A_ : Option Addr) (g_ k_ cp_ : Nat) (A2_ : Option Addr) (g2_ k2_ cp2_ : Nat), e = .returned (.agg #[.int .i64 0, .int .i64 0, .int .i64 W, .int .i64 H, .slice A_ k_ cp_, .slice A2_ k2_ cp2_, .int .i64 0, .int .i64 0, .int .i64 0]) ∧ Tab w w' [.gen (rowE (A_) g_ k_ cp_ 28 4 (rvals [(⟨0, 0, W, H⟩ : Rect)]) true), .gen (rowE (A2_) g2_ k2_ cp2_ 28 4 (rvals [(⟨0, 0, W, H⟩ : Rect)]) true)] := by
 refine enter 9 [(0, .agg #[iq 0, iq 0, iq W, iq H])] [] Try.func39 rfl Try.ntmps39 rfl (by kernel_rfl) (Tab.start w) ?_
 refine cont_seq ?_
 refine cont_region 2 rfl ?_
 refine batch2 [0, 0] 2 0 (fun b1 b2 => [(1, .pointer (pB b1)), (2, .pointer (pB b2))]) (fun b1 b2 => [.cells b2 [iq 0, iq 0, iq 0, iq 0, .slice none 0 0, .slice none 0 0, iq 0, iq 0, iq 0] 81 true, .cells b1 [iq 0, iq 0, iq W, iq H] 28 true]) rfl rfl [1, 2] (fun _ _ => rfl) (fun b1 b2 => by kernel_rfl) (fun b1 b2 => by kernel_rfl) (fun b1 b2 => ?_)
 refine cont_done ?_
 refine then_normal ?_
 refine cont_seq ?_
 refine cont_region 7 rfl ?_
 refine batch2 [1, 1, 0, 2, 0, 0] 6 1 (fun b3 b4 => [(2, .pointer (pB b2)), (8, .agg #[iq 0, iq 0, iq W, iq H, .slice (pB b3) 1 1, .slice (pB b4) 1 1, iq 0, iq 0, iq 0])]) (fun b3 b4 => [.cells b4 [iq 0, iq 0, iq W, iq H] 28 true, .cells b3 [iq 0, iq 0, iq W, iq H] 28 true, .cells b2 [iq 0, iq 0, iq 0, iq 0, .slice none 0 0, .slice none 0 0, iq 0, iq 0, iq 0] 81 true, .cells b1 [iq 0, iq 0, iq W, iq H] 28 true]) rfl rfl [2, 8] (fun _ _ => rfl) (fun b3 b4 => by kernel_rfl) (fun b3 b4 => by kernel_rfl) (fun b3 b4 => ?_)
 refine cont_forget 3 rfl ?_
 refine cont_asRow 1 1 4 rfl (vals := rvals [(⟨0, 0, W, H⟩ : Rect)]) rfl rfl (by decide) ?_
 refine cont_asRow 0 1 4 rfl (vals := rvals [(⟨0, 0, W, H⟩ : Rect)]) rfl rfl (by decide) ?_
 refine cont_norm [(2, .pointer (pB b2)), (8, .agg #[iq 0, iq 0, iq W, iq H, .slice (pB b3) 1 1, .slice (pB b4) 1 1, iq 0, iq 0, iq 0])] [.gen (rowE (pB b4) b4 1 1 28 4 (rvals [(⟨0, 0, W, H⟩ : Rect)]) true), .gen (rowE (pB b3) b3 1 1 28 4 (rvals [(⟨0, 0, W, H⟩ : Rect)]) true), .cells b2 [iq 0, iq 0, iq 0, iq 0, .slice none 0 0, .slice none 0 0, iq 0, iq 0, iq 0] 81 true] (by kernel_rfl) rfl ?_
 refine batch0 [2] 7 0 [(2, .pointer (pB b2))] [.gen (rowE (pB b4) b4 1 1 28 4 (rvals [(⟨0, 0, W, H⟩ : Rect)]) true), .gen (rowE (pB b3) b3 1 1 28 4 (rvals [(⟨0, 0, W, H⟩ : Rect)]) true), .cells b2 [iq 0, iq 0, iq W, iq H, .slice (pB b3) 1 1, .slice (pB b4) 1 1, iq 0, iq 0, iq 0] 81 true] rfl rfl (by kernel_rfl) (by kernel_rfl) ?_
 refine cont_done ?_
 refine then_normal ?_
 refine cont_ret ?_
 refine ret_one (.inl rfl) rfl 2 (.agg #[iq 0, iq 0, iq W, iq H, .slice (pB b3) 1 1, .slice (pB b4) 1 1, iq 0, iq 0, iq 0]) (by kernel_rfl) (by kernel_rfl) (fun w hT => ?_)
 exact ⟨_, _, _, _, _, _, _, _, rfl, hT.pick [1, 0] (by decide) rfl rfl⟩

theorem refAge18 (W H : Int) (Ab : Option Addr) (kb cb : Nat) (Af : Option Addr) (kf cf : Nat) (wb wf fr : Int) (w : World) (hf : 0 ≤ wb ∧ wb ≤ fr ∧ fr ≤ 1000000000000) :
    Calls Try.prog 43 #[.agg #[.int .i64 0, .int .i64 0, .int .i64 W, .int .i64 H, .slice Ab kb cb, .slice Af kf cf, .int .i64 wb, .int .i64 wf, .int .i64 fr]] w fun e w' => e = .returned (.int .i64 (ageI wb fr)) ∧ Below w.heap.size w w' := by
 refine enter 11 [(0, .agg #[iq 0, iq 0, iq W, iq H, .slice Ab kb cb, .slice Af kf cf, iq wb, iq wf, iq fr])] [] Try.func43 rfl Try.ntmps43 rfl (by kernel_rfl) (Tab.start w) ?_
 refine cont_seq ?_
 refine cont_region 2 rfl ?_
 refine batch1 [0, 0] 2 0 (fun b1 => [(1, .pointer (pB b1))]) (fun b1 => [.cells b1 [iq 0, iq 0, iq W, iq H, .slice Ab kb cb, .slice Af kf cf, iq wb, iq wf, iq fr] 81 true]) rfl rfl [1] (fun _ => rfl) (fun b1 => by kernel_rfl) (fun b1 => by kernel_rfl) (fun b1 => ?_)
 refine cont_done ?_
 refine then_normal ?_
 refine cont_seq ?_
 refine cont_seq ?_
 refine cont_region 3 rfl ?_
 refine bS [0, 0, 0] 3 0 [(1, .pointer (pB b1)), (5, .bool (wb == 0))] ?_
 refine cont_done ?_
 refine then_normal ?_
 refine cont_split 5 (wb == 0) rfl (fun c2_ => ?_) (fun c2_ => ?_)
 ·
  replace c2_ := eq_of_beqt c2_
  refine cont_true rfl ?_
  refine cont_seq ?_
  refine cont_region 1 rfl ?_
  refine bS [0] 1 0 [(2, iq 0)] ?_
  refine cont_forget 0 rfl ?_
  refine cont_done ?_
  refine then_normal ?_
  refine cont_ret ?_
  refine then_ret ?_
  refine ret_one (.inl rfl) rfl 0 (iq 0) (by kernel_rfl) (by kernel_rfl) (fun w hT => ?_)
  exact ⟨ret_int (by simp [ageI, *]), hT.post rfl⟩
 replace c2_ := ne_of_beqf c2_
 refine cont_false rfl ?_
 refine cont_skip ?_
 refine then_normal ?_
 refine cont_seq ?_
 refine cont_region 6 rfl ?_
 refine bS [0, 0, 0, 0, 0] 5 1 [(10, iq (IntKind.i64.wrap (fr - wb)))] ?_
 refine cont_recast 10 (iq (IntKind.i64.wrap (fr - wb))) (iq (fr - wb)) rfl (wrapI (by omega) (by omega)) ?_
 refine cont_forget 0 rfl ?_
 refine bS [0] 6 0 [(2, iq (fr - wb))] ?_
 refine cont_done ?_
 refine then_normal ?_
 refine cont_ret ?_
 refine ret_one (.inl rfl) rfl 0 (iq (fr - wb)) (by kernel_rfl) (by kernel_rfl) (fun w hT => ?_)
 exact ⟨ret_int (by simp [ageI, *]), hT.post rfl⟩

theorem refFlip18 (W H : Int) (Ab : Option Addr) (kb cb : Nat) (Af : Option Addr) (kf cf : Nat) (wb wf fr : Int) (w : World) (hf : 0 ≤ fr ∧ fr ≤ 1000000000000) :
    Calls Try.prog 41 #[.agg #[.int .i64 0, .int .i64 0, .int .i64 W, .int .i64 H, .slice Ab kb cb, .slice Af kf cf, .int .i64 wb, .int .i64 wf, .int .i64 fr]] w fun e w' => e = .returned (.agg #[.int .i64 0, .int .i64 0, .int .i64 W, .int .i64 H, .slice Af kf cf, .slice none 0 0, .int .i64 wf, .int .i64 (fr + 1), .int .i64 (fr + 1)]) ∧ Below w.heap.size w w' := by
 refine enter 18 [(0, .agg #[iq 0, iq 0, iq W, iq H, .slice Ab kb cb, .slice Af kf cf, iq wb, iq wf, iq fr])] [] Try.func41 rfl Try.ntmps41 rfl (by kernel_rfl) (Tab.start w) ?_
 refine cont_seq ?_
 refine cont_region 2 rfl ?_
 refine batch2 [0, 0] 2 0 (fun b1 b2 => [(1, .pointer (pB b1)), (2, .pointer (pB b2))]) (fun b1 b2 => [.cells b2 [iq 0, iq 0, iq 0, iq 0, .slice none 0 0, .slice none 0 0, iq 0, iq 0, iq 0] 81 true, .cells b1 [iq 0, iq 0, iq W, iq H, .slice Ab kb cb, .slice Af kf cf, iq wb, iq wf, iq fr] 81 true]) rfl rfl [1, 2] (fun _ _ => rfl) (fun b1 b2 => by kernel_rfl) (fun b1 b2 => by kernel_rfl) (fun b1 b2 => ?_)
 refine cont_done ?_
 refine then_normal ?_
 refine cont_seq ?_
 refine cont_region 5 rfl ?_
 refine bS [0, 1, 0] 3 2 [(1, .pointer (pB b1)), (2, .pointer (pB b2)), (5, iq (IntKind.i64.wrap (fr + 1)))] ?_
 refine cont_recast 5 (iq (IntKind.i64.wrap (fr + 1))) (iq (fr + 1)) rfl (wrapI (by omega) (by omega)) ?_
 refine batch0 [0, 1] 5 0 [(1, .pointer (pB b1)), (2, .pointer (pB b2))] [.cells b2 [iq 0, iq 0, iq 0, iq 0, .slice none 0 0, .slice none 0 0, iq 0, iq 0, iq 0] 81 true, .cells b1 [iq 0, iq 0, iq W, iq H, .slice Ab kb cb, .slice Af kf cf, iq wb, iq wf, iq (fr + 1)] 81 true] rfl rfl (by kernel_rfl) (by kernel_rfl) ?_
 refine cont_done ?_
 refine then_normal ?_
 refine cont_seq ?_
 refine cont_region 4 rfl ?_
 refine batch0 [0, 1, 0, 1] 4 0 [(1, .pointer (pB b1)), (2, .pointer (pB b2))] [.cells b2 [iq 0, iq 0, iq 0, iq 0, .slice none 0 0, .slice none 0 0, iq 0, iq 0, iq 0] 81 true, .cells b1 [iq 0, iq 0, iq W, iq H, .slice Af kf cf, .slice Af kf cf, iq wb, iq wf, iq (fr + 1)] 81 true] rfl rfl (by kernel_rfl) (by kernel_rfl) ?_
 refine cont_done ?_
 refine then_normal ?_
 refine cont_seq ?_
 refine cont_region 2 rfl ?_
 refine batch0 [0, 1] 2 0 [(1, .pointer (pB b1)), (2, .pointer (pB b2))] [.cells b2 [iq 0, iq 0, iq 0, iq 0, .slice none 0 0, .slice none 0 0, iq 0, iq 0, iq 0] 81 true, .cells b1 [iq 0, iq 0, iq W, iq H, .slice Af kf cf, .slice none 0 0, iq wb, iq wf, iq (fr + 1)] 81 true] rfl rfl (by kernel_rfl) (by kernel_rfl) ?_
 refine cont_done ?_
 refine then_normal ?_
 refine cont_seq ?_
 refine cont_region 4 rfl ?_
 refine batch0 [0, 1, 0, 1] 4 0 [(1, .pointer (pB b1)), (2, .pointer (pB b2))] [.cells b2 [iq 0, iq 0, iq 0, iq 0, .slice none 0 0, .slice none 0 0, iq 0, iq 0, iq 0] 81 true, .cells b1 [iq 0, iq 0, iq W, iq H, .slice Af kf cf, .slice none 0 0, iq wf, iq wf, iq (fr + 1)] 81 true] rfl rfl (by kernel_rfl) (by kernel_rfl) ?_
 refine cont_done ?_
 refine then_normal ?_
 refine cont_seq ?_
 refine cont_region 4 rfl ?_
 refine batch0 [0, 1, 0, 1] 4 0 [(1, .pointer (pB b1)), (2, .pointer (pB b2))] [.cells b2 [iq 0, iq 0, iq 0, iq 0, .slice none 0 0, .slice none 0 0, iq 0, iq 0, iq 0] 81 true, .cells b1 [iq 0, iq 0, iq W, iq H, .slice Af kf cf, .slice none 0 0, iq wf, iq (fr + 1), iq (fr + 1)] 81 true] rfl rfl (by kernel_rfl) (by kernel_rfl) ?_
 refine cont_done ?_
 refine then_normal ?_
 refine cont_seq ?_
 refine cont_region 2 rfl ?_
 refine batch0 [1, 0] 2 0 [(2, .pointer (pB b2))] [.cells b2 [iq 0, iq 0, iq W, iq H, .slice Af kf cf, .slice none 0 0, iq wf, iq (fr + 1), iq (fr + 1)] 81 true, .cells b1 [iq 0, iq 0, iq W, iq H, .slice Af kf cf, .slice none 0 0, iq wf, iq (fr + 1), iq (fr + 1)] 81 true] rfl rfl (by kernel_rfl) (by kernel_rfl) ?_
 refine cont_forget 1 rfl ?_
 refine cont_done ?_
 refine then_normal ?_
 refine cont_ret ?_
 refine ret_one (.inl rfl) rfl 0 (.agg #[iq 0, iq 0, iq W, iq H, .slice Af kf cf, .slice none 0 0, iq wf, iq (fr + 1), iq (fr + 1)]) (by kernel_rfl) (by kernel_rfl) (fun w hT => ?_)
 exact ⟨rfl, hT.post rfl⟩

theorem refDamage18 (W H : Int) (Ab : Option Addr) (kb cb : Nat) (Af : Option Addr) (kf cf : Nat) (wb wf fr : Int) (gb : Nat) (xb : List Rect) (gf : Nat) (xf : List Rect) (Az : Option Addr) (gz oz nz capz : Nat) (xsz : List Rect) (w : World) (hT0 : Tab w w [.gen (rdE (Ab) gb 0 kb 4 (rvals xb)), .gen (rdE (Af) gf 0 kf 4 (rvals xf)), .gen (rdE (Az) gz oz nz 4 (rvals xsz))]) (hwh : 1 ≤ W ∧ 1 ≤ H) (hkb : kb ≤ 64) (hkf : kf ≤ 64) (hnz : nz ≤ 14) :
    Calls Try.prog 40 #[.agg #[.int .i64 0, .int .i64 0, .int .i64 W, .int .i64 H, .slice Ab kb cb, .slice Af kf cf, .int .i64 wb, .int .i64 wf, .int .i64 fr], .slice Az nz capz] w fun e w' => ∃ (A_ : Option Addr) (g_ k_ cp_ : Nat) (A2_ : Option Addr) (g2_ k2_ cp2_ : Nat), e = .returned (.agg #[.int .i64 0, .int .i64 0, .int .i64 W, .int .i64 H, .slice A_ k_ cp_, .slice A2_ k2_ cp2_, .int .i64 wb, .int .i64 wf, .int .i64 fr]) ∧ Tab w w' [.gen (rowE (A_) g_ k_ cp_ 28 4 (rvals (keepL hullD (regM orB xb (regM andB (canR xsz) [(⟨0, 0, W, H⟩ : Rect)])) 64)) true), .gen (rowE (A2_) g2_ k2_ cp2_ 28 4 (rvals (keepL hullD (regM orB xf (regM andB (canR xsz) [(⟨0, 0, W, H⟩ : Rect)])) 64)) true)] := by
 obtain ⟨hrab, hrlb⟩ := Rd.factsR (hT0.ok 0 _ rfl)
 obtain ⟨hraf, hrlf⟩ := Rd.factsR (hT0.ok 1 _ rfl)
 obtain ⟨hraz, hrlz⟩ := Rd.factsR (hT0.ok 2 _ rfl)
 have hcz_ := canR_small (l := xsz) (by omega)
 refine enter 25 [(0, .agg #[iq 0, iq 0, iq W, iq H, .slice Ab kb cb, .slice Af kf cf, iq wb, iq wf, iq fr]), (1, .slice Az nz capz)] [.gen (rdE (Ab) gb 0 kb 4 (rvals xb)), .gen (rdE (Af) gf 0 kf 4 (rvals xf)), .gen (rdE (Az) gz oz nz 4 (rvals xsz))] Try.func40 rfl Try.ntmps40 rfl (by kernel_rfl) hT0 ?_
 refine cont_seq ?_
 refine cont_region 2 rfl ?_
 refine batch2 [0, 0] 2 0 (fun b1 b2 => [(1, .slice Az nz capz), (2, .pointer (pB b1)), (4, .pointer (pB b2))]) (fun b1 b2 => [.cells b2 [iq 0, iq 0, iq 0, iq 0, .slice none 0 0, .slice none 0 0, iq 0, iq 0, iq 0] 81 true, .cells b1 [iq 0, iq 0, iq W, iq H, .slice Ab kb cb, .slice Af kf cf, iq wb, iq wf, iq fr] 81 true, .gen (rdE (Ab) gb 0 kb 4 (rvals xb)), .gen (rdE (Af) gf 0 kf 4 (rvals xf)), .gen (rdE (Az) gz oz nz 4 (rvals xsz))]) rfl rfl [1, 2, 4] (fun _ _ => rfl) (fun b1 b2 => by kernel_rfl) (fun b1 b2 => by kernel_rfl) (fun b1 b2 => ?_)
 refine cont_done ?_
 refine then_normal ?_
 refine cont_seq ?_
 refine drawn_enter 7 [] rfl (by kernel_rfl) ?_
 refine takes 0 [] [(0, 0), (2, 0), (3, 1)] 4 [3, 2, 0] [(2, .pointer (pB b1)), (4, .pointer (pB b2)), (6, .slice Az nz capz), (9, .agg #[iq 0, iq 0, iq W, iq H])] (by kernel_rfl) (pok_then pok_body) (by kernel_rfl) rfl rfl (by kernel_rfl) (by kernel_rfl) ?_
 refine drawn_two 1 4 3 rfl (by kernel_rfl) ?_ ?_
 ·
  refine call_gen (d := 7) (α := Option Addr × Nat × Nat × Nat) (fun x_ => .slice x_.1 x_.2.2.1 x_.2.2.2) (fun x_ => [.gen (rowE (x_.1) x_.2.1 x_.2.2.1 x_.2.2.2 28 4 (rvals (canR xsz)) true), .cells b2 [iq 0, iq 0, iq 0, iq 0, .slice none 0 0, .slice none 0 0, iq 0, iq 0, iq 0] 81 true, .cells b1 [iq 0, iq 0, iq W, iq H, .slice Ab kb cb, .slice Af kf cf, iq wb, iq wf, iq fr] 81 true, .gen (rdE (Ab) gb 0 kb 4 (rvals xb)), .gen (rdE (Af) gf 0 kf 4 (rvals xf)), .gen (rdE (Az) gz oz nz 4 (rvals xsz))]) (fun x_ => True) (by kernel_rfl) (fun w hT => (refOf Az gz oz nz capz xsz w (hT.viewRo (.cons (i := 4) rfl Vw.rd .nil) rfl) (by omega)).mono fun e w' ⟨A3, g4, k5, cp6, he_, ht_⟩ => ⟨(A3, g4, k5, cp6), he_, trivial, hT.news ht_ rfl⟩) ?_
  rintro ⟨A3, g4, k5, cp6⟩ hf7_
  refine cont_norm [(2, .pointer (pB b1)), (4, .pointer (pB b2)), (6, .slice Az nz capz), (7, .slice A3 k5 cp6), (9, .agg #[iq 0, iq 0, iq W, iq H])] [.gen (rowE (A3) g4 k5 cp6 28 4 (rvals (canR xsz)) true), .cells b2 [iq 0, iq 0, iq 0, iq 0, .slice none 0 0, .slice none 0 0, iq 0, iq 0, iq 0] 81 true, .cells b1 [iq 0, iq 0, iq W, iq H, .slice Ab kb cb, .slice Af kf cf, iq wb, iq wf, iq fr] 81 true, .gen (rdE (Ab) gb 0 kb 4 (rvals xb)), .gen (rdE (Af) gf 0 kf 4 (rvals xf)), .gen (rdE (Az) gz oz nz 4 (rvals xsz))] (by kernel_rfl) rfl ?_
  refine cont_fact (F := (0 < k5 → (A3 : Option Addr) = pB g4) ∧ (canR xsz).length = k5 ∧ k5 ≤ cp6 ∧ cp6 ≤ maxLen) (fun w hT => Row.factsR (hT.ok 0 _ rfl)) (fun hr8_ => ?_)
  obtain ⟨hr8_a, hr8_l, hr8_c, hr8_m⟩ := hr8_
  unfold maxLen at hr8_m
  refine drawn_next 1 [] (by kernel_rfl) ?_
  refine drawn_one 4 2 rfl (by kernel_rfl) ?_
  refine one_step1 0 (fun b9 => [(2, .pointer (pB b1)), (4, .pointer (pB b2)), (7, .slice A3 k5 cp6), (10, .slice (pB b9) 1 1)]) (fun b9 => [.cells b9 [iq 0, iq 0, iq W, iq H] 28 true, .gen (rowE (A3) g4 k5 cp6 28 4 (rvals (canR xsz)) true), .cells b2 [iq 0, iq 0, iq 0, iq 0, .slice none 0 0, .slice none 0 0, iq 0, iq 0, iq 0] 81 true, .cells b1 [iq 0, iq 0, iq W, iq H, .slice Ab kb cb, .slice Af kf cf, iq wb, iq wf, iq fr] 81 true, .gen (rdE (Ab) gb 0 kb 4 (rvals xb)), .gen (rdE (Af) gf 0 kf 4 (rvals xf)), .gen (rdE (Az) gz oz nz 4 (rvals xsz))]) (fun b9 => by kernel_rfl) (fun b9 => by kernel_rfl) (fun b9 => ?_)
  refine drawn_next 2 [] (by kernel_rfl) ?_
  refine drawn_one 5 1 rfl (by kernel_rfl) ?_
  refine cont_asRow 0 1 4 rfl (vals := rvals [(⟨0, 0, W, H⟩ : Rect)]) rfl rfl (by decide) ?_
  refine call_gen (d := 11) (α := Option Addr × Nat × Nat × Nat) (fun x_ => .slice x_.1 x_.2.2.1 x_.2.2.2) (fun x_ => [.gen (rowE (x_.1) x_.2.1 x_.2.2.1 x_.2.2.2 28 4 (rvals (regM andB (canR xsz) [(⟨0, 0, W, H⟩ : Rect)])) true), .gen (rowE (pB b9) b9 1 1 28 4 (rvals [(⟨0, 0, W, H⟩ : Rect)]) true), .gen (rowE (A3) g4 k5 cp6 28 4 (rvals (canR xsz)) true), .cells b2 [iq 0, iq 0, iq 0, iq 0, .slice none 0 0, .slice none 0 0, iq 0, iq 0, iq 0] 81 true, .cells b1 [iq 0, iq 0, iq W, iq H, .slice Ab kb cb, .slice Af kf cf, iq wb, iq wf, iq fr] 81 true, .gen (rdE (Ab) gb 0 kb 4 (rvals xb)), .gen (rdE (Af) gf 0 kf 4 (rvals xf)), .gen (rdE (Az) gz oz nz 4 (rvals xsz))]) (fun x_ => True) (by kernel_rfl) (fun w hT => (refCutL A3 g4 0 k5 cp6 (canR xsz) (pB b9) b9 0 1 1 [(⟨0, 0, W, H⟩ : Rect)] w (hT.viewRo (.cons (i := 1) rfl Vw.rowRd (.cons (i := 0) rfl Vw.rowRd .nil)) rfl) (by omega)).mono fun e w' ⟨A10, g11, k12, cp13, he_, ht_⟩ => ⟨(A10, g11, k12, cp13), he_, trivial, hT.news ht_ rfl⟩) ?_
  rintro ⟨A10, g11, k12, cp13⟩ hf14_
  refine cont_norm [(2, .pointer (pB b1)), (4, .pointer (pB b2)), (7, .slice A3 k5 cp6), (10, .slice (pB b9) 1 1), (11, .slice A10 k12 cp13)] [.gen (rowE (A10) g11 k12 cp13 28 4 (rvals (regM andB (canR xsz) [(⟨0, 0, W, H⟩ : Rect)])) true), .gen (rowE (pB b9) b9 1 1 28 4 (rvals [(⟨0, 0, W, H⟩ : Rect)]) true), .gen (rowE (A3) g4 k5 cp6 28 4 (rvals (canR xsz)) true), .cells b2 [iq 0, iq 0, iq 0, iq 0, .slice none 0 0, .slice none 0 0, iq 0, iq 0, iq 0] 81 true, .cells b1 [iq 0, iq 0, iq W, iq H, .slice Ab kb cb, .slice Af kf cf, iq wb, iq wf, iq fr] 81 true, .gen (rdE (Ab) gb 0 kb 4 (rvals xb)), .gen (rdE (Af) gf 0 kf 4 (rvals xf)), .gen (rdE (Az) gz oz nz 4 (rvals xsz))] (by kernel_rfl) rfl ?_
  refine cont_fact (F := (0 < k12 → (A10 : Option Addr) = pB g11) ∧ (regM andB (canR xsz) [(⟨0, 0, W, H⟩ : Rect)]).length = k12 ∧ k12 ≤ cp13 ∧ cp13 ≤ maxLen) (fun w hT => Row.factsR (hT.ok 0 _ rfl)) (fun hr15_ => ?_)
  obtain ⟨hr15_a, hr15_l, hr15_c, hr15_m⟩ := hr15_
  unfold maxLen at hr15_m
  refine drawn_next 3 [] (by kernel_rfl) ?_
  refine takes 3 [] [(6, 0)] 0 [6, 5, 4, 1, 3, 2, 0] [(2, .pointer (pB b1)), (4, .pointer (pB b2)), (5, .slice A10 k12 cp13)] (by kernel_rfl) (pok_then pok_body) (by kernel_rfl) rfl rfl (by kernel_rfl) (by kernel_rfl) ?_
  refine drawn_done (by kernel_rfl) ?_
  refine then_normal ?_
  refine cont_seq ?_
  refine cont_region 7 rfl ?_
  have hol_ := own_lenD (r := (⟨0, 0, W, H⟩ : Rect)) (l := xsz) (by omega) (emptyB_false.2 ⟨by simp only; omega, by simp only; omega⟩)
  obtain ⟨OWN, hOWN⟩ : ∃ y_ : List Rect, y_ = (regM andB (canR xsz) [(⟨0, 0, W, H⟩ : Rect)]) := ⟨_, rfl⟩
  refine cont_rowEqR 0 (regM andB (canR xsz) [(⟨0, 0, W, H⟩ : Rect)]) (OWN) rfl hOWN.symm ?_
  rw [← hOWN] at hol_
  refine cont_fact (F := (0 < k12 → (A10 : Option Addr) = pB g11) ∧ OWN.length = k12 ∧ k12 ≤ cp13 ∧ cp13 ≤ maxLen) (fun w hT => Row.factsR (hT.ok 0 _ rfl)) (fun hr16_ => ?_)
  obtain ⟨hr16_a, hr16_l, hr16_c, hr16_m⟩ := hr16_
  unfold maxLen at hr16_m
  have hu0_ := regM_len orB xb OWN (n := 848) (by omega)
  have hu1_ := regM_len orB xf OWN (n := 848) (by omega)
  refine bS [0, 4, 0] 3 4 [(2, .pointer (pB b1)), (4, .pointer (pB b2)), (5, .slice A10 k12 cp13), (13, .slice Ab kb cb), (14, .slice A10 k12 cp13)] ?_
  refine pl_step 4 3 rfl rfl ?_
  refine call_gen (d := 15) (α := Option Addr × Nat × Nat × Nat) (fun x_ => .slice x_.1 x_.2.2.1 x_.2.2.2) (fun x_ => [.gen (rowE (x_.1) x_.2.1 x_.2.2.1 x_.2.2.2 28 4 (rvals (regM orB xb OWN)) true), .gen (rowE (A10) g11 k12 cp13 28 4 (rvals OWN) true), .gen (rowE (pB b9) b9 1 1 28 4 (rvals [(⟨0, 0, W, H⟩ : Rect)]) true), .gen (rowE (A3) g4 k5 cp6 28 4 (rvals (canR xsz)) true), .cells b2 [iq 0, iq 0, iq 0, iq 0, .slice none 0 0, .slice none 0 0, iq 0, iq 0, iq 0] 81 true, .cells b1 [iq 0, iq 0, iq W, iq H, .slice Ab kb cb, .slice Af kf cf, iq wb, iq wf, iq fr] 81 true, .gen (rdE (Ab) gb 0 kb 4 (rvals xb)), .gen (rdE (Af) gf 0 kf 4 (rvals xf)), .gen (rdE (Az) gz oz nz 4 (rvals xsz))]) (fun x_ => True) (by kernel_rfl) (fun w hT => (refUnion Ab gb 0 kb cb xb A10 g11 0 k12 cp13 OWN w (hT.viewRo (.cons (i := 5) rfl Vw.rd (.cons (i := 0) rfl Vw.rowRd .nil)) rfl) (by omega)).mono fun e w' ⟨A17, g18, k19, cp20, he_, ht_⟩ => ⟨(A17, g18, k19, cp20), he_, trivial, hT.news ht_ rfl⟩) ?_
  rintro ⟨A17, g18, k19, cp20⟩ hf21_
  refine cont_norm [(2, .pointer (pB b1)), (4, .pointer (pB b2)), (5, .slice A10 k12 cp13), (13, .slice Ab kb cb), (14, .slice A10 k12 cp13), (15, .slice A17 k19 cp20)] [.gen (rowE (A17) g18 k19 cp20 28 4 (rvals (regM orB xb OWN)) true), .gen (rowE (A10) g11 k12 cp13 28 4 (rvals OWN) true), .gen (rowE (pB b9) b9 1 1 28 4 (rvals [(⟨0, 0, W, H⟩ : Rect)]) true), .gen (rowE (A3) g4 k5 cp6 28 4 (rvals (canR xsz)) true), .cells b2 [iq 0, iq 0, iq 0, iq 0, .slice none 0 0, .slice none 0 0, iq 0, iq 0, iq 0] 81 true, .cells b1 [iq 0, iq 0, iq W, iq H, .slice Ab kb cb, .slice Af kf cf, iq wb, iq wf, iq fr] 81 true, .gen (rdE (Ab) gb 0 kb 4 (rvals xb)), .gen (rdE (Af) gf 0 kf 4 (rvals xf)), .gen (rdE (Az) gz oz nz 4 (rvals xsz))] (by kernel_rfl) rfl ?_
  refine cont_fact (F := (0 < k19 → (A17 : Option Addr) = pB g18) ∧ (regM orB xb OWN).length = k19 ∧ k19 ≤ cp20 ∧ cp20 ≤ maxLen) (fun w hT => Row.factsR (hT.ok 0 _ rfl)) (fun hr22_ => ?_)
  obtain ⟨hr22_a, hr22_l, hr22_c, hr22_m⟩ := hr22_
  unfold maxLen at hr22_m
  refine pl_step 5 2 rfl rfl ?_
  have hkl23_ := keepL_length hullD (regM orB xb OWN) 64
  by_cases hkc24_ : (k19 : Int) ≤ 64
  ·
   refine call_pure (d := 16) (.slice A17 k19 cp20) (by kernel_rfl) (fun w hT => refKeepYes A17 g18 0 k19 cp20 (regM orB xb OWN) 64 w (hT.viewRo (.cons (i := 0) rfl Vw.rowRd .nil) rfl) (by omega) hkc24_) ?_
   refine cont_rowEqR 0 (regM orB xb OWN) (keepL hullD (regM orB xb OWN) 64) rfl ((keepL_all (by omega)).symm) ?_
   refine cont_norm [(2, .pointer (pB b1)), (4, .pointer (pB b2)), (5, .slice A10 k12 cp13), (13, .slice Ab kb cb), (14, .slice A10 k12 cp13), (15, .slice A17 k19 cp20), (16, .slice A17 k19 cp20)] [.gen (rowE (A17) g18 k19 cp20 28 4 (rvals (keepL hullD (regM orB xb OWN) 64)) true), .gen (rowE (A10) g11 k12 cp13 28 4 (rvals OWN) true), .gen (rowE (pB b9) b9 1 1 28 4 (rvals [(⟨0, 0, W, H⟩ : Rect)]) true), .gen (rowE (A3) g4 k5 cp6 28 4 (rvals (canR xsz)) true), .cells b2 [iq 0, iq 0, iq 0, iq 0, .slice none 0 0, .slice none 0 0, iq 0, iq 0, iq 0] 81 true, .cells b1 [iq 0, iq 0, iq W, iq H, .slice Ab kb cb, .slice Af kf cf, iq wb, iq wf, iq fr] 81 true, .gen (rdE (Ab) gb 0 kb 4 (rvals xb)), .gen (rdE (Af) gf 0 kf 4 (rvals xf)), .gen (rdE (Az) gz oz nz 4 (rvals xsz))] (by kernel_rfl) rfl ?_
   refine batch0 [0, 5] 7 0 [(2, .pointer (pB b1)), (4, .pointer (pB b2)), (5, .slice A10 k12 cp13)] [.gen (rowE (A17) g18 k19 cp20 28 4 (rvals (keepL hullD (regM orB xb OWN) 64)) true), .gen (rowE (A10) g11 k12 cp13 28 4 (rvals OWN) true), .gen (rowE (pB b9) b9 1 1 28 4 (rvals [(⟨0, 0, W, H⟩ : Rect)]) true), .gen (rowE (A3) g4 k5 cp6 28 4 (rvals (canR xsz)) true), .cells b2 [iq 0, iq 0, iq 0, iq 0, .slice none 0 0, .slice none 0 0, iq 0, iq 0, iq 0] 81 true, .cells b1 [iq 0, iq 0, iq W, iq H, .slice A17 k19 cp20, .slice Af kf cf, iq wb, iq wf, iq fr] 81 true, .gen (rdE (Ab) gb 0 kb 4 (rvals xb)), .gen (rdE (Af) gf 0 kf 4 (rvals xf)), .gen (rdE (Az) gz oz nz 4 (rvals xsz))] rfl rfl (by kernel_rfl) (by kernel_rfl) ?_
   refine cont_done ?_
   refine then_normal ?_
   refine cont_seq ?_
   refine cont_region 7 rfl ?_
   refine bS [0, 5, 0] 3 4 [(2, .pointer (pB b1)), (4, .pointer (pB b2)), (19, .slice Af kf cf), (20, .slice A10 k12 cp13)] ?_
   refine pl_step 4 3 rfl rfl ?_
   refine call_gen (d := 21) (α := Option Addr × Nat × Nat × Nat) (fun x_ => .slice x_.1 x_.2.2.1 x_.2.2.2) (fun x_ => [.gen (rowE (x_.1) x_.2.1 x_.2.2.1 x_.2.2.2 28 4 (rvals (regM orB xf OWN)) true), .gen (rowE (A17) g18 k19 cp20 28 4 (rvals (keepL hullD (regM orB xb OWN) 64)) true), .gen (rowE (A10) g11 k12 cp13 28 4 (rvals OWN) true), .gen (rowE (pB b9) b9 1 1 28 4 (rvals [(⟨0, 0, W, H⟩ : Rect)]) true), .gen (rowE (A3) g4 k5 cp6 28 4 (rvals (canR xsz)) true), .cells b2 [iq 0, iq 0, iq 0, iq 0, .slice none 0 0, .slice none 0 0, iq 0, iq 0, iq 0] 81 true, .cells b1 [iq 0, iq 0, iq W, iq H, .slice A17 k19 cp20, .slice Af kf cf, iq wb, iq wf, iq fr] 81 true, .gen (rdE (Ab) gb 0 kb 4 (rvals xb)), .gen (rdE (Af) gf 0 kf 4 (rvals xf)), .gen (rdE (Az) gz oz nz 4 (rvals xsz))]) (fun x_ => True) (by kernel_rfl) (fun w hT => (refUnion Af gf 0 kf cf xf A10 g11 0 k12 cp13 OWN w (hT.viewRo (.cons (i := 7) rfl Vw.rd (.cons (i := 1) rfl Vw.rowRd .nil)) rfl) (by omega)).mono fun e w' ⟨A25, g26, k27, cp28, he_, ht_⟩ => ⟨(A25, g26, k27, cp28), he_, trivial, hT.news ht_ rfl⟩) ?_
   rintro ⟨A25, g26, k27, cp28⟩ hf29_
   refine cont_norm [(2, .pointer (pB b1)), (4, .pointer (pB b2)), (19, .slice Af kf cf), (20, .slice A10 k12 cp13), (21, .slice A25 k27 cp28)] [.gen (rowE (A25) g26 k27 cp28 28 4 (rvals (regM orB xf OWN)) true), .gen (rowE (A17) g18 k19 cp20 28 4 (rvals (keepL hullD (regM orB xb OWN) 64)) true), .gen (rowE (A10) g11 k12 cp13 28 4 (rvals OWN) true), .gen (rowE (pB b9) b9 1 1 28 4 (rvals [(⟨0, 0, W, H⟩ : Rect)]) true), .gen (rowE (A3) g4 k5 cp6 28 4 (rvals (canR xsz)) true), .cells b2 [iq 0, iq 0, iq 0, iq 0, .slice none 0 0, .slice none 0 0, iq 0, iq 0, iq 0] 81 true, .cells b1 [iq 0, iq 0, iq W, iq H, .slice A17 k19 cp20, .slice Af kf cf, iq wb, iq wf, iq fr] 81 true, .gen (rdE (Ab) gb 0 kb 4 (rvals xb)), .gen (rdE (Af) gf 0 kf 4 (rvals xf)), .gen (rdE (Az) gz oz nz 4 (rvals xsz))] (by kernel_rfl) rfl ?_
   refine cont_fact (F := (0 < k27 → (A25 : Option Addr) = pB g26) ∧ (regM orB xf OWN).length = k27 ∧ k27 ≤ cp28 ∧ cp28 ≤ maxLen) (fun w hT => Row.factsR (hT.ok 0 _ rfl)) (fun hr30_ => ?_)
   obtain ⟨hr30_a, hr30_l, hr30_c, hr30_m⟩ := hr30_
   unfold maxLen at hr30_m
   refine pl_step 5 2 rfl rfl ?_
   have hkl31_ := keepL_length hullD (regM orB xf OWN) 64
   by_cases hkc32_ : (k27 : Int) ≤ 64
   ·
    refine call_pure (d := 22) (.slice A25 k27 cp28) (by kernel_rfl) (fun w hT => refKeepYes A25 g26 0 k27 cp28 (regM orB xf OWN) 64 w (hT.viewRo (.cons (i := 0) rfl Vw.rowRd .nil) rfl) (by omega) hkc32_) ?_
    refine cont_rowEqR 0 (regM orB xf OWN) (keepL hullD (regM orB xf OWN) 64) rfl ((keepL_all (by omega)).symm) ?_
    refine cont_norm [(2, .pointer (pB b1)), (4, .pointer (pB b2)), (19, .slice Af kf cf), (20, .slice A10 k12 cp13), (21, .slice A25 k27 cp28), (22, .slice A25 k27 cp28)] [.gen (rowE (A25) g26 k27 cp28 28 4 (rvals (keepL hullD (regM orB xf OWN) 64)) true), .gen (rowE (A17) g18 k19 cp20 28 4 (rvals (keepL hullD (regM orB xb OWN) 64)) true), .gen (rowE (A10) g11 k12 cp13 28 4 (rvals OWN) true), .gen (rowE (pB b9) b9 1 1 28 4 (rvals [(⟨0, 0, W, H⟩ : Rect)]) true), .gen (rowE (A3) g4 k5 cp6 28 4 (rvals (canR xsz)) true), .cells b2 [iq 0, iq 0, iq 0, iq 0, .slice none 0 0, .slice none 0 0, iq 0, iq 0, iq 0] 81 true, .cells b1 [iq 0, iq 0, iq W, iq H, .slice A17 k19 cp20, .slice Af kf cf, iq wb, iq wf, iq fr] 81 true, .gen (rdE (Ab) gb 0 kb 4 (rvals xb)), .gen (rdE (Af) gf 0 kf 4 (rvals xf)), .gen (rdE (Az) gz oz nz 4 (rvals xsz))] (by kernel_rfl) rfl ?_
    refine batch0 [0, 6] 7 0 [(2, .pointer (pB b1)), (4, .pointer (pB b2))] [.gen (rowE (A25) g26 k27 cp28 28 4 (rvals (keepL hullD (regM orB xf OWN) 64)) true), .gen (rowE (A17) g18 k19 cp20 28 4 (rvals (keepL hullD (regM orB xb OWN) 64)) true), .gen (rowE (A10) g11 k12 cp13 28 4 (rvals OWN) true), .gen (rowE (pB b9) b9 1 1 28 4 (rvals [(⟨0, 0, W, H⟩ : Rect)]) true), .gen (rowE (A3) g4 k5 cp6 28 4 (rvals (canR xsz)) true), .cells b2 [iq 0, iq 0, iq 0, iq 0, .slice none 0 0, .slice none 0 0, iq 0, iq 0, iq 0] 81 true, .cells b1 [iq 0, iq 0, iq W, iq H, .slice A17 k19 cp20, .slice A25 k27 cp28, iq wb, iq wf, iq fr] 81 true, .gen (rdE (Ab) gb 0 kb 4 (rvals xb)), .gen (rdE (Af) gf 0 kf 4 (rvals xf)), .gen (rdE (Az) gz oz nz 4 (rvals xsz))] rfl rfl (by kernel_rfl) (by kernel_rfl) ?_
    refine cont_done ?_
    refine then_normal ?_
    refine cont_seq ?_
    refine cont_region 2 rfl ?_
    refine batch0 [6, 5] 2 0 [(4, .pointer (pB b2))] [.gen (rowE (A25) g26 k27 cp28 28 4 (rvals (keepL hullD (regM orB xf OWN) 64)) true), .gen (rowE (A17) g18 k19 cp20 28 4 (rvals (keepL hullD (regM orB xb OWN) 64)) true), .gen (rowE (A10) g11 k12 cp13 28 4 (rvals OWN) true), .gen (rowE (pB b9) b9 1 1 28 4 (rvals [(⟨0, 0, W, H⟩ : Rect)]) true), .gen (rowE (A3) g4 k5 cp6 28 4 (rvals (canR xsz)) true), .cells b2 [iq 0, iq 0, iq W, iq H, .slice A17 k19 cp20, .slice A25 k27 cp28, iq wb, iq wf, iq fr] 81 true, .cells b1 [iq 0, iq 0, iq W, iq H, .slice A17 k19 cp20, .slice A25 k27 cp28, iq wb, iq wf, iq fr] 81 true, .gen (rdE (Ab) gb 0 kb 4 (rvals xb)), .gen (rdE (Af) gf 0 kf 4 (rvals xf)), .gen (rdE (Az) gz oz nz 4 (rvals xsz))] rfl rfl (by kernel_rfl) (by kernel_rfl) ?_
    refine cont_forget 6 rfl ?_
    refine cont_done ?_
    refine then_normal ?_
    refine cont_ret ?_
    refine ret_one (.inl rfl) rfl 5 (.agg #[iq 0, iq 0, iq W, iq H, .slice A17 k19 cp20, .slice A25 k27 cp28, iq wb, iq wf, iq fr]) (by kernel_rfl) (by kernel_rfl) (fun w hT => ?_)
    rw [hOWN] at hT
    exact ⟨_, _, _, _, _, _, _, _, rfl, hT.pick [1, 0] (by decide) rfl rfl⟩
   refine call_gen (d := 22) (α := Option Addr × Nat × Nat × Nat) (fun x_ => .slice x_.1 x_.2.2.1 x_.2.2.2) (fun x_ => [.gen (rowE (x_.1) x_.2.1 x_.2.2.1 x_.2.2.2 28 4 (rvals (keepL hullD (regM orB xf OWN) 64)) true), .gen (rowE (A25) g26 k27 cp28 28 4 (rvals (regM orB xf OWN)) true), .gen (rowE (A17) g18 k19 cp20 28 4 (rvals (keepL hullD (regM orB xb OWN) 64)) true), .gen (rowE (A10) g11 k12 cp13 28 4 (rvals OWN) true), .gen (rowE (pB b9) b9 1 1 28 4 (rvals [(⟨0, 0, W, H⟩ : Rect)]) true), .gen (rowE (A3) g4 k5 cp6 28 4 (rvals (canR xsz)) true), .cells b2 [iq 0, iq 0, iq 0, iq 0, .slice none 0 0, .slice none 0 0, iq 0, iq 0, iq 0] 81 true, .cells b1 [iq 0, iq 0, iq W, iq H, .slice A17 k19 cp20, .slice Af kf cf, iq wb, iq wf, iq fr] 81 true, .gen (rdE (Ab) gb 0 kb 4 (rvals xb)), .gen (rdE (Af) gf 0 kf 4 (rvals xf)), .gen (rdE (Az) gz oz nz 4 (rvals xsz))]) (fun x_ => True) (by kernel_rfl) (fun w hT => (refKeepNo A25 g26 0 k27 cp28 (regM orB xf OWN) 64 w (hT.viewRo (.cons (i := 0) rfl Vw.rowRd .nil) rfl) (by omega) hkc32_).mono fun e w' ⟨A33, g34, k35, cp36, he_, ht_⟩ => ⟨(A33, g34, k35, cp36), he_, trivial, hT.news ht_ rfl⟩) ?_
   rintro ⟨A33, g34, k35, cp36⟩ hf37_
   refine cont_norm [(2, .pointer (pB b1)), (4, .pointer (pB b2)), (19, .slice Af kf cf), (20, .slice A10 k12 cp13), (21, .slice A25 k27 cp28), (22, .slice A33 k35 cp36)] [.gen (rowE (A33) g34 k35 cp36 28 4 (rvals (keepL hullD (regM orB xf OWN) 64)) true), .gen (rowE (A25) g26 k27 cp28 28 4 (rvals (regM orB xf OWN)) true), .gen (rowE (A17) g18 k19 cp20 28 4 (rvals (keepL hullD (regM orB xb OWN) 64)) true), .gen (rowE (A10) g11 k12 cp13 28 4 (rvals OWN) true), .gen (rowE (pB b9) b9 1 1 28 4 (rvals [(⟨0, 0, W, H⟩ : Rect)]) true), .gen (rowE (A3) g4 k5 cp6 28 4 (rvals (canR xsz)) true), .cells b2 [iq 0, iq 0, iq 0, iq 0, .slice none 0 0, .slice none 0 0, iq 0, iq 0, iq 0] 81 true, .cells b1 [iq 0, iq 0, iq W, iq H, .slice A17 k19 cp20, .slice Af kf cf, iq wb, iq wf, iq fr] 81 true, .gen (rdE (Ab) gb 0 kb 4 (rvals xb)), .gen (rdE (Af) gf 0 kf 4 (rvals xf)), .gen (rdE (Az) gz oz nz 4 (rvals xsz))] (by kernel_rfl) rfl ?_
   refine cont_fact (F := (0 < k35 → (A33 : Option Addr) = pB g34) ∧ (keepL hullD (regM orB xf OWN) 64).length = k35 ∧ k35 ≤ cp36 ∧ cp36 ≤ maxLen) (fun w hT => Row.factsR (hT.ok 0 _ rfl)) (fun hr38_ => ?_)
   obtain ⟨hr38_a, hr38_l, hr38_c, hr38_m⟩ := hr38_
   unfold maxLen at hr38_m
   refine batch0 [0, 7] 7 0 [(2, .pointer (pB b1)), (4, .pointer (pB b2))] [.gen (rowE (A33) g34 k35 cp36 28 4 (rvals (keepL hullD (regM orB xf OWN) 64)) true), .gen (rowE (A25) g26 k27 cp28 28 4 (rvals (regM orB xf OWN)) true), .gen (rowE (A17) g18 k19 cp20 28 4 (rvals (keepL hullD (regM orB xb OWN) 64)) true), .gen (rowE (A10) g11 k12 cp13 28 4 (rvals OWN) true), .gen (rowE (pB b9) b9 1 1 28 4 (rvals [(⟨0, 0, W, H⟩ : Rect)]) true), .gen (rowE (A3) g4 k5 cp6 28 4 (rvals (canR xsz)) true), .cells b2 [iq 0, iq 0, iq 0, iq 0, .slice none 0 0, .slice none 0 0, iq 0, iq 0, iq 0] 81 true, .cells b1 [iq 0, iq 0, iq W, iq H, .slice A17 k19 cp20, .slice A33 k35 cp36, iq wb, iq wf, iq fr] 81 true, .gen (rdE (Ab) gb 0 kb 4 (rvals xb)), .gen (rdE (Af) gf 0 kf 4 (rvals xf)), .gen (rdE (Az) gz oz nz 4 (rvals xsz))] rfl rfl (by kernel_rfl) (by kernel_rfl) ?_
   refine cont_done ?_
   refine then_normal ?_
   refine cont_seq ?_
   refine cont_region 2 rfl ?_
   refine batch0 [7, 6] 2 0 [(4, .pointer (pB b2))] [.gen (rowE (A33) g34 k35 cp36 28 4 (rvals (keepL hullD (regM orB xf OWN) 64)) true), .gen (rowE (A25) g26 k27 cp28 28 4 (rvals (regM orB xf OWN)) true), .gen (rowE (A17) g18 k19 cp20 28 4 (rvals (keepL hullD (regM orB xb OWN) 64)) true), .gen (rowE (A10) g11 k12 cp13 28 4 (rvals OWN) true), .gen (rowE (pB b9) b9 1 1 28 4 (rvals [(⟨0, 0, W, H⟩ : Rect)]) true), .gen (rowE (A3) g4 k5 cp6 28 4 (rvals (canR xsz)) true), .cells b2 [iq 0, iq 0, iq W, iq H, .slice A17 k19 cp20, .slice A33 k35 cp36, iq wb, iq wf, iq fr] 81 true, .cells b1 [iq 0, iq 0, iq W, iq H, .slice A17 k19 cp20, .slice A33 k35 cp36, iq wb, iq wf, iq fr] 81 true, .gen (rdE (Ab) gb 0 kb 4 (rvals xb)), .gen (rdE (Af) gf 0 kf 4 (rvals xf)), .gen (rdE (Az) gz oz nz 4 (rvals xsz))] rfl rfl (by kernel_rfl) (by kernel_rfl) ?_
   refine cont_forget 7 rfl ?_
   refine cont_done ?_
   refine then_normal ?_
   refine cont_ret ?_
   refine ret_one (.inl rfl) rfl 6 (.agg #[iq 0, iq 0, iq W, iq H, .slice A17 k19 cp20, .slice A33 k35 cp36, iq wb, iq wf, iq fr]) (by kernel_rfl) (by kernel_rfl) (fun w hT => ?_)
   rw [hOWN] at hT
   exact ⟨_, _, _, _, _, _, _, _, rfl, hT.pick [2, 0] (by decide) rfl rfl⟩
  refine call_gen (d := 16) (α := Option Addr × Nat × Nat × Nat) (fun x_ => .slice x_.1 x_.2.2.1 x_.2.2.2) (fun x_ => [.gen (rowE (x_.1) x_.2.1 x_.2.2.1 x_.2.2.2 28 4 (rvals (keepL hullD (regM orB xb OWN) 64)) true), .gen (rowE (A17) g18 k19 cp20 28 4 (rvals (regM orB xb OWN)) true), .gen (rowE (A10) g11 k12 cp13 28 4 (rvals OWN) true), .gen (rowE (pB b9) b9 1 1 28 4 (rvals [(⟨0, 0, W, H⟩ : Rect)]) true), .gen (rowE (A3) g4 k5 cp6 28 4 (rvals (canR xsz)) true), .cells b2 [iq 0, iq 0, iq 0, iq 0, .slice none 0 0, .slice none 0 0, iq 0, iq 0, iq 0] 81 true, .cells b1 [iq 0, iq 0, iq W, iq H, .slice Ab kb cb, .slice Af kf cf, iq wb, iq wf, iq fr] 81 true, .gen (rdE (Ab) gb 0 kb 4 (rvals xb)), .gen (rdE (Af) gf 0 kf 4 (rvals xf)), .gen (rdE (Az) gz oz nz 4 (rvals xsz))]) (fun x_ => True) (by kernel_rfl) (fun w hT => (refKeepNo A17 g18 0 k19 cp20 (regM orB xb OWN) 64 w (hT.viewRo (.cons (i := 0) rfl Vw.rowRd .nil) rfl) (by omega) hkc24_).mono fun e w' ⟨A39, g40, k41, cp42, he_, ht_⟩ => ⟨(A39, g40, k41, cp42), he_, trivial, hT.news ht_ rfl⟩) ?_
  rintro ⟨A39, g40, k41, cp42⟩ hf43_
  refine cont_norm [(2, .pointer (pB b1)), (4, .pointer (pB b2)), (5, .slice A10 k12 cp13), (13, .slice Ab kb cb), (14, .slice A10 k12 cp13), (15, .slice A17 k19 cp20), (16, .slice A39 k41 cp42)] [.gen (rowE (A39) g40 k41 cp42 28 4 (rvals (keepL hullD (regM orB xb OWN) 64)) true), .gen (rowE (A17) g18 k19 cp20 28 4 (rvals (regM orB xb OWN)) true), .gen (rowE (A10) g11 k12 cp13 28 4 (rvals OWN) true), .gen (rowE (pB b9) b9 1 1 28 4 (rvals [(⟨0, 0, W, H⟩ : Rect)]) true), .gen (rowE (A3) g4 k5 cp6 28 4 (rvals (canR xsz)) true), .cells b2 [iq 0, iq 0, iq 0, iq 0, .slice none 0 0, .slice none 0 0, iq 0, iq 0, iq 0] 81 true, .cells b1 [iq 0, iq 0, iq W, iq H, .slice Ab kb cb, .slice Af kf cf, iq wb, iq wf, iq fr] 81 true, .gen (rdE (Ab) gb 0 kb 4 (rvals xb)), .gen (rdE (Af) gf 0 kf 4 (rvals xf)), .gen (rdE (Az) gz oz nz 4 (rvals xsz))] (by kernel_rfl) rfl ?_
  refine cont_fact (F := (0 < k41 → (A39 : Option Addr) = pB g40) ∧ (keepL hullD (regM orB xb OWN) 64).length = k41 ∧ k41 ≤ cp42 ∧ cp42 ≤ maxLen) (fun w hT => Row.factsR (hT.ok 0 _ rfl)) (fun hr44_ => ?_)
  obtain ⟨hr44_a, hr44_l, hr44_c, hr44_m⟩ := hr44_
  unfold maxLen at hr44_m
  refine batch0 [0, 6] 7 0 [(2, .pointer (pB b1)), (4, .pointer (pB b2)), (5, .slice A10 k12 cp13)] [.gen (rowE (A39) g40 k41 cp42 28 4 (rvals (keepL hullD (regM orB xb OWN) 64)) true), .gen (rowE (A17) g18 k19 cp20 28 4 (rvals (regM orB xb OWN)) true), .gen (rowE (A10) g11 k12 cp13 28 4 (rvals OWN) true), .gen (rowE (pB b9) b9 1 1 28 4 (rvals [(⟨0, 0, W, H⟩ : Rect)]) true), .gen (rowE (A3) g4 k5 cp6 28 4 (rvals (canR xsz)) true), .cells b2 [iq 0, iq 0, iq 0, iq 0, .slice none 0 0, .slice none 0 0, iq 0, iq 0, iq 0] 81 true, .cells b1 [iq 0, iq 0, iq W, iq H, .slice A39 k41 cp42, .slice Af kf cf, iq wb, iq wf, iq fr] 81 true, .gen (rdE (Ab) gb 0 kb 4 (rvals xb)), .gen (rdE (Af) gf 0 kf 4 (rvals xf)), .gen (rdE (Az) gz oz nz 4 (rvals xsz))] rfl rfl (by kernel_rfl) (by kernel_rfl) ?_
  refine cont_done ?_
  refine then_normal ?_
  refine cont_seq ?_
  refine cont_region 7 rfl ?_
  refine bS [0, 6, 0] 3 4 [(2, .pointer (pB b1)), (4, .pointer (pB b2)), (19, .slice Af kf cf), (20, .slice A10 k12 cp13)] ?_
  refine pl_step 4 3 rfl rfl ?_
  refine call_gen (d := 21) (α := Option Addr × Nat × Nat × Nat) (fun x_ => .slice x_.1 x_.2.2.1 x_.2.2.2) (fun x_ => [.gen (rowE (x_.1) x_.2.1 x_.2.2.1 x_.2.2.2 28 4 (rvals (regM orB xf OWN)) true), .gen (rowE (A39) g40 k41 cp42 28 4 (rvals (keepL hullD (regM orB xb OWN) 64)) true), .gen (rowE (A17) g18 k19 cp20 28 4 (rvals (regM orB xb OWN)) true), .gen (rowE (A10) g11 k12 cp13 28 4 (rvals OWN) true), .gen (rowE (pB b9) b9 1 1 28 4 (rvals [(⟨0, 0, W, H⟩ : Rect)]) true), .gen (rowE (A3) g4 k5 cp6 28 4 (rvals (canR xsz)) true), .cells b2 [iq 0, iq 0, iq 0, iq 0, .slice none 0 0, .slice none 0 0, iq 0, iq 0, iq 0] 81 true, .cells b1 [iq 0, iq 0, iq W, iq H, .slice A39 k41 cp42, .slice Af kf cf, iq wb, iq wf, iq fr] 81 true, .gen (rdE (Ab) gb 0 kb 4 (rvals xb)), .gen (rdE (Af) gf 0 kf 4 (rvals xf)), .gen (rdE (Az) gz oz nz 4 (rvals xsz))]) (fun x_ => True) (by kernel_rfl) (fun w hT => (refUnion Af gf 0 kf cf xf A10 g11 0 k12 cp13 OWN w (hT.viewRo (.cons (i := 8) rfl Vw.rd (.cons (i := 2) rfl Vw.rowRd .nil)) rfl) (by omega)).mono fun e w' ⟨A45, g46, k47, cp48, he_, ht_⟩ => ⟨(A45, g46, k47, cp48), he_, trivial, hT.news ht_ rfl⟩) ?_
  rintro ⟨A45, g46, k47, cp48⟩ hf49_
  refine cont_norm [(2, .pointer (pB b1)), (4, .pointer (pB b2)), (19, .slice Af kf cf), (20, .slice A10 k12 cp13), (21, .slice A45 k47 cp48)] [.gen (rowE (A45) g46 k47 cp48 28 4 (rvals (regM orB xf OWN)) true), .gen (rowE (A39) g40 k41 cp42 28 4 (rvals (keepL hullD (regM orB xb OWN) 64)) true), .gen (rowE (A17) g18 k19 cp20 28 4 (rvals (regM orB xb OWN)) true), .gen (rowE (A10) g11 k12 cp13 28 4 (rvals OWN) true), .gen (rowE (pB b9) b9 1 1 28 4 (rvals [(⟨0, 0, W, H⟩ : Rect)]) true), .gen (rowE (A3) g4 k5 cp6 28 4 (rvals (canR xsz)) true), .cells b2 [iq 0, iq 0, iq 0, iq 0, .slice none 0 0, .slice none 0 0, iq 0, iq 0, iq 0] 81 true, .cells b1 [iq 0, iq 0, iq W, iq H, .slice A39 k41 cp42, .slice Af kf cf, iq wb, iq wf, iq fr] 81 true, .gen (rdE (Ab) gb 0 kb 4 (rvals xb)), .gen (rdE (Af) gf 0 kf 4 (rvals xf)), .gen (rdE (Az) gz oz nz 4 (rvals xsz))] (by kernel_rfl) rfl ?_
  refine cont_fact (F := (0 < k47 → (A45 : Option Addr) = pB g46) ∧ (regM orB xf OWN).length = k47 ∧ k47 ≤ cp48 ∧ cp48 ≤ maxLen) (fun w hT => Row.factsR (hT.ok 0 _ rfl)) (fun hr50_ => ?_)
  obtain ⟨hr50_a, hr50_l, hr50_c, hr50_m⟩ := hr50_
  unfold maxLen at hr50_m
  refine pl_step 5 2 rfl rfl ?_
  have hkl51_ := keepL_length hullD (regM orB xf OWN) 64
  by_cases hkc52_ : (k47 : Int) ≤ 64
  ·
   refine call_pure (d := 22) (.slice A45 k47 cp48) (by kernel_rfl) (fun w hT => refKeepYes A45 g46 0 k47 cp48 (regM orB xf OWN) 64 w (hT.viewRo (.cons (i := 0) rfl Vw.rowRd .nil) rfl) (by omega) hkc52_) ?_
   refine cont_rowEqR 0 (regM orB xf OWN) (keepL hullD (regM orB xf OWN) 64) rfl ((keepL_all (by omega)).symm) ?_
   refine cont_norm [(2, .pointer (pB b1)), (4, .pointer (pB b2)), (19, .slice Af kf cf), (20, .slice A10 k12 cp13), (21, .slice A45 k47 cp48), (22, .slice A45 k47 cp48)] [.gen (rowE (A45) g46 k47 cp48 28 4 (rvals (keepL hullD (regM orB xf OWN) 64)) true), .gen (rowE (A39) g40 k41 cp42 28 4 (rvals (keepL hullD (regM orB xb OWN) 64)) true), .gen (rowE (A17) g18 k19 cp20 28 4 (rvals (regM orB xb OWN)) true), .gen (rowE (A10) g11 k12 cp13 28 4 (rvals OWN) true), .gen (rowE (pB b9) b9 1 1 28 4 (rvals [(⟨0, 0, W, H⟩ : Rect)]) true), .gen (rowE (A3) g4 k5 cp6 28 4 (rvals (canR xsz)) true), .cells b2 [iq 0, iq 0, iq 0, iq 0, .slice none 0 0, .slice none 0 0, iq 0, iq 0, iq 0] 81 true, .cells b1 [iq 0, iq 0, iq W, iq H, .slice A39 k41 cp42, .slice Af kf cf, iq wb, iq wf, iq fr] 81 true, .gen (rdE (Ab) gb 0 kb 4 (rvals xb)), .gen (rdE (Af) gf 0 kf 4 (rvals xf)), .gen (rdE (Az) gz oz nz 4 (rvals xsz))] (by kernel_rfl) rfl ?_
   refine batch0 [0, 7] 7 0 [(2, .pointer (pB b1)), (4, .pointer (pB b2))] [.gen (rowE (A45) g46 k47 cp48 28 4 (rvals (keepL hullD (regM orB xf OWN) 64)) true), .gen (rowE (A39) g40 k41 cp42 28 4 (rvals (keepL hullD (regM orB xb OWN) 64)) true), .gen (rowE (A17) g18 k19 cp20 28 4 (rvals (regM orB xb OWN)) true), .gen (rowE (A10) g11 k12 cp13 28 4 (rvals OWN) true), .gen (rowE (pB b9) b9 1 1 28 4 (rvals [(⟨0, 0, W, H⟩ : Rect)]) true), .gen (rowE (A3) g4 k5 cp6 28 4 (rvals (canR xsz)) true), .cells b2 [iq 0, iq 0, iq 0, iq 0, .slice none 0 0, .slice none 0 0, iq 0, iq 0, iq 0] 81 true, .cells b1 [iq 0, iq 0, iq W, iq H, .slice A39 k41 cp42, .slice A45 k47 cp48, iq wb, iq wf, iq fr] 81 true, .gen (rdE (Ab) gb 0 kb 4 (rvals xb)), .gen (rdE (Af) gf 0 kf 4 (rvals xf)), .gen (rdE (Az) gz oz nz 4 (rvals xsz))] rfl rfl (by kernel_rfl) (by kernel_rfl) ?_
   refine cont_done ?_
   refine then_normal ?_
   refine cont_seq ?_
   refine cont_region 2 rfl ?_
   refine batch0 [7, 6] 2 0 [(4, .pointer (pB b2))] [.gen (rowE (A45) g46 k47 cp48 28 4 (rvals (keepL hullD (regM orB xf OWN) 64)) true), .gen (rowE (A39) g40 k41 cp42 28 4 (rvals (keepL hullD (regM orB xb OWN) 64)) true), .gen (rowE (A17) g18 k19 cp20 28 4 (rvals (regM orB xb OWN)) true), .gen (rowE (A10) g11 k12 cp13 28 4 (rvals OWN) true), .gen (rowE (pB b9) b9 1 1 28 4 (rvals [(⟨0, 0, W, H⟩ : Rect)]) true), .gen (rowE (A3) g4 k5 cp6 28 4 (rvals (canR xsz)) true), .cells b2 [iq 0, iq 0, iq W, iq H, .slice A39 k41 cp42, .slice A45 k47 cp48, iq wb, iq wf, iq fr] 81 true, .cells b1 [iq 0, iq 0, iq W, iq H, .slice A39 k41 cp42, .slice A45 k47 cp48, iq wb, iq wf, iq fr] 81 true, .gen (rdE (Ab) gb 0 kb 4 (rvals xb)), .gen (rdE (Af) gf 0 kf 4 (rvals xf)), .gen (rdE (Az) gz oz nz 4 (rvals xsz))] rfl rfl (by kernel_rfl) (by kernel_rfl) ?_
   refine cont_forget 7 rfl ?_
   refine cont_done ?_
   refine then_normal ?_
   refine cont_ret ?_
   refine ret_one (.inl rfl) rfl 6 (.agg #[iq 0, iq 0, iq W, iq H, .slice A39 k41 cp42, .slice A45 k47 cp48, iq wb, iq wf, iq fr]) (by kernel_rfl) (by kernel_rfl) (fun w hT => ?_)
   rw [hOWN] at hT
   exact ⟨_, _, _, _, _, _, _, _, rfl, hT.pick [1, 0] (by decide) rfl rfl⟩
  refine call_gen (d := 22) (α := Option Addr × Nat × Nat × Nat) (fun x_ => .slice x_.1 x_.2.2.1 x_.2.2.2) (fun x_ => [.gen (rowE (x_.1) x_.2.1 x_.2.2.1 x_.2.2.2 28 4 (rvals (keepL hullD (regM orB xf OWN) 64)) true), .gen (rowE (A45) g46 k47 cp48 28 4 (rvals (regM orB xf OWN)) true), .gen (rowE (A39) g40 k41 cp42 28 4 (rvals (keepL hullD (regM orB xb OWN) 64)) true), .gen (rowE (A17) g18 k19 cp20 28 4 (rvals (regM orB xb OWN)) true), .gen (rowE (A10) g11 k12 cp13 28 4 (rvals OWN) true), .gen (rowE (pB b9) b9 1 1 28 4 (rvals [(⟨0, 0, W, H⟩ : Rect)]) true), .gen (rowE (A3) g4 k5 cp6 28 4 (rvals (canR xsz)) true), .cells b2 [iq 0, iq 0, iq 0, iq 0, .slice none 0 0, .slice none 0 0, iq 0, iq 0, iq 0] 81 true, .cells b1 [iq 0, iq 0, iq W, iq H, .slice A39 k41 cp42, .slice Af kf cf, iq wb, iq wf, iq fr] 81 true, .gen (rdE (Ab) gb 0 kb 4 (rvals xb)), .gen (rdE (Af) gf 0 kf 4 (rvals xf)), .gen (rdE (Az) gz oz nz 4 (rvals xsz))]) (fun x_ => True) (by kernel_rfl) (fun w hT => (refKeepNo A45 g46 0 k47 cp48 (regM orB xf OWN) 64 w (hT.viewRo (.cons (i := 0) rfl Vw.rowRd .nil) rfl) (by omega) hkc52_).mono fun e w' ⟨A53, g54, k55, cp56, he_, ht_⟩ => ⟨(A53, g54, k55, cp56), he_, trivial, hT.news ht_ rfl⟩) ?_
  rintro ⟨A53, g54, k55, cp56⟩ hf57_
  refine cont_norm [(2, .pointer (pB b1)), (4, .pointer (pB b2)), (19, .slice Af kf cf), (20, .slice A10 k12 cp13), (21, .slice A45 k47 cp48), (22, .slice A53 k55 cp56)] [.gen (rowE (A53) g54 k55 cp56 28 4 (rvals (keepL hullD (regM orB xf OWN) 64)) true), .gen (rowE (A45) g46 k47 cp48 28 4 (rvals (regM orB xf OWN)) true), .gen (rowE (A39) g40 k41 cp42 28 4 (rvals (keepL hullD (regM orB xb OWN) 64)) true), .gen (rowE (A17) g18 k19 cp20 28 4 (rvals (regM orB xb OWN)) true), .gen (rowE (A10) g11 k12 cp13 28 4 (rvals OWN) true), .gen (rowE (pB b9) b9 1 1 28 4 (rvals [(⟨0, 0, W, H⟩ : Rect)]) true), .gen (rowE (A3) g4 k5 cp6 28 4 (rvals (canR xsz)) true), .cells b2 [iq 0, iq 0, iq 0, iq 0, .slice none 0 0, .slice none 0 0, iq 0, iq 0, iq 0] 81 true, .cells b1 [iq 0, iq 0, iq W, iq H, .slice A39 k41 cp42, .slice Af kf cf, iq wb, iq wf, iq fr] 81 true, .gen (rdE (Ab) gb 0 kb 4 (rvals xb)), .gen (rdE (Af) gf 0 kf 4 (rvals xf)), .gen (rdE (Az) gz oz nz 4 (rvals xsz))] (by kernel_rfl) rfl ?_
  refine cont_fact (F := (0 < k55 → (A53 : Option Addr) = pB g54) ∧ (keepL hullD (regM orB xf OWN) 64).length = k55 ∧ k55 ≤ cp56 ∧ cp56 ≤ maxLen) (fun w hT => Row.factsR (hT.ok 0 _ rfl)) (fun hr58_ => ?_)
  obtain ⟨hr58_a, hr58_l, hr58_c, hr58_m⟩ := hr58_
  unfold maxLen at hr58_m
  refine batch0 [0, 8] 7 0 [(2, .pointer (pB b1)), (4, .pointer (pB b2))] [.gen (rowE (A53) g54 k55 cp56 28 4 (rvals (keepL hullD (regM orB xf OWN) 64)) true), .gen (rowE (A45) g46 k47 cp48 28 4 (rvals (regM orB xf OWN)) true), .gen (rowE (A39) g40 k41 cp42 28 4 (rvals (keepL hullD (regM orB xb OWN) 64)) true), .gen (rowE (A17) g18 k19 cp20 28 4 (rvals (regM orB xb OWN)) true), .gen (rowE (A10) g11 k12 cp13 28 4 (rvals OWN) true), .gen (rowE (pB b9) b9 1 1 28 4 (rvals [(⟨0, 0, W, H⟩ : Rect)]) true), .gen (rowE (A3) g4 k5 cp6 28 4 (rvals (canR xsz)) true), .cells b2 [iq 0, iq 0, iq 0, iq 0, .slice none 0 0, .slice none 0 0, iq 0, iq 0, iq 0] 81 true, .cells b1 [iq 0, iq 0, iq W, iq H, .slice A39 k41 cp42, .slice A53 k55 cp56, iq wb, iq wf, iq fr] 81 true, .gen (rdE (Ab) gb 0 kb 4 (rvals xb)), .gen (rdE (Af) gf 0 kf 4 (rvals xf)), .gen (rdE (Az) gz oz nz 4 (rvals xsz))] rfl rfl (by kernel_rfl) (by kernel_rfl) ?_
  refine cont_done ?_
  refine then_normal ?_
  refine cont_seq ?_
  refine cont_region 2 rfl ?_
  refine batch0 [8, 7] 2 0 [(4, .pointer (pB b2))] [.gen (rowE (A53) g54 k55 cp56 28 4 (rvals (keepL hullD (regM orB xf OWN) 64)) true), .gen (rowE (A45) g46 k47 cp48 28 4 (rvals (regM orB xf OWN)) true), .gen (rowE (A39) g40 k41 cp42 28 4 (rvals (keepL hullD (regM orB xb OWN) 64)) true), .gen (rowE (A17) g18 k19 cp20 28 4 (rvals (regM orB xb OWN)) true), .gen (rowE (A10) g11 k12 cp13 28 4 (rvals OWN) true), .gen (rowE (pB b9) b9 1 1 28 4 (rvals [(⟨0, 0, W, H⟩ : Rect)]) true), .gen (rowE (A3) g4 k5 cp6 28 4 (rvals (canR xsz)) true), .cells b2 [iq 0, iq 0, iq W, iq H, .slice A39 k41 cp42, .slice A53 k55 cp56, iq wb, iq wf, iq fr] 81 true, .cells b1 [iq 0, iq 0, iq W, iq H, .slice A39 k41 cp42, .slice A53 k55 cp56, iq wb, iq wf, iq fr] 81 true, .gen (rdE (Ab) gb 0 kb 4 (rvals xb)), .gen (rdE (Af) gf 0 kf 4 (rvals xf)), .gen (rdE (Az) gz oz nz 4 (rvals xsz))] rfl rfl (by kernel_rfl) (by kernel_rfl) ?_
  refine cont_forget 8 rfl ?_
  refine cont_done ?_
  refine then_normal ?_
  refine cont_ret ?_
  refine ret_one (.inl rfl) rfl 7 (.agg #[iq 0, iq 0, iq W, iq H, .slice A39 k41 cp42, .slice A53 k55 cp56, iq wb, iq wf, iq fr]) (by kernel_rfl) (by kernel_rfl) (fun w hT => ?_)
  rw [hOWN] at hT
  exact ⟨_, _, _, _, _, _, _, _, rfl, hT.pick [2, 0] (by decide) rfl rfl⟩
 refine one_step1 0 (fun b59 => [(2, .pointer (pB b1)), (4, .pointer (pB b2)), (6, .slice Az nz capz), (10, .slice (pB b59) 1 1)]) (fun b59 => [.cells b59 [iq 0, iq 0, iq W, iq H] 28 true, .cells b2 [iq 0, iq 0, iq 0, iq 0, .slice none 0 0, .slice none 0 0, iq 0, iq 0, iq 0] 81 true, .cells b1 [iq 0, iq 0, iq W, iq H, .slice Ab kb cb, .slice Af kf cf, iq wb, iq wf, iq fr] 81 true, .gen (rdE (Ab) gb 0 kb 4 (rvals xb)), .gen (rdE (Af) gf 0 kf 4 (rvals xf)), .gen (rdE (Az) gz oz nz 4 (rvals xsz))]) (fun b59 => by kernel_rfl) (fun b59 => by kernel_rfl) (fun b59 => ?_)
 refine drawn_next 1 [] (by kernel_rfl) ?_
 refine drawn_one 1 2 rfl (by kernel_rfl) ?_
 refine call_gen (d := 7) (α := Option Addr × Nat × Nat × Nat) (fun x_ => .slice x_.1 x_.2.2.1 x_.2.2.2) (fun x_ => [.gen (rowE (x_.1) x_.2.1 x_.2.2.1 x_.2.2.2 28 4 (rvals (canR xsz)) true), .cells b59 [iq 0, iq 0, iq W, iq H] 28 true, .cells b2 [iq 0, iq 0, iq 0, iq 0, .slice none 0 0, .slice none 0 0, iq 0, iq 0, iq 0] 81 true, .cells b1 [iq 0, iq 0, iq W, iq H, .slice Ab kb cb, .slice Af kf cf, iq wb, iq wf, iq fr] 81 true, .gen (rdE (Ab) gb 0 kb 4 (rvals xb)), .gen (rdE (Af) gf 0 kf 4 (rvals xf)), .gen (rdE (Az) gz oz nz 4 (rvals xsz))]) (fun x_ => True) (by kernel_rfl) (fun w hT => (refOf Az gz oz nz capz xsz w (hT.viewRo (.cons (i := 5) rfl Vw.rd .nil) rfl) (by omega)).mono fun e w' ⟨A60, g61, k62, cp63, he_, ht_⟩ => ⟨(A60, g61, k62, cp63), he_, trivial, hT.news ht_ rfl⟩) ?_
 rintro ⟨A60, g61, k62, cp63⟩ hf64_
 refine cont_norm [(2, .pointer (pB b1)), (4, .pointer (pB b2)), (6, .slice Az nz capz), (7, .slice A60 k62 cp63), (10, .slice (pB b59) 1 1)] [.gen (rowE (A60) g61 k62 cp63 28 4 (rvals (canR xsz)) true), .cells b59 [iq 0, iq 0, iq W, iq H] 28 true, .cells b2 [iq 0, iq 0, iq 0, iq 0, .slice none 0 0, .slice none 0 0, iq 0, iq 0, iq 0] 81 true, .cells b1 [iq 0, iq 0, iq W, iq H, .slice Ab kb cb, .slice Af kf cf, iq wb, iq wf, iq fr] 81 true, .gen (rdE (Ab) gb 0 kb 4 (rvals xb)), .gen (rdE (Af) gf 0 kf 4 (rvals xf)), .gen (rdE (Az) gz oz nz 4 (rvals xsz))] (by kernel_rfl) rfl ?_
 refine cont_fact (F := (0 < k62 → (A60 : Option Addr) = pB g61) ∧ (canR xsz).length = k62 ∧ k62 ≤ cp63 ∧ cp63 ≤ maxLen) (fun w hT => Row.factsR (hT.ok 0 _ rfl)) (fun hr65_ => ?_)
 obtain ⟨hr65_a, hr65_l, hr65_c, hr65_m⟩ := hr65_
 unfold maxLen at hr65_m
 refine drawn_next 2 [] (by kernel_rfl) ?_
 refine drawn_one 5 1 rfl (by kernel_rfl) ?_
 refine cont_asRow 1 1 4 rfl (vals := rvals [(⟨0, 0, W, H⟩ : Rect)]) rfl rfl (by decide) ?_
 refine call_gen (d := 11) (α := Option Addr × Nat × Nat × Nat) (fun x_ => .slice x_.1 x_.2.2.1 x_.2.2.2) (fun x_ => [.gen (rowE (x_.1) x_.2.1 x_.2.2.1 x_.2.2.2 28 4 (rvals (regM andB (canR xsz) [(⟨0, 0, W, H⟩ : Rect)])) true), .gen (rowE (A60) g61 k62 cp63 28 4 (rvals (canR xsz)) true), .gen (rowE (pB b59) b59 1 1 28 4 (rvals [(⟨0, 0, W, H⟩ : Rect)]) true), .cells b2 [iq 0, iq 0, iq 0, iq 0, .slice none 0 0, .slice none 0 0, iq 0, iq 0, iq 0] 81 true, .cells b1 [iq 0, iq 0, iq W, iq H, .slice Ab kb cb, .slice Af kf cf, iq wb, iq wf, iq fr] 81 true, .gen (rdE (Ab) gb 0 kb 4 (rvals xb)), .gen (rdE (Af) gf 0 kf 4 (rvals xf)), .gen (rdE (Az) gz oz nz 4 (rvals xsz))]) (fun x_ => True) (by kernel_rfl) (fun w hT => (refCutL A60 g61 0 k62 cp63 (canR xsz) (pB b59) b59 0 1 1 [(⟨0, 0, W, H⟩ : Rect)] w (hT.viewRo (.cons (i := 0) rfl Vw.rowRd (.cons (i := 1) rfl Vw.rowRd .nil)) rfl) (by omega)).mono fun e w' ⟨A66, g67, k68, cp69, he_, ht_⟩ => ⟨(A66, g67, k68, cp69), he_, trivial, hT.news ht_ rfl⟩) ?_
 rintro ⟨A66, g67, k68, cp69⟩ hf70_
 refine cont_norm [(2, .pointer (pB b1)), (4, .pointer (pB b2)), (6, .slice Az nz capz), (7, .slice A60 k62 cp63), (10, .slice (pB b59) 1 1), (11, .slice A66 k68 cp69)] [.gen (rowE (A66) g67 k68 cp69 28 4 (rvals (regM andB (canR xsz) [(⟨0, 0, W, H⟩ : Rect)])) true), .gen (rowE (A60) g61 k62 cp63 28 4 (rvals (canR xsz)) true), .gen (rowE (pB b59) b59 1 1 28 4 (rvals [(⟨0, 0, W, H⟩ : Rect)]) true), .cells b2 [iq 0, iq 0, iq 0, iq 0, .slice none 0 0, .slice none 0 0, iq 0, iq 0, iq 0] 81 true, .cells b1 [iq 0, iq 0, iq W, iq H, .slice Ab kb cb, .slice Af kf cf, iq wb, iq wf, iq fr] 81 true, .gen (rdE (Ab) gb 0 kb 4 (rvals xb)), .gen (rdE (Af) gf 0 kf 4 (rvals xf)), .gen (rdE (Az) gz oz nz 4 (rvals xsz))] (by kernel_rfl) rfl ?_
 refine cont_fact (F := (0 < k68 → (A66 : Option Addr) = pB g67) ∧ (regM andB (canR xsz) [(⟨0, 0, W, H⟩ : Rect)]).length = k68 ∧ k68 ≤ cp69 ∧ cp69 ≤ maxLen) (fun w hT => Row.factsR (hT.ok 0 _ rfl)) (fun hr71_ => ?_)
 obtain ⟨hr71_a, hr71_l, hr71_c, hr71_m⟩ := hr71_
 unfold maxLen at hr71_m
 refine drawn_next 3 [] (by kernel_rfl) ?_
 refine takes 3 [] [(6, 0)] 0 [6, 5, 1, 4, 3, 2, 0] [(2, .pointer (pB b1)), (4, .pointer (pB b2)), (5, .slice A66 k68 cp69)] (by kernel_rfl) (pok_then pok_body) (by kernel_rfl) rfl rfl (by kernel_rfl) (by kernel_rfl) ?_
 refine drawn_done (by kernel_rfl) ?_
 refine then_normal ?_
 refine cont_seq ?_
 refine cont_region 7 rfl ?_
 have hol_ := own_lenD (r := (⟨0, 0, W, H⟩ : Rect)) (l := xsz) (by omega) (emptyB_false.2 ⟨by simp only; omega, by simp only; omega⟩)
 obtain ⟨OWN, hOWN⟩ : ∃ y_ : List Rect, y_ = (regM andB (canR xsz) [(⟨0, 0, W, H⟩ : Rect)]) := ⟨_, rfl⟩
 refine cont_rowEqR 0 (regM andB (canR xsz) [(⟨0, 0, W, H⟩ : Rect)]) (OWN) rfl hOWN.symm ?_
 rw [← hOWN] at hol_
 refine cont_fact (F := (0 < k68 → (A66 : Option Addr) = pB g67) ∧ OWN.length = k68 ∧ k68 ≤ cp69 ∧ cp69 ≤ maxLen) (fun w hT => Row.factsR (hT.ok 0 _ rfl)) (fun hr72_ => ?_)
 obtain ⟨hr72_a, hr72_l, hr72_c, hr72_m⟩ := hr72_
 unfold maxLen at hr72_m
 have hu0_ := regM_len orB xb OWN (n := 848) (by omega)
 have hu1_ := regM_len orB xf OWN (n := 848) (by omega)
 refine bS [0, 4, 0] 3 4 [(2, .pointer (pB b1)), (4, .pointer (pB b2)), (5, .slice A66 k68 cp69), (13, .slice Ab kb cb), (14, .slice A66 k68 cp69)] ?_
 refine pl_step 4 3 rfl rfl ?_
 refine call_gen (d := 15) (α := Option Addr × Nat × Nat × Nat) (fun x_ => .slice x_.1 x_.2.2.1 x_.2.2.2) (fun x_ => [.gen (rowE (x_.1) x_.2.1 x_.2.2.1 x_.2.2.2 28 4 (rvals (regM orB xb OWN)) true), .gen (rowE (A66) g67 k68 cp69 28 4 (rvals OWN) true), .gen (rowE (A60) g61 k62 cp63 28 4 (rvals (canR xsz)) true), .gen (rowE (pB b59) b59 1 1 28 4 (rvals [(⟨0, 0, W, H⟩ : Rect)]) true), .cells b2 [iq 0, iq 0, iq 0, iq 0, .slice none 0 0, .slice none 0 0, iq 0, iq 0, iq 0] 81 true, .cells b1 [iq 0, iq 0, iq W, iq H, .slice Ab kb cb, .slice Af kf cf, iq wb, iq wf, iq fr] 81 true, .gen (rdE (Ab) gb 0 kb 4 (rvals xb)), .gen (rdE (Af) gf 0 kf 4 (rvals xf)), .gen (rdE (Az) gz oz nz 4 (rvals xsz))]) (fun x_ => True) (by kernel_rfl) (fun w hT => (refUnion Ab gb 0 kb cb xb A66 g67 0 k68 cp69 OWN w (hT.viewRo (.cons (i := 5) rfl Vw.rd (.cons (i := 0) rfl Vw.rowRd .nil)) rfl) (by omega)).mono fun e w' ⟨A73, g74, k75, cp76, he_, ht_⟩ => ⟨(A73, g74, k75, cp76), he_, trivial, hT.news ht_ rfl⟩) ?_
 rintro ⟨A73, g74, k75, cp76⟩ hf77_
 refine cont_norm [(2, .pointer (pB b1)), (4, .pointer (pB b2)), (5, .slice A66 k68 cp69), (13, .slice Ab kb cb), (14, .slice A66 k68 cp69), (15, .slice A73 k75 cp76)] [.gen (rowE (A73) g74 k75 cp76 28 4 (rvals (regM orB xb OWN)) true), .gen (rowE (A66) g67 k68 cp69 28 4 (rvals OWN) true), .gen (rowE (A60) g61 k62 cp63 28 4 (rvals (canR xsz)) true), .gen (rowE (pB b59) b59 1 1 28 4 (rvals [(⟨0, 0, W, H⟩ : Rect)]) true), .cells b2 [iq 0, iq 0, iq 0, iq 0, .slice none 0 0, .slice none 0 0, iq 0, iq 0, iq 0] 81 true, .cells b1 [iq 0, iq 0, iq W, iq H, .slice Ab kb cb, .slice Af kf cf, iq wb, iq wf, iq fr] 81 true, .gen (rdE (Ab) gb 0 kb 4 (rvals xb)), .gen (rdE (Af) gf 0 kf 4 (rvals xf)), .gen (rdE (Az) gz oz nz 4 (rvals xsz))] (by kernel_rfl) rfl ?_
 refine cont_fact (F := (0 < k75 → (A73 : Option Addr) = pB g74) ∧ (regM orB xb OWN).length = k75 ∧ k75 ≤ cp76 ∧ cp76 ≤ maxLen) (fun w hT => Row.factsR (hT.ok 0 _ rfl)) (fun hr78_ => ?_)
 obtain ⟨hr78_a, hr78_l, hr78_c, hr78_m⟩ := hr78_
 unfold maxLen at hr78_m
 refine pl_step 5 2 rfl rfl ?_
 have hkl79_ := keepL_length hullD (regM orB xb OWN) 64
 by_cases hkc80_ : (k75 : Int) ≤ 64
 ·
  refine call_pure (d := 16) (.slice A73 k75 cp76) (by kernel_rfl) (fun w hT => refKeepYes A73 g74 0 k75 cp76 (regM orB xb OWN) 64 w (hT.viewRo (.cons (i := 0) rfl Vw.rowRd .nil) rfl) (by omega) hkc80_) ?_
  refine cont_rowEqR 0 (regM orB xb OWN) (keepL hullD (regM orB xb OWN) 64) rfl ((keepL_all (by omega)).symm) ?_
  refine cont_norm [(2, .pointer (pB b1)), (4, .pointer (pB b2)), (5, .slice A66 k68 cp69), (13, .slice Ab kb cb), (14, .slice A66 k68 cp69), (15, .slice A73 k75 cp76), (16, .slice A73 k75 cp76)] [.gen (rowE (A73) g74 k75 cp76 28 4 (rvals (keepL hullD (regM orB xb OWN) 64)) true), .gen (rowE (A66) g67 k68 cp69 28 4 (rvals OWN) true), .gen (rowE (A60) g61 k62 cp63 28 4 (rvals (canR xsz)) true), .gen (rowE (pB b59) b59 1 1 28 4 (rvals [(⟨0, 0, W, H⟩ : Rect)]) true), .cells b2 [iq 0, iq 0, iq 0, iq 0, .slice none 0 0, .slice none 0 0, iq 0, iq 0, iq 0] 81 true, .cells b1 [iq 0, iq 0, iq W, iq H, .slice Ab kb cb, .slice Af kf cf, iq wb, iq wf, iq fr] 81 true, .gen (rdE (Ab) gb 0 kb 4 (rvals xb)), .gen (rdE (Af) gf 0 kf 4 (rvals xf)), .gen (rdE (Az) gz oz nz 4 (rvals xsz))] (by kernel_rfl) rfl ?_
  refine batch0 [0, 5] 7 0 [(2, .pointer (pB b1)), (4, .pointer (pB b2)), (5, .slice A66 k68 cp69)] [.gen (rowE (A73) g74 k75 cp76 28 4 (rvals (keepL hullD (regM orB xb OWN) 64)) true), .gen (rowE (A66) g67 k68 cp69 28 4 (rvals OWN) true), .gen (rowE (A60) g61 k62 cp63 28 4 (rvals (canR xsz)) true), .gen (rowE (pB b59) b59 1 1 28 4 (rvals [(⟨0, 0, W, H⟩ : Rect)]) true), .cells b2 [iq 0, iq 0, iq 0, iq 0, .slice none 0 0, .slice none 0 0, iq 0, iq 0, iq 0] 81 true, .cells b1 [iq 0, iq 0, iq W, iq H, .slice A73 k75 cp76, .slice Af kf cf, iq wb, iq wf, iq fr] 81 true, .gen (rdE (Ab) gb 0 kb 4 (rvals xb)), .gen (rdE (Af) gf 0 kf 4 (rvals xf)), .gen (rdE (Az) gz oz nz 4 (rvals xsz))] rfl rfl (by kernel_rfl) (by kernel_rfl) ?_
  refine cont_done ?_
  refine then_normal ?_
  refine cont_seq ?_
  refine cont_region 7 rfl ?_
  refine bS [0, 5, 0] 3 4 [(2, .pointer (pB b1)), (4, .pointer (pB b2)), (19, .slice Af kf cf), (20, .slice A66 k68 cp69)] ?_
  refine pl_step 4 3 rfl rfl ?_
  refine call_gen (d := 21) (α := Option Addr × Nat × Nat × Nat) (fun x_ => .slice x_.1 x_.2.2.1 x_.2.2.2) (fun x_ => [.gen (rowE (x_.1) x_.2.1 x_.2.2.1 x_.2.2.2 28 4 (rvals (regM orB xf OWN)) true), .gen (rowE (A73) g74 k75 cp76 28 4 (rvals (keepL hullD (regM orB xb OWN) 64)) true), .gen (rowE (A66) g67 k68 cp69 28 4 (rvals OWN) true), .gen (rowE (A60) g61 k62 cp63 28 4 (rvals (canR xsz)) true), .gen (rowE (pB b59) b59 1 1 28 4 (rvals [(⟨0, 0, W, H⟩ : Rect)]) true), .cells b2 [iq 0, iq 0, iq 0, iq 0, .slice none 0 0, .slice none 0 0, iq 0, iq 0, iq 0] 81 true, .cells b1 [iq 0, iq 0, iq W, iq H, .slice A73 k75 cp76, .slice Af kf cf, iq wb, iq wf, iq fr] 81 true, .gen (rdE (Ab) gb 0 kb 4 (rvals xb)), .gen (rdE (Af) gf 0 kf 4 (rvals xf)), .gen (rdE (Az) gz oz nz 4 (rvals xsz))]) (fun x_ => True) (by kernel_rfl) (fun w hT => (refUnion Af gf 0 kf cf xf A66 g67 0 k68 cp69 OWN w (hT.viewRo (.cons (i := 7) rfl Vw.rd (.cons (i := 1) rfl Vw.rowRd .nil)) rfl) (by omega)).mono fun e w' ⟨A81, g82, k83, cp84, he_, ht_⟩ => ⟨(A81, g82, k83, cp84), he_, trivial, hT.news ht_ rfl⟩) ?_
  rintro ⟨A81, g82, k83, cp84⟩ hf85_
  refine cont_norm [(2, .pointer (pB b1)), (4, .pointer (pB b2)), (19, .slice Af kf cf), (20, .slice A66 k68 cp69), (21, .slice A81 k83 cp84)] [.gen (rowE (A81) g82 k83 cp84 28 4 (rvals (regM orB xf OWN)) true), .gen (rowE (A73) g74 k75 cp76 28 4 (rvals (keepL hullD (regM orB xb OWN) 64)) true), .gen (rowE (A66) g67 k68 cp69 28 4 (rvals OWN) true), .gen (rowE (A60) g61 k62 cp63 28 4 (rvals (canR xsz)) true), .gen (rowE (pB b59) b59 1 1 28 4 (rvals [(⟨0, 0, W, H⟩ : Rect)]) true), .cells b2 [iq 0, iq 0, iq 0, iq 0, .slice none 0 0, .slice none 0 0, iq 0, iq 0, iq 0] 81 true, .cells b1 [iq 0, iq 0, iq W, iq H, .slice A73 k75 cp76, .slice Af kf cf, iq wb, iq wf, iq fr] 81 true, .gen (rdE (Ab) gb 0 kb 4 (rvals xb)), .gen (rdE (Af) gf 0 kf 4 (rvals xf)), .gen (rdE (Az) gz oz nz 4 (rvals xsz))] (by kernel_rfl) rfl ?_
  refine cont_fact (F := (0 < k83 → (A81 : Option Addr) = pB g82) ∧ (regM orB xf OWN).length = k83 ∧ k83 ≤ cp84 ∧ cp84 ≤ maxLen) (fun w hT => Row.factsR (hT.ok 0 _ rfl)) (fun hr86_ => ?_)
  obtain ⟨hr86_a, hr86_l, hr86_c, hr86_m⟩ := hr86_
  unfold maxLen at hr86_m
  refine pl_step 5 2 rfl rfl ?_
  have hkl87_ := keepL_length hullD (regM orB xf OWN) 64
  by_cases hkc88_ : (k83 : Int) ≤ 64
  ·
   refine call_pure (d := 22) (.slice A81 k83 cp84) (by kernel_rfl) (fun w hT => refKeepYes A81 g82 0 k83 cp84 (regM orB xf OWN) 64 w (hT.viewRo (.cons (i := 0) rfl Vw.rowRd .nil) rfl) (by omega) hkc88_) ?_
   refine cont_rowEqR 0 (regM orB xf OWN) (keepL hullD (regM orB xf OWN) 64) rfl ((keepL_all (by omega)).symm) ?_
   refine cont_norm [(2, .pointer (pB b1)), (4, .pointer (pB b2)), (19, .slice Af kf cf), (20, .slice A66 k68 cp69), (21, .slice A81 k83 cp84), (22, .slice A81 k83 cp84)] [.gen (rowE (A81) g82 k83 cp84 28 4 (rvals (keepL hullD (regM orB xf OWN) 64)) true), .gen (rowE (A73) g74 k75 cp76 28 4 (rvals (keepL hullD (regM orB xb OWN) 64)) true), .gen (rowE (A66) g67 k68 cp69 28 4 (rvals OWN) true), .gen (rowE (A60) g61 k62 cp63 28 4 (rvals (canR xsz)) true), .gen (rowE (pB b59) b59 1 1 28 4 (rvals [(⟨0, 0, W, H⟩ : Rect)]) true), .cells b2 [iq 0, iq 0, iq 0, iq 0, .slice none 0 0, .slice none 0 0, iq 0, iq 0, iq 0] 81 true, .cells b1 [iq 0, iq 0, iq W, iq H, .slice A73 k75 cp76, .slice Af kf cf, iq wb, iq wf, iq fr] 81 true, .gen (rdE (Ab) gb 0 kb 4 (rvals xb)), .gen (rdE (Af) gf 0 kf 4 (rvals xf)), .gen (rdE (Az) gz oz nz 4 (rvals xsz))] (by kernel_rfl) rfl ?_
   refine batch0 [0, 6] 7 0 [(2, .pointer (pB b1)), (4, .pointer (pB b2))] [.gen (rowE (A81) g82 k83 cp84 28 4 (rvals (keepL hullD (regM orB xf OWN) 64)) true), .gen (rowE (A73) g74 k75 cp76 28 4 (rvals (keepL hullD (regM orB xb OWN) 64)) true), .gen (rowE (A66) g67 k68 cp69 28 4 (rvals OWN) true), .gen (rowE (A60) g61 k62 cp63 28 4 (rvals (canR xsz)) true), .gen (rowE (pB b59) b59 1 1 28 4 (rvals [(⟨0, 0, W, H⟩ : Rect)]) true), .cells b2 [iq 0, iq 0, iq 0, iq 0, .slice none 0 0, .slice none 0 0, iq 0, iq 0, iq 0] 81 true, .cells b1 [iq 0, iq 0, iq W, iq H, .slice A73 k75 cp76, .slice A81 k83 cp84, iq wb, iq wf, iq fr] 81 true, .gen (rdE (Ab) gb 0 kb 4 (rvals xb)), .gen (rdE (Af) gf 0 kf 4 (rvals xf)), .gen (rdE (Az) gz oz nz 4 (rvals xsz))] rfl rfl (by kernel_rfl) (by kernel_rfl) ?_
   refine cont_done ?_
   refine then_normal ?_
   refine cont_seq ?_
   refine cont_region 2 rfl ?_
   refine batch0 [6, 5] 2 0 [(4, .pointer (pB b2))] [.gen (rowE (A81) g82 k83 cp84 28 4 (rvals (keepL hullD (regM orB xf OWN) 64)) true), .gen (rowE (A73) g74 k75 cp76 28 4 (rvals (keepL hullD (regM orB xb OWN) 64)) true), .gen (rowE (A66) g67 k68 cp69 28 4 (rvals OWN) true), .gen (rowE (A60) g61 k62 cp63 28 4 (rvals (canR xsz)) true), .gen (rowE (pB b59) b59 1 1 28 4 (rvals [(⟨0, 0, W, H⟩ : Rect)]) true), .cells b2 [iq 0, iq 0, iq W, iq H, .slice A73 k75 cp76, .slice A81 k83 cp84, iq wb, iq wf, iq fr] 81 true, .cells b1 [iq 0, iq 0, iq W, iq H, .slice A73 k75 cp76, .slice A81 k83 cp84, iq wb, iq wf, iq fr] 81 true, .gen (rdE (Ab) gb 0 kb 4 (rvals xb)), .gen (rdE (Af) gf 0 kf 4 (rvals xf)), .gen (rdE (Az) gz oz nz 4 (rvals xsz))] rfl rfl (by kernel_rfl) (by kernel_rfl) ?_
   refine cont_forget 6 rfl ?_
   refine cont_done ?_
   refine then_normal ?_
   refine cont_ret ?_
   refine ret_one (.inl rfl) rfl 5 (.agg #[iq 0, iq 0, iq W, iq H, .slice A73 k75 cp76, .slice A81 k83 cp84, iq wb, iq wf, iq fr]) (by kernel_rfl) (by kernel_rfl) (fun w hT => ?_)
   rw [hOWN] at hT
   exact ⟨_, _, _, _, _, _, _, _, rfl, hT.pick [1, 0] (by decide) rfl rfl⟩
  refine call_gen (d := 22) (α := Option Addr × Nat × Nat × Nat) (fun x_ => .slice x_.1 x_.2.2.1 x_.2.2.2) (fun x_ => [.gen (rowE (x_.1) x_.2.1 x_.2.2.1 x_.2.2.2 28 4 (rvals (keepL hullD (regM orB xf OWN) 64)) true), .gen (rowE (A81) g82 k83 cp84 28 4 (rvals (regM orB xf OWN)) true), .gen (rowE (A73) g74 k75 cp76 28 4 (rvals (keepL hullD (regM orB xb OWN) 64)) true), .gen (rowE (A66) g67 k68 cp69 28 4 (rvals OWN) true), .gen (rowE (A60) g61 k62 cp63 28 4 (rvals (canR xsz)) true), .gen (rowE (pB b59) b59 1 1 28 4 (rvals [(⟨0, 0, W, H⟩ : Rect)]) true), .cells b2 [iq 0, iq 0, iq 0, iq 0, .slice none 0 0, .slice none 0 0, iq 0, iq 0, iq 0] 81 true, .cells b1 [iq 0, iq 0, iq W, iq H, .slice A73 k75 cp76, .slice Af kf cf, iq wb, iq wf, iq fr] 81 true, .gen (rdE (Ab) gb 0 kb 4 (rvals xb)), .gen (rdE (Af) gf 0 kf 4 (rvals xf)), .gen (rdE (Az) gz oz nz 4 (rvals xsz))]) (fun x_ => True) (by kernel_rfl) (fun w hT => (refKeepNo A81 g82 0 k83 cp84 (regM orB xf OWN) 64 w (hT.viewRo (.cons (i := 0) rfl Vw.rowRd .nil) rfl) (by omega) hkc88_).mono fun e w' ⟨A89, g90, k91, cp92, he_, ht_⟩ => ⟨(A89, g90, k91, cp92), he_, trivial, hT.news ht_ rfl⟩) ?_
  rintro ⟨A89, g90, k91, cp92⟩ hf93_
  refine cont_norm [(2, .pointer (pB b1)), (4, .pointer (pB b2)), (19, .slice Af kf cf), (20, .slice A66 k68 cp69), (21, .slice A81 k83 cp84), (22, .slice A89 k91 cp92)] [.gen (rowE (A89) g90 k91 cp92 28 4 (rvals (keepL hullD (regM orB xf OWN) 64)) true), .gen (rowE (A81) g82 k83 cp84 28 4 (rvals (regM orB xf OWN)) true), .gen (rowE (A73) g74 k75 cp76 28 4 (rvals (keepL hullD (regM orB xb OWN) 64)) true), .gen (rowE (A66) g67 k68 cp69 28 4 (rvals OWN) true), .gen (rowE (A60) g61 k62 cp63 28 4 (rvals (canR xsz)) true), .gen (rowE (pB b59) b59 1 1 28 4 (rvals [(⟨0, 0, W, H⟩ : Rect)]) true), .cells b2 [iq 0, iq 0, iq 0, iq 0, .slice none 0 0, .slice none 0 0, iq 0, iq 0, iq 0] 81 true, .cells b1 [iq 0, iq 0, iq W, iq H, .slice A73 k75 cp76, .slice Af kf cf, iq wb, iq wf, iq fr] 81 true, .gen (rdE (Ab) gb 0 kb 4 (rvals xb)), .gen (rdE (Af) gf 0 kf 4 (rvals xf)), .gen (rdE (Az) gz oz nz 4 (rvals xsz))] (by kernel_rfl) rfl ?_
  refine cont_fact (F := (0 < k91 → (A89 : Option Addr) = pB g90) ∧ (keepL hullD (regM orB xf OWN) 64).length = k91 ∧ k91 ≤ cp92 ∧ cp92 ≤ maxLen) (fun w hT => Row.factsR (hT.ok 0 _ rfl)) (fun hr94_ => ?_)
  obtain ⟨hr94_a, hr94_l, hr94_c, hr94_m⟩ := hr94_
  unfold maxLen at hr94_m
  refine batch0 [0, 7] 7 0 [(2, .pointer (pB b1)), (4, .pointer (pB b2))] [.gen (rowE (A89) g90 k91 cp92 28 4 (rvals (keepL hullD (regM orB xf OWN) 64)) true), .gen (rowE (A81) g82 k83 cp84 28 4 (rvals (regM orB xf OWN)) true), .gen (rowE (A73) g74 k75 cp76 28 4 (rvals (keepL hullD (regM orB xb OWN) 64)) true), .gen (rowE (A66) g67 k68 cp69 28 4 (rvals OWN) true), .gen (rowE (A60) g61 k62 cp63 28 4 (rvals (canR xsz)) true), .gen (rowE (pB b59) b59 1 1 28 4 (rvals [(⟨0, 0, W, H⟩ : Rect)]) true), .cells b2 [iq 0, iq 0, iq 0, iq 0, .slice none 0 0, .slice none 0 0, iq 0, iq 0, iq 0] 81 true, .cells b1 [iq 0, iq 0, iq W, iq H, .slice A73 k75 cp76, .slice A89 k91 cp92, iq wb, iq wf, iq fr] 81 true, .gen (rdE (Ab) gb 0 kb 4 (rvals xb)), .gen (rdE (Af) gf 0 kf 4 (rvals xf)), .gen (rdE (Az) gz oz nz 4 (rvals xsz))] rfl rfl (by kernel_rfl) (by kernel_rfl) ?_
  refine cont_done ?_
  refine then_normal ?_
  refine cont_seq ?_
  refine cont_region 2 rfl ?_
  refine batch0 [7, 6] 2 0 [(4, .pointer (pB b2))] [.gen (rowE (A89) g90 k91 cp92 28 4 (rvals (keepL hullD (regM orB xf OWN) 64)) true), .gen (rowE (A81) g82 k83 cp84 28 4 (rvals (regM orB xf OWN)) true), .gen (rowE (A73) g74 k75 cp76 28 4 (rvals (keepL hullD (regM orB xb OWN) 64)) true), .gen (rowE (A66) g67 k68 cp69 28 4 (rvals OWN) true), .gen (rowE (A60) g61 k62 cp63 28 4 (rvals (canR xsz)) true), .gen (rowE (pB b59) b59 1 1 28 4 (rvals [(⟨0, 0, W, H⟩ : Rect)]) true), .cells b2 [iq 0, iq 0, iq W, iq H, .slice A73 k75 cp76, .slice A89 k91 cp92, iq wb, iq wf, iq fr] 81 true, .cells b1 [iq 0, iq 0, iq W, iq H, .slice A73 k75 cp76, .slice A89 k91 cp92, iq wb, iq wf, iq fr] 81 true, .gen (rdE (Ab) gb 0 kb 4 (rvals xb)), .gen (rdE (Af) gf 0 kf 4 (rvals xf)), .gen (rdE (Az) gz oz nz 4 (rvals xsz))] rfl rfl (by kernel_rfl) (by kernel_rfl) ?_
  refine cont_forget 7 rfl ?_
  refine cont_done ?_
  refine then_normal ?_
  refine cont_ret ?_
  refine ret_one (.inl rfl) rfl 6 (.agg #[iq 0, iq 0, iq W, iq H, .slice A73 k75 cp76, .slice A89 k91 cp92, iq wb, iq wf, iq fr]) (by kernel_rfl) (by kernel_rfl) (fun w hT => ?_)
  rw [hOWN] at hT
  exact ⟨_, _, _, _, _, _, _, _, rfl, hT.pick [2, 0] (by decide) rfl rfl⟩
 refine call_gen (d := 16) (α := Option Addr × Nat × Nat × Nat) (fun x_ => .slice x_.1 x_.2.2.1 x_.2.2.2) (fun x_ => [.gen (rowE (x_.1) x_.2.1 x_.2.2.1 x_.2.2.2 28 4 (rvals (keepL hullD (regM orB xb OWN) 64)) true), .gen (rowE (A73) g74 k75 cp76 28 4 (rvals (regM orB xb OWN)) true), .gen (rowE (A66) g67 k68 cp69 28 4 (rvals OWN) true), .gen (rowE (A60) g61 k62 cp63 28 4 (rvals (canR xsz)) true), .gen (rowE (pB b59) b59 1 1 28 4 (rvals [(⟨0, 0, W, H⟩ : Rect)]) true), .cells b2 [iq 0, iq 0, iq 0, iq 0, .slice none 0 0, .slice none 0 0, iq 0, iq 0, iq 0] 81 true, .cells b1 [iq 0, iq 0, iq W, iq H, .slice Ab kb cb, .slice Af kf cf, iq wb, iq wf, iq fr] 81 true, .gen (rdE (Ab) gb 0 kb 4 (rvals xb)), .gen (rdE (Af) gf 0 kf 4 (rvals xf)), .gen (rdE (Az) gz oz nz 4 (rvals xsz))]) (fun x_ => True) (by kernel_rfl) (fun w hT => (refKeepNo A73 g74 0 k75 cp76 (regM orB xb OWN) 64 w (hT.viewRo (.cons (i := 0) rfl Vw.rowRd .nil) rfl) (by omega) hkc80_).mono fun e w' ⟨A95, g96, k97, cp98, he_, ht_⟩ => ⟨(A95, g96, k97, cp98), he_, trivial, hT.news ht_ rfl⟩) ?_
 rintro ⟨A95, g96, k97, cp98⟩ hf99_
 refine cont_norm [(2, .pointer (pB b1)), (4, .pointer (pB b2)), (5, .slice A66 k68 cp69), (13, .slice Ab kb cb), (14, .slice A66 k68 cp69), (15, .slice A73 k75 cp76), (16, .slice A95 k97 cp98)] [.gen (rowE (A95) g96 k97 cp98 28 4 (rvals (keepL hullD (regM orB xb OWN) 64)) true), .gen (rowE (A73) g74 k75 cp76 28 4 (rvals (regM orB xb OWN)) true), .gen (rowE (A66) g67 k68 cp69 28 4 (rvals OWN) true), .gen (rowE (A60) g61 k62 cp63 28 4 (rvals (canR xsz)) true), .gen (rowE (pB b59) b59 1 1 28 4 (rvals [(⟨0, 0, W, H⟩ : Rect)]) true), .cells b2 [iq 0, iq 0, iq 0, iq 0, .slice none 0 0, .slice none 0 0, iq 0, iq 0, iq 0] 81 true, .cells b1 [iq 0, iq 0, iq W, iq H, .slice Ab kb cb, .slice Af kf cf, iq wb, iq wf, iq fr] 81 true, .gen (rdE (Ab) gb 0 kb 4 (rvals xb)), .gen (rdE (Af) gf 0 kf 4 (rvals xf)), .gen (rdE (Az) gz oz nz 4 (rvals xsz))] (by kernel_rfl) rfl ?_
 refine cont_fact (F := (0 < k97 → (A95 : Option Addr) = pB g96) ∧ (keepL hullD (regM orB xb OWN) 64).length = k97 ∧ k97 ≤ cp98 ∧ cp98 ≤ maxLen) (fun w hT => Row.factsR (hT.ok 0 _ rfl)) (fun hr100_ => ?_)
 obtain ⟨hr100_a, hr100_l, hr100_c, hr100_m⟩ := hr100_
 unfold maxLen at hr100_m
 refine batch0 [0, 6] 7 0 [(2, .pointer (pB b1)), (4, .pointer (pB b2)), (5, .slice A66 k68 cp69)] [.gen (rowE (A95) g96 k97 cp98 28 4 (rvals (keepL hullD (regM orB xb OWN) 64)) true), .gen (rowE (A73) g74 k75 cp76 28 4 (rvals (regM orB xb OWN)) true), .gen (rowE (A66) g67 k68 cp69 28 4 (rvals OWN) true), .gen (rowE (A60) g61 k62 cp63 28 4 (rvals (canR xsz)) true), .gen (rowE (pB b59) b59 1 1 28 4 (rvals [(⟨0, 0, W, H⟩ : Rect)]) true), .cells b2 [iq 0, iq 0, iq 0, iq 0, .slice none 0 0, .slice none 0 0, iq 0, iq 0, iq 0] 81 true, .cells b1 [iq 0, iq 0, iq W, iq H, .slice A95 k97 cp98, .slice Af kf cf, iq wb, iq wf, iq fr] 81 true, .gen (rdE (Ab) gb 0 kb 4 (rvals xb)), .gen (rdE (Af) gf 0 kf 4 (rvals xf)), .gen (rdE (Az) gz oz nz 4 (rvals xsz))] rfl rfl (by kernel_rfl) (by kernel_rfl) ?_
 refine cont_done ?_
 refine then_normal ?_
 refine cont_seq ?_
 refine cont_region 7 rfl ?_
 refine bS [0, 6, 0] 3 4 [(2, .pointer (pB b1)), (4, .pointer (pB b2)), (19, .slice Af kf cf), (20, .slice A66 k68 cp69)] ?_
 refine pl_step 4 3 rfl rfl ?_
 refine call_gen (d := 21) (α := Option Addr × Nat × Nat × Nat) (fun x_ => .slice x_.1 x_.2.2.1 x_.2.2.2) (fun x_ => [.gen (rowE (x_.1) x_.2.1 x_.2.2.1 x_.2.2.2 28 4 (rvals (regM orB xf OWN)) true), .gen (rowE (A95) g96 k97 cp98 28 4 (rvals (keepL hullD (regM orB xb OWN) 64)) true), .gen (rowE (A73) g74 k75 cp76 28 4 (rvals (regM orB xb OWN)) true), .gen (rowE (A66) g67 k68 cp69 28 4 (rvals OWN) true), .gen (rowE (A60) g61 k62 cp63 28 4 (rvals (canR xsz)) true), .gen (rowE (pB b59) b59 1 1 28 4 (rvals [(⟨0, 0, W, H⟩ : Rect)]) true), .cells b2 [iq 0, iq 0, iq 0, iq 0, .slice none 0 0, .slice none 0 0, iq 0, iq 0, iq 0] 81 true, .cells b1 [iq 0, iq 0, iq W, iq H, .slice A95 k97 cp98, .slice Af kf cf, iq wb, iq wf, iq fr] 81 true, .gen (rdE (Ab) gb 0 kb 4 (rvals xb)), .gen (rdE (Af) gf 0 kf 4 (rvals xf)), .gen (rdE (Az) gz oz nz 4 (rvals xsz))]) (fun x_ => True) (by kernel_rfl) (fun w hT => (refUnion Af gf 0 kf cf xf A66 g67 0 k68 cp69 OWN w (hT.viewRo (.cons (i := 8) rfl Vw.rd (.cons (i := 2) rfl Vw.rowRd .nil)) rfl) (by omega)).mono fun e w' ⟨A101, g102, k103, cp104, he_, ht_⟩ => ⟨(A101, g102, k103, cp104), he_, trivial, hT.news ht_ rfl⟩) ?_
 rintro ⟨A101, g102, k103, cp104⟩ hf105_
 refine cont_norm [(2, .pointer (pB b1)), (4, .pointer (pB b2)), (19, .slice Af kf cf), (20, .slice A66 k68 cp69), (21, .slice A101 k103 cp104)] [.gen (rowE (A101) g102 k103 cp104 28 4 (rvals (regM orB xf OWN)) true), .gen (rowE (A95) g96 k97 cp98 28 4 (rvals (keepL hullD (regM orB xb OWN) 64)) true), .gen (rowE (A73) g74 k75 cp76 28 4 (rvals (regM orB xb OWN)) true), .gen (rowE (A66) g67 k68 cp69 28 4 (rvals OWN) true), .gen (rowE (A60) g61 k62 cp63 28 4 (rvals (canR xsz)) true), .gen (rowE (pB b59) b59 1 1 28 4 (rvals [(⟨0, 0, W, H⟩ : Rect)]) true), .cells b2 [iq 0, iq 0, iq 0, iq 0, .slice none 0 0, .slice none 0 0, iq 0, iq 0, iq 0] 81 true, .cells b1 [iq 0, iq 0, iq W, iq H, .slice A95 k97 cp98, .slice Af kf cf, iq wb, iq wf, iq fr] 81 true, .gen (rdE (Ab) gb 0 kb 4 (rvals xb)), .gen (rdE (Af) gf 0 kf 4 (rvals xf)), .gen (rdE (Az) gz oz nz 4 (rvals xsz))] (by kernel_rfl) rfl ?_
 refine cont_fact (F := (0 < k103 → (A101 : Option Addr) = pB g102) ∧ (regM orB xf OWN).length = k103 ∧ k103 ≤ cp104 ∧ cp104 ≤ maxLen) (fun w hT => Row.factsR (hT.ok 0 _ rfl)) (fun hr106_ => ?_)
 obtain ⟨hr106_a, hr106_l, hr106_c, hr106_m⟩ := hr106_
 unfold maxLen at hr106_m
 refine pl_step 5 2 rfl rfl ?_
 have hkl107_ := keepL_length hullD (regM orB xf OWN) 64
 by_cases hkc108_ : (k103 : Int) ≤ 64
 ·
  refine call_pure (d := 22) (.slice A101 k103 cp104) (by kernel_rfl) (fun w hT => refKeepYes A101 g102 0 k103 cp104 (regM orB xf OWN) 64 w (hT.viewRo (.cons (i := 0) rfl Vw.rowRd .nil) rfl) (by omega) hkc108_) ?_
  refine cont_rowEqR 0 (regM orB xf OWN) (keepL hullD (regM orB xf OWN) 64) rfl ((keepL_all (by omega)).symm) ?_
  refine cont_norm [(2, .pointer (pB b1)), (4, .pointer (pB b2)), (19, .slice Af kf cf), (20, .slice A66 k68 cp69), (21, .slice A101 k103 cp104), (22, .slice A101 k103 cp104)] [.gen (rowE (A101) g102 k103 cp104 28 4 (rvals (keepL hullD (regM orB xf OWN) 64)) true), .gen (rowE (A95) g96 k97 cp98 28 4 (rvals (keepL hullD (regM orB xb OWN) 64)) true), .gen (rowE (A73) g74 k75 cp76 28 4 (rvals (regM orB xb OWN)) true), .gen (rowE (A66) g67 k68 cp69 28 4 (rvals OWN) true), .gen (rowE (A60) g61 k62 cp63 28 4 (rvals (canR xsz)) true), .gen (rowE (pB b59) b59 1 1 28 4 (rvals [(⟨0, 0, W, H⟩ : Rect)]) true), .cells b2 [iq 0, iq 0, iq 0, iq 0, .slice none 0 0, .slice none 0 0, iq 0, iq 0, iq 0] 81 true, .cells b1 [iq 0, iq 0, iq W, iq H, .slice A95 k97 cp98, .slice Af kf cf, iq wb, iq wf, iq fr] 81 true, .gen (rdE (Ab) gb 0 kb 4 (rvals xb)), .gen (rdE (Af) gf 0 kf 4 (rvals xf)), .gen (rdE (Az) gz oz nz 4 (rvals xsz))] (by kernel_rfl) rfl ?_
  refine batch0 [0, 7] 7 0 [(2, .pointer (pB b1)), (4, .pointer (pB b2))] [.gen (rowE (A101) g102 k103 cp104 28 4 (rvals (keepL hullD (regM orB xf OWN) 64)) true), .gen (rowE (A95) g96 k97 cp98 28 4 (rvals (keepL hullD (regM orB xb OWN) 64)) true), .gen (rowE (A73) g74 k75 cp76 28 4 (rvals (regM orB xb OWN)) true), .gen (rowE (A66) g67 k68 cp69 28 4 (rvals OWN) true), .gen (rowE (A60) g61 k62 cp63 28 4 (rvals (canR xsz)) true), .gen (rowE (pB b59) b59 1 1 28 4 (rvals [(⟨0, 0, W, H⟩ : Rect)]) true), .cells b2 [iq 0, iq 0, iq 0, iq 0, .slice none 0 0, .slice none 0 0, iq 0, iq 0, iq 0] 81 true, .cells b1 [iq 0, iq 0, iq W, iq H, .slice A95 k97 cp98, .slice A101 k103 cp104, iq wb, iq wf, iq fr] 81 true, .gen (rdE (Ab) gb 0 kb 4 (rvals xb)), .gen (rdE (Af) gf 0 kf 4 (rvals xf)), .gen (rdE (Az) gz oz nz 4 (rvals xsz))] rfl rfl (by kernel_rfl) (by kernel_rfl) ?_
  refine cont_done ?_
  refine then_normal ?_
  refine cont_seq ?_
  refine cont_region 2 rfl ?_
  refine batch0 [7, 6] 2 0 [(4, .pointer (pB b2))] [.gen (rowE (A101) g102 k103 cp104 28 4 (rvals (keepL hullD (regM orB xf OWN) 64)) true), .gen (rowE (A95) g96 k97 cp98 28 4 (rvals (keepL hullD (regM orB xb OWN) 64)) true), .gen (rowE (A73) g74 k75 cp76 28 4 (rvals (regM orB xb OWN)) true), .gen (rowE (A66) g67 k68 cp69 28 4 (rvals OWN) true), .gen (rowE (A60) g61 k62 cp63 28 4 (rvals (canR xsz)) true), .gen (rowE (pB b59) b59 1 1 28 4 (rvals [(⟨0, 0, W, H⟩ : Rect)]) true), .cells b2 [iq 0, iq 0, iq W, iq H, .slice A95 k97 cp98, .slice A101 k103 cp104, iq wb, iq wf, iq fr] 81 true, .cells b1 [iq 0, iq 0, iq W, iq H, .slice A95 k97 cp98, .slice A101 k103 cp104, iq wb, iq wf, iq fr] 81 true, .gen (rdE (Ab) gb 0 kb 4 (rvals xb)), .gen (rdE (Af) gf 0 kf 4 (rvals xf)), .gen (rdE (Az) gz oz nz 4 (rvals xsz))] rfl rfl (by kernel_rfl) (by kernel_rfl) ?_
  refine cont_forget 7 rfl ?_
  refine cont_done ?_
  refine then_normal ?_
  refine cont_ret ?_
  refine ret_one (.inl rfl) rfl 6 (.agg #[iq 0, iq 0, iq W, iq H, .slice A95 k97 cp98, .slice A101 k103 cp104, iq wb, iq wf, iq fr]) (by kernel_rfl) (by kernel_rfl) (fun w hT => ?_)
  rw [hOWN] at hT
  exact ⟨_, _, _, _, _, _, _, _, rfl, hT.pick [1, 0] (by decide) rfl rfl⟩
 refine call_gen (d := 22) (α := Option Addr × Nat × Nat × Nat) (fun x_ => .slice x_.1 x_.2.2.1 x_.2.2.2) (fun x_ => [.gen (rowE (x_.1) x_.2.1 x_.2.2.1 x_.2.2.2 28 4 (rvals (keepL hullD (regM orB xf OWN) 64)) true), .gen (rowE (A101) g102 k103 cp104 28 4 (rvals (regM orB xf OWN)) true), .gen (rowE (A95) g96 k97 cp98 28 4 (rvals (keepL hullD (regM orB xb OWN) 64)) true), .gen (rowE (A73) g74 k75 cp76 28 4 (rvals (regM orB xb OWN)) true), .gen (rowE (A66) g67 k68 cp69 28 4 (rvals OWN) true), .gen (rowE (A60) g61 k62 cp63 28 4 (rvals (canR xsz)) true), .gen (rowE (pB b59) b59 1 1 28 4 (rvals [(⟨0, 0, W, H⟩ : Rect)]) true), .cells b2 [iq 0, iq 0, iq 0, iq 0, .slice none 0 0, .slice none 0 0, iq 0, iq 0, iq 0] 81 true, .cells b1 [iq 0, iq 0, iq W, iq H, .slice A95 k97 cp98, .slice Af kf cf, iq wb, iq wf, iq fr] 81 true, .gen (rdE (Ab) gb 0 kb 4 (rvals xb)), .gen (rdE (Af) gf 0 kf 4 (rvals xf)), .gen (rdE (Az) gz oz nz 4 (rvals xsz))]) (fun x_ => True) (by kernel_rfl) (fun w hT => (refKeepNo A101 g102 0 k103 cp104 (regM orB xf OWN) 64 w (hT.viewRo (.cons (i := 0) rfl Vw.rowRd .nil) rfl) (by omega) hkc108_).mono fun e w' ⟨A109, g110, k111, cp112, he_, ht_⟩ => ⟨(A109, g110, k111, cp112), he_, trivial, hT.news ht_ rfl⟩) ?_
 rintro ⟨A109, g110, k111, cp112⟩ hf113_
 refine cont_norm [(2, .pointer (pB b1)), (4, .pointer (pB b2)), (19, .slice Af kf cf), (20, .slice A66 k68 cp69), (21, .slice A101 k103 cp104), (22, .slice A109 k111 cp112)] [.gen (rowE (A109) g110 k111 cp112 28 4 (rvals (keepL hullD (regM orB xf OWN) 64)) true), .gen (rowE (A101) g102 k103 cp104 28 4 (rvals (regM orB xf OWN)) true), .gen (rowE (A95) g96 k97 cp98 28 4 (rvals (keepL hullD (regM orB xb OWN) 64)) true), .gen (rowE (A73) g74 k75 cp76 28 4 (rvals (regM orB xb OWN)) true), .gen (rowE (A66) g67 k68 cp69 28 4 (rvals OWN) true), .gen (rowE (A60) g61 k62 cp63 28 4 (rvals (canR xsz)) true), .gen (rowE (pB b59) b59 1 1 28 4 (rvals [(⟨0, 0, W, H⟩ : Rect)]) true), .cells b2 [iq 0, iq 0, iq 0, iq 0, .slice none 0 0, .slice none 0 0, iq 0, iq 0, iq 0] 81 true, .cells b1 [iq 0, iq 0, iq W, iq H, .slice A95 k97 cp98, .slice Af kf cf, iq wb, iq wf, iq fr] 81 true, .gen (rdE (Ab) gb 0 kb 4 (rvals xb)), .gen (rdE (Af) gf 0 kf 4 (rvals xf)), .gen (rdE (Az) gz oz nz 4 (rvals xsz))] (by kernel_rfl) rfl ?_
 refine cont_fact (F := (0 < k111 → (A109 : Option Addr) = pB g110) ∧ (keepL hullD (regM orB xf OWN) 64).length = k111 ∧ k111 ≤ cp112 ∧ cp112 ≤ maxLen) (fun w hT => Row.factsR (hT.ok 0 _ rfl)) (fun hr114_ => ?_)
 obtain ⟨hr114_a, hr114_l, hr114_c, hr114_m⟩ := hr114_
 unfold maxLen at hr114_m
 refine batch0 [0, 8] 7 0 [(2, .pointer (pB b1)), (4, .pointer (pB b2))] [.gen (rowE (A109) g110 k111 cp112 28 4 (rvals (keepL hullD (regM orB xf OWN) 64)) true), .gen (rowE (A101) g102 k103 cp104 28 4 (rvals (regM orB xf OWN)) true), .gen (rowE (A95) g96 k97 cp98 28 4 (rvals (keepL hullD (regM orB xb OWN) 64)) true), .gen (rowE (A73) g74 k75 cp76 28 4 (rvals (regM orB xb OWN)) true), .gen (rowE (A66) g67 k68 cp69 28 4 (rvals OWN) true), .gen (rowE (A60) g61 k62 cp63 28 4 (rvals (canR xsz)) true), .gen (rowE (pB b59) b59 1 1 28 4 (rvals [(⟨0, 0, W, H⟩ : Rect)]) true), .cells b2 [iq 0, iq 0, iq 0, iq 0, .slice none 0 0, .slice none 0 0, iq 0, iq 0, iq 0] 81 true, .cells b1 [iq 0, iq 0, iq W, iq H, .slice A95 k97 cp98, .slice A109 k111 cp112, iq wb, iq wf, iq fr] 81 true, .gen (rdE (Ab) gb 0 kb 4 (rvals xb)), .gen (rdE (Af) gf 0 kf 4 (rvals xf)), .gen (rdE (Az) gz oz nz 4 (rvals xsz))] rfl rfl (by kernel_rfl) (by kernel_rfl) ?_
 refine cont_done ?_
 refine then_normal ?_
 refine cont_seq ?_
 refine cont_region 2 rfl ?_
 refine batch0 [8, 7] 2 0 [(4, .pointer (pB b2))] [.gen (rowE (A109) g110 k111 cp112 28 4 (rvals (keepL hullD (regM orB xf OWN) 64)) true), .gen (rowE (A101) g102 k103 cp104 28 4 (rvals (regM orB xf OWN)) true), .gen (rowE (A95) g96 k97 cp98 28 4 (rvals (keepL hullD (regM orB xb OWN) 64)) true), .gen (rowE (A73) g74 k75 cp76 28 4 (rvals (regM orB xb OWN)) true), .gen (rowE (A66) g67 k68 cp69 28 4 (rvals OWN) true), .gen (rowE (A60) g61 k62 cp63 28 4 (rvals (canR xsz)) true), .gen (rowE (pB b59) b59 1 1 28 4 (rvals [(⟨0, 0, W, H⟩ : Rect)]) true), .cells b2 [iq 0, iq 0, iq W, iq H, .slice A95 k97 cp98, .slice A109 k111 cp112, iq wb, iq wf, iq fr] 81 true, .cells b1 [iq 0, iq 0, iq W, iq H, .slice A95 k97 cp98, .slice A109 k111 cp112, iq wb, iq wf, iq fr] 81 true, .gen (rdE (Ab) gb 0 kb 4 (rvals xb)), .gen (rdE (Af) gf 0 kf 4 (rvals xf)), .gen (rdE (Az) gz oz nz 4 (rvals xsz))] rfl rfl (by kernel_rfl) (by kernel_rfl) ?_
 refine cont_forget 8 rfl ?_
 refine cont_done ?_
 refine then_normal ?_
 refine cont_ret ?_
 refine ret_one (.inl rfl) rfl 7 (.agg #[iq 0, iq 0, iq W, iq H, .slice A95 k97 cp98, .slice A109 k111 cp112, iq wb, iq wf, iq fr]) (by kernel_rfl) (by kernel_rfl) (fun w hT => ?_)
 rw [hOWN] at hT
 exact ⟨_, _, _, _, _, _, _, _, rfl, hT.pick [2, 0] (by decide) rfl rfl⟩

end Go.Proofs.Ytgmonhehilcegaa

