/- Contracts of functions of the given program, printed by a program of this project. -/
import Derived.Test.YtlfahohbkgdabaaPcL1
import Derived.Test.YtlfahohbkgdabaaProg
set_option linter.unusedVariables false
set_option linter.unusedSimpArgs false
namespace Go.Proofs.Ytlfahohbkgdabaa
open Go Go.RowKit
set_option maxRecDepth 100000
set_option maxHeartbeats 8000000

theorem imgBox (m : Nat) (W H : Int) (r n cap : Nat) (px : List Int) (w : World) (hI : ImgR 118 w m W H r n cap px) (hok : ImgOk W H n px) :
    Calls Try.prog 45 #[.pointer (some ⟨m, 0, none⟩)] w fun e w' => e = .returned (.agg #[.int .i64 0, .int .i64 0, .int .i64 W, .int .i64 H]) ∧ Below w.heap.size w w' := by
 refine enter 12 [(0, .pointer (pB m))] [.ro m [iq W, iq H, .slice (pB r) n cap] 118, .gen (rdE (pB r) r 0 n 1 (ivals .u32 px))] Try.func45 rfl Try.ntmps45 rfl (by kernel_rfl) hI.tab ?_
 refine cont_seq ?_
 refine cont_region 1 rfl ?_
 refine batch1 [0] 1 0 (fun b1 => [(0, .pointer (pB m)), (2, .pointer (pB b1))]) (fun b1 => [.cells b1 [iq 0, iq 0, iq 0, iq 0] 53 true, .ro m [iq W, iq H, .slice (pB r) n cap] 118, .gen (rdE (pB r) r 0 n 1 (ivals .u32 px))]) rfl rfl [0, 2] (fun _ => rfl) (fun b1 => by kernel_rfl) (fun b1 => by kernel_rfl) (fun b1 => ?_)
 refine cont_done ?_
 refine then_normal ?_
 refine cont_seq ?_
 refine drawn_enter 10 [0] rfl (by kernel_rfl) ?_
 refine takes 0 [0] [(0, 0), (4, 0), (1, 0), (5, 0), (2, 0), (6, 0), (3, 1), (7, 1), (8, 0)] 1 [8, 7, 3, 6, 2, 5, 1, 4, 0] [(2, .pointer (pB b1)), (11, .agg #[iq 0, iq 0, iq W, iq H])] (by kernel_rfl) (pok_then pok_body) (by kernel_rfl) rfl rfl (by kernel_rfl) (by kernel_rfl) ?_
 refine drawn_one 9 0 rfl (by kernel_rfl) ?_
 refine one_step 0 [(2, .pointer (pB b1))] [.cells b1 [iq 0, iq 0, iq W, iq H] 53 true, .ro m [iq W, iq H, .slice (pB r) n cap] 118, .gen (rdE (pB r) r 0 n 1 (ivals .u32 px))] (by kernel_rfl) (by kernel_rfl) ?_
 refine drawn_next 0 [0] (by kernel_rfl) ?_
 refine drawn_done (by kernel_rfl) ?_
 refine then_normal ?_
 refine cont_ret ?_
 refine ret_one (.inl rfl) rfl 0 (.agg #[iq 0, iq 0, iq W, iq H]) (by kernel_rfl) (by kernel_rfl) (fun w hT => ?_)
 exact ⟨rfl, hT.post rfl⟩

theorem imgAt (m : Nat) (W H : Int) (r n cap : Nat) (px : List Int) (x y : Int) (w : World) (hI : ImgR 118 w m W H r n cap px) (hok : ImgOk W H n px) :
    Calls Try.prog 27 #[.pointer (some ⟨m, 0, none⟩), .int .i64 x, .int .i64 y] w fun e w' => e = .returned (.tuple #[.int .u32 (atC W H px x y), .bool (hasB 0 0 W H x y)]) ∧ Below w.heap.size w w' := by
 have hw1 := hok.w1
 have hw2 := hok.w2
 have hh1 := hok.h1
 have hh2 := hok.h2
 have hnum := hok.num
 have hlen := hok.len
 have hle := hok.le
 have hcap := hI.cap
 refine enter 28 [(0, .pointer (pB m)), (1, iq x), (2, iq y)] [.ro m [iq W, iq H, .slice (pB r) n cap] 118, .gen (rdE (pB r) r 0 n 1 (ivals .u32 px))] Try.func27 rfl Try.ntmps27 rfl (by kernel_rfl) hI.tab ?_
 refine cont_seq ?_
 refine cont_region 2 rfl ?_
 refine bS [0, 0] 2 0 [(0, .pointer (pB m)), (1, iq x), (2, iq y)] ?_
 refine cont_done ?_
 refine then_normal ?_
 refine cont_seq ?_
 refine cont_seq ?_
 refine cont_region 6 rfl ?_
 refine bS [0] 1 5 [(0, .pointer (pB m)), (1, iq x), (2, iq y), (8, .pointer (pB m))] ?_
 refine pl_step 2 4 rfl rfl ?_
 refine call_pure (d := 9) (.agg #[iq 0, iq 0, iq W, iq H]) (by kernel_rfl) (fun w hT => imgBox m W H r n cap px  w ⟨hT.ok 0 _ rfl, hT.ok 1 _ rfl, by omega⟩ hok) ?_
 refine bS [0, 0] 4 2 [(0, .pointer (pB m)), (1, iq x), (2, iq y), (9, .agg #[iq 0, iq 0, iq W, iq H]), (10, iq x), (11, iq y)] ?_
 refine pl_step 5 1 rfl rfl ?_
 refine call_pure (d := 12) (.bool (hasB 0 0 W H x y)) (by kernel_rfl) (fun w hT => rectHas 0 0 W H x y w) ?_
 refine bS [0] 6 0 [(0, .pointer (pB m)), (1, iq x), (2, iq y), (13, .bool (!(hasB 0 0 W H x y)))] ?_
 refine cont_done ?_
 refine then_normal ?_
 refine cont_split 13 (!(hasB 0 0 W H x y)) rfl (fun c1_ => ?_) (fun c1_ => ?_)
 ·
  replace c1_ : (hasB 0 0 W H x y) = false := by simpa using c1_
  refine cont_true rfl ?_
  refine cont_seq ?_
  refine cont_region 2 rfl ?_
  refine bS [0, 0] 2 0 [(6, .int .u32 0), (7, .bool false)] ?_
  refine cont_done ?_
  refine then_normal ?_
  refine cont_ret ?_
  refine then_ret ?_
  refine ret_two (.inl rfl) rfl 0 0 (.int .u32 0) (.bool false) (by kernel_rfl) (by kernel_rfl) (by kernel_rfl) (by kernel_rfl) (fun w hT => ?_)
  exact ⟨by simp [atC, *], hT.post rfl⟩
 replace c1_ : (hasB 0 0 W H x y) = true := by simpa using c1_
 obtain ⟨hx0, hx1, hy0, hy1⟩ := hasB_true.1 c1_
 have hpl := hok.place hx0 hx1 hy0 hy1
 refine cont_false rfl ?_
 refine cont_skip ?_
 refine then_normal ?_
 refine cont_seq ?_
 refine drawn_enter 16 [] rfl (by kernel_rfl) ?_
 refine takes 0 [] [(0, 0), (4, 0), (5, 0), (10, 0), (1, 0), (6, 0), (2, 0), (7, 0), (3, 0), (8, 0), (9, 0)] 5 [9, 8, 3, 7, 2, 6, 1, 10, 5, 4, 0] [(17, .slice (pB r) n cap), (23, iq (IntKind.i64.wrap (y * W))), (24, iq x)] (by kernel_rfl) (pok_then pok_body) (by kernel_rfl) rfl rfl (by kernel_rfl) (by kernel_rfl) ?_
 refine cont_recast 23 (iq (IntKind.i64.wrap (y * W))) (iq (y * W)) rfl (wrapI (by omega) (by omega)) ?_
 refine takes 0 [] [(11, 0)] 4 [11, 9, 8, 3, 7, 2, 6, 1, 10, 5, 4, 0] [(17, .slice (pB r) n cap), (25, iq (IntKind.i64.wrap ((y * W) + x)))] (by kernel_rfl) (pok_then pok_body) (by kernel_rfl) rfl rfl (by kernel_rfl) (by kernel_rfl) ?_
 refine cont_recast 25 (iq (IntKind.i64.wrap ((y * W) + x))) (iq ((y * W) + x)) rfl (wrapI (by omega) (by omega)) ?_
 refine sem_take 0 [] 12 3 26 (Instr.indexAt 39 (.slice (pB r) n cap) (iq ((y * W) + x))) (.pointer (some ⟨r, Int.toNat ((y * W) + x), none⟩)) (by kernel_rfl) (pok_then pok_body) (by kernel_rfl) rfl (by kernel_rfl) (by kernel_rfl) (fun w hT => run_indexAt (e := 24) (sz := 1) _ (by kernel_rfl) (by kernel_rfl) (by omega) (by omega) (by omega) w) ?_
 refine sem_take 0 [] 13 2 27 (Instr.loadAt 24 (.pointer (some ⟨r, Int.toNat ((y * W) + x), none⟩))) (.int .u32 (px.getD (Int.toNat ((y * W) + x)) 0)) (by kernel_rfl) (pok_then pok_body) (by kernel_rfl) rfl (by kernel_rfl) (by kernel_rfl) (fun w hT => run_load1 (by kernel_rfl) (Rd.cell0 (hT 1 _ rfl) (Int.toNat ((y * W) + x)) _ (ivals_get (by omega)))) ?_
 refine takes 0 [] [(14, 0), (15, 0)] 0 [15, 14, 13, 12, 11, 9, 8, 3, 7, 2, 6, 1, 10, 5, 4, 0] [(6, .int .u32 (px.getD (Int.toNat ((y * W) + x)) 0)), (7, .bool true)] (by kernel_rfl) (pok_then pok_body) (by kernel_rfl) rfl rfl (by kernel_rfl) (by kernel_rfl) ?_
 refine drawn_done (by kernel_rfl) ?_
 refine then_normal ?_
 refine cont_ret ?_
 refine ret_two (.inl rfl) rfl 0 0 (.int .u32 (px.getD (Int.toNat ((y * W) + x)) 0)) (.bool true) (by kernel_rfl) (by kernel_rfl) (by kernel_rfl) (by kernel_rfl) (fun w hT => ?_)
 exact ⟨by simp [atC, *], hT.post rfl⟩

theorem imgNew (W H : Int) (w : World) (hgood : 1 ≤ W ∧ W ≤ 256 ∧ 1 ≤ H ∧ H ≤ 256) :
    Calls Try.prog 55 #[.int .i64 W, .int .i64 H] w fun e w' => ∃ (b r n : Nat), e = .returned (.tuple #[.pointer (some ⟨b, 0, none⟩), .int .i64 0]) ∧ (n : Int) = W * H ∧ NewImg 118 24 w w' b W H r n n (List.replicate n 0) := by
 have hm : W * H ≤ 256 * 256 := mul_le_of (by omega) (by omega) (by omega) (by omega)
 have hm0 : 0 ≤ W * H := Int.mul_nonneg (by omega) (by omega)
 obtain ⟨n, hn⟩ : ∃ n : Nat, (n : Int) = W * H := ⟨(W * H).toNat, by omega⟩
 refine enter 24 [(0, iq W), (1, iq H)] [] Try.func55 rfl Try.ntmps55 rfl (by kernel_rfl) (Tab.start w) ?_
 refine cont_seq ?_
 refine cont_region 2 rfl ?_
 refine bS [0, 0] 2 0 [(0, iq W), (1, iq H)] ?_
 refine cont_done ?_
 refine then_normal ?_
 refine cont_seq ?_
 refine cont_seq ?_
 refine cont_region 10 rfl ?_
 refine bS [0, 0, 0, 0, 0] 5 5 [(0, iq W), (1, iq H), (10, .bool (decide ((mn W H) < 1)))] ?_
 refine cont_split 10 (decide ((mn W H) < 1)) rfl (fun c1_ => ?_) (fun c1_ => ?_)
 ·
  replace c1_ := of_decide_eq_true c1_
  exfalso; unfold mn at *; omega
 replace c1_ := of_decide_eq_false c1_
 refine bS [0, 0, 0, 0, 0] 10 0 [(0, iq W), (1, iq H), (15, .bool (decide ((mx W H) > 256)))] ?_
 refine cont_done ?_
 refine then_normal ?_
 refine cont_split 15 (decide ((mx W H) > 256)) rfl (fun c2_ => ?_) (fun c2_ => ?_)
 ·
  replace c2_ := of_decide_eq_true c2_
  exfalso; unfold mx at *; omega
 replace c2_ := of_decide_eq_false c2_
 refine cont_false rfl ?_
 refine cont_skip ?_
 refine then_normal ?_
 refine cont_seq ?_
 refine cont_region 10 rfl ?_
 refine bS [0, 0, 0, 0, 0] 5 5 [(16, iq W), (17, iq H), (20, iq (IntKind.i64.wrap (W * H)))] ?_
 refine cont_recast 20 (iq (IntKind.i64.wrap (W * H))) (iq (n : Int)) rfl (by rw [hn]; exact wrapI (by omega) (by omega)) ?_
 refine pl_step 6 4 rfl rfl ?_
 refine sem_stepW 21 (Instr.makeSlice 39 (iq (n : Int)) (iq (n : Int))) (fun r3 => .slice (pB r3) n n) (fun r3 => [.gen (rowE (pB r3) r3 n n 24 1 (ivals .u32 (List.replicate n 0)) true)]) (fun _ => True) (by kernel_rfl) (fun w hT => make_row hT (bytes := 4) n (by kernel_rfl) (by kernel_rfl) (by omega) (by omega)) (fun r3 _ => ?_)
 refine batch1 [0, 0, 0, 0] 10 0 (fun b4 => [(4, .pointer (pB b4)), (5, iq 0)]) (fun b4 => [.cells b4 [iq W, iq H, .slice (pB r3) n n] 118 true, .gen (rowE (pB r3) r3 n n 24 1 (ivals .u32 (List.replicate n 0)) true)]) rfl rfl [4, 5] (fun _ => rfl) (fun b4 => by kernel_rfl) (fun b4 => by kernel_rfl) (fun b4 => ?_)
 refine cont_done ?_
 refine then_normal ?_
 refine cont_ret ?_
 refine ret_two (.inl rfl) rfl 0 0 (.pointer (pB b4)) (iq 0) (by kernel_rfl) (by kernel_rfl) (by kernel_rfl) (by kernel_rfl) (fun w hT => ?_)
 exact ⟨_, _, n, rfl, hn, newImg_of_tab hT⟩

end Go.Proofs.Ytlfahohbkgdabaa

