/- Contracts of functions of the given program, printed by a program of this project. -/
import Derived.Test.YtommojgfkkoghaaL1
import Derived.Test.YtommojgfkkoghaaProg
set_option linter.unusedVariables false
set_option linter.unusedSimpArgs false
namespace Go.Proofs.Ytommojgfkkoghaa
open Go Go.RowKit
set_option maxRecDepth 100000
set_option maxHeartbeats 8000000

theorem imgBox (m : Nat) (W H : Int) (r n cap : Nat) (px : List Int) (w : World) (hI : ImgR 84 w m W H r n cap px) (hok : ImgOk W H n px) :
    Calls Try.prog 15 #[.pointer (some ⟨m, 0, none⟩)] w fun e w' => e = .returned (.agg #[.int .i64 0, .int .i64 0, .int .i64 W, .int .i64 H]) ∧ Below w.heap.size w w' := by
 refine enter 12 [(0, .pointer (pB m))] [.ro m [iq W, iq H, .slice (pB r) n cap] 84, .gen (rdE (pB r) r 0 n 1 (ivals .u32 px))] Try.func15 rfl Try.ntmps15 rfl (by kernel_rfl) hI.tab ?_
 refine cont_seq ?_
 refine cont_region 1 rfl ?_
 refine batch1 [0] 1 0 (fun b1 => [(0, .pointer (pB m)), (2, .pointer (pB b1))]) (fun b1 => [.cells b1 [iq 0, iq 0, iq 0, iq 0] 32 true, .ro m [iq W, iq H, .slice (pB r) n cap] 84, .gen (rdE (pB r) r 0 n 1 (ivals .u32 px))]) rfl rfl [0, 2] (fun _ => rfl) (fun b1 => by kernel_rfl) (fun b1 => by kernel_rfl) (fun b1 => ?_)
 refine cont_done ?_
 refine then_normal ?_
 refine cont_seq ?_
 refine drawn_enter 10 [0] rfl (by kernel_rfl) ?_
 refine takes 0 [0] [(0, 0), (4, 0), (1, 0), (5, 0), (2, 0), (6, 0), (3, 1), (7, 1), (8, 0)] 1 [8, 7, 3, 6, 2, 5, 1, 4, 0] [(2, .pointer (pB b1)), (11, .agg #[iq 0, iq 0, iq W, iq H])] (by kernel_rfl) (pok_then pok_body) (by kernel_rfl) rfl rfl (by kernel_rfl) (by kernel_rfl) ?_
 refine drawn_one 9 0 rfl (by kernel_rfl) ?_
 refine one_step 0 [(2, .pointer (pB b1))] [.cells b1 [iq 0, iq 0, iq W, iq H] 32 true, .ro m [iq W, iq H, .slice (pB r) n cap] 84, .gen (rdE (pB r) r 0 n 1 (ivals .u32 px))] (by kernel_rfl) (by kernel_rfl) ?_
 refine drawn_next 0 [0] (by kernel_rfl) ?_
 refine drawn_done (by kernel_rfl) ?_
 refine then_normal ?_
 refine cont_ret ?_
 refine ret_one (.inl rfl) rfl 0 (.agg #[iq 0, iq 0, iq W, iq H]) (by kernel_rfl) (by kernel_rfl) (fun w hT => ?_)
 exact ⟨rfl, hT.post rfl⟩

theorem imgAt (m : Nat) (W H : Int) (r n cap : Nat) (px : List Int) (x y : Int) (w : World) (hI : ImgR 84 w m W H r n cap px) (hok : ImgOk W H n px) :
    Calls Try.prog 14 #[.pointer (some ⟨m, 0, none⟩), .int .i64 x, .int .i64 y] w fun e w' => e = .returned (.tuple #[.int .u32 (atC W H px x y), .bool (hasB 0 0 W H x y)]) ∧ Below w.heap.size w w' := by
 have hw1 := hok.w1
 have hw2 := hok.w2
 have hh1 := hok.h1
 have hh2 := hok.h2
 have hnum := hok.num
 have hlen := hok.len
 have hle := hok.le
 have hcap := hI.cap
 refine enter 28 [(0, .pointer (pB m)), (1, iq x), (2, iq y)] [.ro m [iq W, iq H, .slice (pB r) n cap] 84, .gen (rdE (pB r) r 0 n 1 (ivals .u32 px))] Try.func14 rfl Try.ntmps14 rfl (by kernel_rfl) hI.tab ?_
 refine cont_seq ?_
 refine cont_region 2 rfl ?_
 refine bS [0, 0] 2 0 [(0, .pointer (pB m)), (1, iq x), (2, iq y)] ?_
 refine cont_done ?_
 refine then_normal ?_
 refine cont_seq ?_
 refine cont_seq ?_
 refine cont_region 6 rfl ?_
 refine bS [0] 1 5 [(0, .pointer (pB m)), (1, iq x), (2, iq y), (8, .pointer (pB m))] ?_
 refine pl_step 2 4 rfl rfl ?_
 refine call_pure (d := 9) (.agg #[iq 0, iq 0, iq W, iq H]) (by kernel_rfl) (fun w hT => imgBox m W H r n cap px  w ⟨hT.ok 0 _ rfl, hT.ok 1 _ rfl, by omega⟩ hok) ?_
 refine bS [0, 0] 4 2 [(0, .pointer (pB m)), (1, iq x), (2, iq y), (9, .agg #[iq 0, iq 0, iq W, iq H]), (10, iq x), (11, iq y)] ?_
 refine pl_step 5 1 rfl rfl ?_
 refine call_pure (d := 12) (.bool (hasB 0 0 W H x y)) (by kernel_rfl) (fun w hT => rectHas 0 0 W H x y w) ?_
 refine bS [0] 6 0 [(0, .pointer (pB m)), (1, iq x), (2, iq y), (13, .bool (!(hasB 0 0 W H x y)))] ?_
 refine cont_done ?_
 refine then_normal ?_
 refine cont_split 13 (!(hasB 0 0 W H x y)) rfl (fun c1_ => ?_) (fun c1_ => ?_)
 ·
  replace c1_ : (hasB 0 0 W H x y) = false := by simpa using c1_
  refine cont_true rfl ?_
  refine cont_seq ?_
  refine cont_region 2 rfl ?_
  refine bS [0, 0] 2 0 [(6, .int .u32 0), (7, .bool false)] ?_
  refine cont_done ?_
  refine then_normal ?_
  refine cont_ret ?_
  refine then_ret ?_
  refine ret_two (.inl rfl) rfl 0 0 (.int .u32 0) (.bool false) (by kernel_rfl) (by kernel_rfl) (by kernel_rfl) (by kernel_rfl) (fun w hT => ?_)
  exact ⟨by simp [atC, *], hT.post rfl⟩
 replace c1_ : (hasB 0 0 W H x y) = true := by simpa using c1_
 obtain ⟨hx0, hx1, hy0, hy1⟩ := hasB_true.1 c1_
 have hpl := hok.place hx0 hx1 hy0 hy1
 refine cont_false rfl ?_
 refine cont_skip ?_
 refine then_normal ?_
 refine cont_seq ?_
 refine drawn_enter 16 [] rfl (by kernel_rfl) ?_
 refine takes 0 [] [(0, 0), (4, 0), (5, 0), (10, 0), (1, 0), (6, 0), (2, 0), (7, 0), (3, 0), (8, 0), (9, 0)] 5 [9, 8, 3, 7, 2, 6, 1, 10, 5, 4, 0] [(17, .slice (pB r) n cap), (23, iq (IntKind.i64.wrap (y * W))), (24, iq x)] (by kernel_rfl) (pok_then pok_body) (by kernel_rfl) rfl rfl (by kernel_rfl) (by kernel_rfl) ?_
 refine cont_recast 23 (iq (IntKind.i64.wrap (y * W))) (iq (y * W)) rfl (wrapI (by omega) (by omega)) ?_
 refine takes 0 [] [(11, 0)] 4 [11, 9, 8, 3, 7, 2, 6, 1, 10, 5, 4, 0] [(17, .slice (pB r) n cap), (25, iq (IntKind.i64.wrap ((y * W) + x)))] (by kernel_rfl) (pok_then pok_body) (by kernel_rfl) rfl rfl (by kernel_rfl) (by kernel_rfl) ?_
 refine cont_recast 25 (iq (IntKind.i64.wrap ((y * W) + x))) (iq ((y * W) + x)) rfl (wrapI (by omega) (by omega)) ?_
 refine sem_take 0 [] 12 3 26 (Instr.indexAt 35 (.slice (pB r) n cap) (iq ((y * W) + x))) (.pointer (some ⟨r, Int.toNat ((y * W) + x), none⟩)) (by kernel_rfl) (pok_then pok_body) (by kernel_rfl) rfl (by kernel_rfl) (by kernel_rfl) (fun w hT => run_indexAt (e := 28) (sz := 1) _ (by kernel_rfl) (by kernel_rfl) (by omega) (by omega) (by omega) w) ?_
 refine sem_take 0 [] 13 2 27 (Instr.loadAt 28 (.pointer (some ⟨r, Int.toNat ((y * W) + x), none⟩))) (.int .u32 (px.getD (Int.toNat ((y * W) + x)) 0)) (by kernel_rfl) (pok_then pok_body) (by kernel_rfl) rfl (by kernel_rfl) (by kernel_rfl) (fun w hT => run_load1 (by kernel_rfl) (Rd.cell0 (hT 1 _ rfl) (Int.toNat ((y * W) + x)) _ (ivals_get (by omega)))) ?_
 refine takes 0 [] [(14, 0), (15, 0)] 0 [15, 14, 13, 12, 11, 9, 8, 3, 7, 2, 6, 1, 10, 5, 4, 0] [(6, .int .u32 (px.getD (Int.toNat ((y * W) + x)) 0)), (7, .bool true)] (by kernel_rfl) (pok_then pok_body) (by kernel_rfl) rfl rfl (by kernel_rfl) (by kernel_rfl) ?_
 refine drawn_done (by kernel_rfl) ?_
 refine then_normal ?_
 refine cont_ret ?_
 refine ret_two (.inl rfl) rfl 0 0 (.int .u32 (px.getD (Int.toNat ((y * W) + x)) 0)) (.bool true) (by kernel_rfl) (by kernel_rfl) (by kernel_rfl) (by kernel_rfl) (fun w hT => ?_)
 exact ⟨by simp [atC, *], hT.post rfl⟩

theorem imgNewBad (W H : Int) (w : World) (hbad : ¬ (1 ≤ W ∧ W ≤ 256 ∧ 1 ≤ H ∧ H ≤ 256)) :
    Calls Try.prog 12 #[.int .i64 W, .int .i64 H] w fun e w' => e = .returned (.tuple #[.pointer none, .int .i64 1]) ∧ Below w.heap.size w w' := by
 refine enter 24 [(0, iq W), (1, iq H)] [] Try.func12 rfl Try.ntmps12 rfl (by kernel_rfl) (Tab.start w) ?_
 refine cont_seq ?_
 refine cont_region 2 rfl ?_
 refine bS [0, 0] 2 0 [(0, iq W), (1, iq H)] ?_
 refine cont_done ?_
 refine then_normal ?_
 refine cont_seq ?_
 refine cont_seq ?_
 refine cont_region 10 rfl ?_
 refine bS [0, 0, 0, 0, 0] 5 5 [(0, iq W), (1, iq H), (10, .bool (decide ((mn W H) < 1)))] ?_
 refine cont_split 10 (decide ((mn W H) < 1)) rfl (fun c1_ => ?_) (fun c1_ => ?_)
 ·
  replace c1_ := of_decide_eq_true c1_
  refine bS [0, 0, 0, 0, 0] 10 0 [(0, iq W), (1, iq H), (15, .bool true)] ?_
  refine cont_done ?_
  refine then_normal ?_
  refine cont_true rfl ?_
  refine cont_seq ?_
  refine cont_region 2 rfl ?_
  refine bS [0, 0] 2 0 [(4, .pointer none), (5, iq 1)] ?_
  refine cont_done ?_
  refine then_normal ?_
  refine cont_ret ?_
  refine then_ret ?_
  refine ret_two (.inl rfl) rfl 0 0 (.pointer none) (iq 1) (by kernel_rfl) (by kernel_rfl) (by kernel_rfl) (by kernel_rfl) (fun w hT => ?_)
  exact ⟨rfl, hT.post rfl⟩
 replace c1_ := of_decide_eq_false c1_
 refine bS [0, 0, 0, 0, 0] 10 0 [(0, iq W), (1, iq H), (15, .bool (decide ((mx W H) > 256)))] ?_
 refine cont_done ?_
 refine then_normal ?_
 refine cont_split 15 (decide ((mx W H) > 256)) rfl (fun c2_ => ?_) (fun c2_ => ?_)
 ·
  replace c2_ := of_decide_eq_true c2_
  refine cont_true rfl ?_
  refine cont_seq ?_
  refine cont_region 2 rfl ?_
  refine bS [0, 0] 2 0 [(4, .pointer none), (5, iq 1)] ?_
  refine cont_done ?_
  refine then_normal ?_
  refine cont_ret ?_
  refine then_ret ?_
  refine ret_two (.inl rfl) rfl 0 0 (.pointer none) (iq 1) (by kernel_rfl) (by kernel_rfl) (by kernel_rfl) (by kernel_rfl) (fun w hT => ?_)
  exact ⟨rfl, hT.post rfl⟩
 replace c2_ := of_decide_eq_false c2_
 exfalso; unfold mx mn at *; omega

theorem imgNew (W H : Int) (w : World) (hgood : 1 ≤ W ∧ W ≤ 256 ∧ 1 ≤ H ∧ H ≤ 256) :
    Calls Try.prog 12 #[.int .i64 W, .int .i64 H] w fun e w' => ∃ (b r n : Nat), e = .returned (.tuple #[.pointer (some ⟨b, 0, none⟩), .int .i64 0]) ∧ (n : Int) = W * H ∧ NewImg 84 28 w w' b W H r n n (List.replicate n 0) := by
 have hm : W * H ≤ 256 * 256 := mul_le_of (by omega) (by omega) (by omega) (by omega)
 have hm0 : 0 ≤ W * H := Int.mul_nonneg (by omega) (by omega)
 obtain ⟨n, hn⟩ : ∃ n : Nat, (n : Int) = W * H := ⟨(W * H).toNat, by omega⟩
 refine enter 24 [(0, iq W), (1, iq H)] [] Try.func12 rfl Try.ntmps12 rfl (by kernel_rfl) (Tab.start w) ?_
 refine cont_seq ?_
 refine cont_region 2 rfl ?_
 refine bS [0, 0] 2 0 [(0, iq W), (1, iq H)] ?_
 refine cont_done ?_
 refine then_normal ?_
 refine cont_seq ?_
 refine cont_seq ?_
 refine cont_region 10 rfl ?_
 refine bS [0, 0, 0, 0, 0] 5 5 [(0, iq W), (1, iq H), (10, .bool (decide ((mn W H) < 1)))] ?_
 refine cont_split 10 (decide ((mn W H) < 1)) rfl (fun c1_ => ?_) (fun c1_ => ?_)
 ·
  replace c1_ := of_decide_eq_true c1_
  exfalso; unfold mn at *; omega
 replace c1_ := of_decide_eq_false c1_
 refine bS [0, 0, 0, 0, 0] 10 0 [(0, iq W), (1, iq H), (15, .bool (decide ((mx W H) > 256)))] ?_
 refine cont_done ?_
 refine then_normal ?_
 refine cont_split 15 (decide ((mx W H) > 256)) rfl (fun c2_ => ?_) (fun c2_ => ?_)
 ·
  replace c2_ := of_decide_eq_true c2_
  exfalso; unfold mx at *; omega
 replace c2_ := of_decide_eq_false c2_
 refine cont_false rfl ?_
 refine cont_skip ?_
 refine then_normal ?_
 refine cont_seq ?_
 refine cont_region 10 rfl ?_
 refine bS [0, 0, 0, 0, 0] 5 5 [(16, iq W), (17, iq H), (20, iq (IntKind.i64.wrap (W * H)))] ?_
 refine cont_recast 20 (iq (IntKind.i64.wrap (W * H))) (iq (n : Int)) rfl (by rw [hn]; exact wrapI (by omega) (by omega)) ?_
 refine pl_step 6 4 rfl rfl ?_
 refine sem_stepW 21 (Instr.makeSlice 35 (iq (n : Int)) (iq (n : Int))) (fun r3 => .slice (pB r3) n n) (fun r3 => [.gen (rowE (pB r3) r3 n n 28 1 (ivals .u32 (List.replicate n 0)) true)]) (fun _ => True) (by kernel_rfl) (fun w hT => make_row hT (bytes := 4) n (by kernel_rfl) (by kernel_rfl) (by omega) (by omega)) (fun r3 _ => ?_)
 refine batch1 [0, 0, 0, 0] 10 0 (fun b4 => [(4, .pointer (pB b4)), (5, iq 0)]) (fun b4 => [.cells b4 [iq W, iq H, .slice (pB r3) n n] 84 true, .gen (rowE (pB r3) r3 n n 28 1 (ivals .u32 (List.replicate n 0)) true)]) rfl rfl [4, 5] (fun _ => rfl) (fun b4 => by kernel_rfl) (fun b4 => by kernel_rfl) (fun b4 => ?_)
 refine cont_done ?_
 refine then_normal ?_
 refine cont_ret ?_
 refine ret_two (.inl rfl) rfl 0 0 (.pointer (pB b4)) (iq 0) (by kernel_rfl) (by kernel_rfl) (by kernel_rfl) (by kernel_rfl) (fun w hT => ?_)
 exact ⟨_, _, n, rfl, hn, newImg_of_tab hT⟩

theorem imgRow (m : Nat) (W H : Int) (r n cap : Nat) (px : List Int) (y x0 x1 : Int) (w : World) (hI : ImgR 84 w m W H r n cap px) (hok : ImgOk W H n px) (hin : 0 ≤ y ∧ y < H ∧ 0 ≤ x0 ∧ x0 ≤ x1 ∧ x1 ≤ W) :
    Calls Try.prog 47 #[.pointer (some ⟨m, 0, none⟩), .int .i64 y, .int .i64 x0, .int .i64 x1] w fun e w' => e = .returned (.slice (sliceA r 0 (Int.toNat (y * W + x0)) cap 1) (Int.toNat (y * W + x1) - Int.toNat (y * W + x0)) (cap - Int.toNat (y * W + x0))) ∧ Below w.heap.size w w' := by
 have hw1 := hok.w1
 have hw2 := hok.w2
 have hh1 := hok.h1
 have hh2 := hok.h2
 have hnum := hok.num
 have hlen := hok.len
 have hle := hok.le
 have hcap := hI.cap
 have hp0 := hok.place (x := 0) (y := y) (by omega) (by omega) (by omega) (by omega)
 have hp1 := hok.place (x := W - 1) (y := y) (by omega) (by omega) (by omega) (by omega)
 refine enter 30 [(0, .pointer (pB m)), (1, iq y), (2, iq x0), (3, iq x1)] [.ro m [iq W, iq H, .slice (pB r) n cap] 84, .gen (rdE (pB r) r 0 n 1 (ivals .u32 px))] Try.func47 rfl Try.ntmps47 rfl (by kernel_rfl) hI.tab ?_
 refine cont_seq ?_
 refine cont_region 1 rfl ?_
 refine bS [0] 1 0 [(0, .pointer (pB m)), (1, iq y), (2, iq x0), (3, iq x1)] ?_
 refine cont_done ?_
 refine then_normal ?_
 refine cont_seq ?_
 refine drawn_enter 22 [] rfl (by kernel_rfl) ?_
 refine takes 0 [] [(0, 0), (4, 0), (5, 0), (10, 0), (12, 0), (13, 0), (18, 0), (1, 0), (6, 0), (14, 0), (2, 0), (7, 0), (15, 0), (3, 0), (8, 0), (16, 0), (9, 0)] 5 [9, 16, 8, 3, 15, 7, 2, 14, 6, 1, 18, 13, 12, 10, 5, 4, 0] [(12, .slice (pB r) n cap), (18, iq (IntKind.i64.wrap (y * W))), (19, iq x0), (21, iq y), (25, iq W), (27, iq x1)] (by kernel_rfl) (pok_then pok_body) (by kernel_rfl) rfl rfl (by kernel_rfl) (by kernel_rfl) ?_
 refine cont_recast 18 (iq (IntKind.i64.wrap (y * W))) (iq (y * W)) rfl (wrapI (by omega) (by omega)) ?_
 refine takes 0 [] [(11, 0)] 4 [11, 9, 16, 8, 3, 15, 7, 2, 14, 6, 1, 18, 13, 12, 10, 5, 4, 0] [(12, .slice (pB r) n cap), (20, iq (IntKind.i64.wrap ((y * W) + x0))), (21, iq y), (25, iq W), (27, iq x1)] (by kernel_rfl) (pok_then pok_body) (by kernel_rfl) rfl rfl (by kernel_rfl) (by kernel_rfl) ?_
 refine cont_recast 20 (iq (IntKind.i64.wrap ((y * W) + x0))) (iq ((y * W) + x0)) rfl (wrapI (by omega) (by omega)) ?_
 refine takes 0 [] [(17, 0)] 3 [17, 11, 9, 16, 8, 3, 15, 7, 2, 14, 6, 1, 18, 13, 12, 10, 5, 4, 0] [(12, .slice (pB r) n cap), (20, iq ((y * W) + x0)), (26, iq (IntKind.i64.wrap (y * W))), (27, iq x1)] (by kernel_rfl) (pok_then pok_body) (by kernel_rfl) rfl rfl (by kernel_rfl) (by kernel_rfl) ?_
 refine cont_recast 26 (iq (IntKind.i64.wrap (y * W))) (iq (y * W)) rfl (wrapI (by omega) (by omega)) ?_
 refine takes 0 [] [(19, 0)] 2 [19, 17, 11, 9, 16, 8, 3, 15, 7, 2, 14, 6, 1, 18, 13, 12, 10, 5, 4, 0] [(12, .slice (pB r) n cap), (20, iq ((y * W) + x0)), (28, iq (IntKind.i64.wrap ((y * W) + x1)))] (by kernel_rfl) (pok_then pok_body) (by kernel_rfl) rfl rfl (by kernel_rfl) (by kernel_rfl) ?_
 refine cont_recast 28 (iq (IntKind.i64.wrap ((y * W) + x1))) (iq ((y * W) + x1)) rfl (wrapI (by omega) (by omega)) ?_
 refine sem_take 0 [] 20 1 29 (Instr.sliceAt 35 (.slice (pB r) n cap) (some (iq ((y * W) + x0))) (some (iq ((y * W) + x1))) none) (.slice (sliceA r 0 (Int.toNat ((y * W) + x0)) cap 1) ((Int.toNat ((y * W) + x1)) - (Int.toNat ((y * W) + x0))) (cap - (Int.toNat ((y * W) + x0)))) (by kernel_rfl) (pok_then pok_body) (by kernel_rfl) rfl (by kernel_rfl) (by kernel_rfl) (fun w hT => run_slice2 (e := 28) (sz := 1) _ _ (by kernel_rfl) (by kernel_rfl) (by omega) (by omega) (by omega) (by omega) (by omega) w) ?_
 refine takes 0 [] [(21, 0)] 0 [21, 20, 19, 17, 11, 9, 16, 8, 3, 15, 7, 2, 14, 6, 1, 18, 13, 12, 10, 5, 4, 0] [(8, .slice (sliceA r 0 (Int.toNat ((y * W) + x0)) cap 1) ((Int.toNat ((y * W) + x1)) - (Int.toNat ((y * W) + x0))) (cap - (Int.toNat ((y * W) + x0))))] (by kernel_rfl) (pok_then pok_body) (by kernel_rfl) rfl rfl (by kernel_rfl) (by kernel_rfl) ?_
 refine drawn_done (by kernel_rfl) ?_
 refine then_normal ?_
 refine cont_ret ?_
 refine ret_one (.inl rfl) rfl 0 (.slice (sliceA r 0 (Int.toNat ((y * W) + x0)) cap 1) ((Int.toNat ((y * W) + x1)) - (Int.toNat ((y * W) + x0))) (cap - (Int.toNat ((y * W) + x0)))) (by kernel_rfl) (by kernel_rfl) (fun w hT => ?_)
 exact ⟨rfl, hT.post rfl⟩

theorem imgFill (m : Nat) (W H : Int) (r n cap : Nat) (px : List Int) (a b c d col : Int) (w : World) (hI : Img 84 28 w m W H r n cap px) (hok : ImgOk W H n px) (hc : InC col) :
    Calls Try.prog 30 #[.pointer (some ⟨m, 0, none⟩), .agg #[.int .i64 a, .int .i64 b, .int .i64 c, .int .i64 d], .int .u32 col] w fun e w' => e = .returned (.int .i64 (fillN W H a b c d col)) ∧ KeepBut w w' r ∧ Row w' (some ⟨r, 0, none⟩) r n cap 28 1 (ivals .u32 (fillA W H px a b c d col)) := by
 have hw1 := hok.w1
 have hw2 := hok.w2
 have hh1 := hok.h1
 have hh2 := hok.h2
 have hnum := hok.num
 have hlen := hok.len
 have hle := hok.le
 have hcap := hI.row.capLe
 obtain ⟨hc0, hc1⟩ := hc
 obtain ⟨hq1, hq2, hq3, hq4, hq5, hq6⟩ := cut_in a b c d (W := W) (H := H) (by omega) (by omega)
 refine enter 44 [(0, .pointer (pB m)), (1, .agg #[iq a, iq b, iq c, iq d]), (2, .int .u32 col)] [.ro m [iq W, iq H, .slice (pB r) n cap] 84, .gen (rowE (pB r) r n cap 28 1 (ivals .u32 px) false)] Try.func30 rfl Try.ntmps30 rfl (by kernel_rfl) hI.tabRw ?_
 refine cont_seq ?_
 refine cont_region 2 rfl ?_
 refine batch1 [0, 0] 2 0 (fun b1 => [(0, .pointer (pB m)), (2, .int .u32 col), (4, .pointer (pB b1))]) (fun b1 => [.cells b1 [iq a, iq b, iq c, iq d] 32 true, .ro m [iq W, iq H, .slice (pB r) n cap] 84, .gen (rowE (pB r) r n cap 28 1 (ivals .u32 px) false)]) rfl rfl [0, 2, 4] (fun _ => rfl) (fun b1 => by kernel_rfl) (fun b1 => by kernel_rfl) (fun b1 => ?_)
 refine cont_done ?_
 refine then_normal ?_
 refine cont_seq ?_
 refine cont_seq ?_
 refine cont_region 3 rfl ?_
 refine bS [0] 1 2 [(0, .pointer (pB m)), (2, .int .u32 col), (4, .pointer (pB b1)), (10, .int .u32 col)] ?_
 refine pl_step 2 1 rfl rfl ?_
 refine call_pure (d := 11) (.bool (mayB col)) (by kernel_rfl) (fun w hT => colorMay col w (by omega) (by omega)) ?_
 refine bS [0] 3 0 [(0, .pointer (pB m)), (2, .int .u32 col), (4, .pointer (pB b1)), (12, .bool (!(mayB col)))] ?_
 refine cont_done ?_
 refine then_normal ?_
 refine cont_split 12 (!(mayB col)) rfl (fun c2_ => ?_) (fun c2_ => ?_)
 ·
  replace c2_ : (mayB col) = false := by simpa using c2_
  refine cont_true rfl ?_
  refine cont_seq ?_
  refine cont_region 1 rfl ?_
  refine bS [0] 1 0 [(6, iq 0)] ?_
  refine cont_forget 0 rfl ?_
  refine cont_done ?_
  refine then_normal ?_
  refine cont_ret ?_
  refine then_ret ?_
  refine ret_one (.inl rfl) rfl 0 (iq 0) (by kernel_rfl) (by kernel_rfl) (fun w hT => ?_)
  refine ⟨by simp [fillN, *], hT.keep 1 rfl rfl, ?_⟩
  have hR := hT.ok 1 _ rfl
  rw [fillA, if_neg (by simp [*])]
  exact hR
 replace c2_ : (mayB col) = true := by simpa using c2_
 refine cont_false rfl ?_
 refine cont_skip ?_
 refine then_normal ?_
 refine cont_seq ?_
 refine drawn_enter 5 [0] rfl (by kernel_rfl) ?_
 refine takes 0 [0] [(1, 0)] 4 [1] [(0, .pointer (pB m)), (2, .int .u32 col), (4, .pointer (pB b1)), (14, .pointer (pB m))] (by kernel_rfl) (pok_then pok_body) (by kernel_rfl) rfl rfl (by kernel_rfl) (by kernel_rfl) ?_
 refine drawn_two 0 2 3 rfl (by kernel_rfl) ?_ ?_
 ·
  refine one_step 0 [(0, .pointer (pB m)), (2, .int .u32 col), (4, .pointer (pB b1)), (13, .agg #[iq a, iq b, iq c, iq d]), (14, .pointer (pB m))] [.cells b1 [iq a, iq b, iq c, iq d] 32 true, .ro m [iq W, iq H, .slice (pB r) n cap] 84, .gen (rowE (pB r) r n cap 28 1 (ivals .u32 px) false)] (by kernel_rfl) (by kernel_rfl) ?_
  refine drawn_next 0 [0] (by kernel_rfl) ?_
  refine drawn_one 2 2 rfl (by kernel_rfl) ?_
  refine call_pure (d := 15) (.agg #[iq 0, iq 0, iq W, iq H]) (by kernel_rfl) (fun w hT => imgBox m W H r n cap px  w ⟨hT.ok 1 _ rfl, Row.rd (hT.ok 2 _ rfl), Row.capLe (hT.ok 2 _ rfl)⟩ hok) ?_
  refine drawn_next 0 [0] (by kernel_rfl) ?_
  refine drawn_one 3 1 rfl (by kernel_rfl) ?_
  refine call_pure (d := 16) (.agg #[iq ((cutR a b c d 0 0 W H).x0), iq ((cutR a b c d 0 0 W H).y0), iq ((cutR a b c d 0 0 W H).x1), iq ((cutR a b c d 0 0 W H).y1)]) (by kernel_rfl) (fun w hT => rectCut a b c d 0 0 W H w) ?_
  refine drawn_next 0 [0] (by kernel_rfl) ?_
  refine drawn_one 4 0 rfl (by kernel_rfl) ?_
  refine one_step 0 [(0, .pointer (pB m)), (2, .int .u32 col), (4, .pointer (pB b1))] [.cells b1 [iq ((cutR a b c d 0 0 W H).x0), iq ((cutR a b c d 0 0 W H).y0), iq ((cutR a b c d 0 0 W H).x1), iq ((cutR a b c d 0 0 W H).y1)] 32 true, .ro m [iq W, iq H, .slice (pB r) n cap] 84, .gen (rowE (pB r) r n cap 28 1 (ivals .u32 px) false)] (by kernel_rfl) (by kernel_rfl) ?_
  refine drawn_next 0 [0] (by kernel_rfl) ?_
  refine drawn_done (by kernel_rfl) ?_
  refine then_normal ?_
  refine cont_seq ?_
  refine cont_seq ?_
  refine cont_region 3 rfl ?_
  refine bS [0, 0, 0] 3 0 [(0, .pointer (pB m)), (2, .int .u32 col), (4, .pointer (pB b1)), (7, iq ((cutR a b c d 0 0 W H).y0))] ?_
  refine cont_done ?_
  refine then_normal ?_
  refine cont_block ?_
  refine cont_rowEq (k := .u32) 2 (px) (fillP W px (cutR a b c d 0 0 W H).x0 (cutR a b c d 0 0 W H).y0 (cutR a b c d 0 0 W H).x1 (cutR a b c d 0 0 W H).y0 col) rfl ((fillP_none W px _ _ _ _ col (.inr (by omega))).symm) ?_
  refine cont_loop (α := Int) (fun x_ : Int => (cutR a b c d 0 0 W H).y0 ≤ x_ ∧ x_ ≤ (cutR a b c d 0 0 W H).y1) (fun x_ : Int => [(0, .pointer (pB m)), (2, .int .u32 col), (4, .pointer (pB b1)), (7, iq x_)]) (fun x_ : Int => [.cells b1 [iq ((cutR a b c d 0 0 W H).x0), iq ((cutR a b c d 0 0 W H).y0), iq ((cutR a b c d 0 0 W H).x1), iq ((cutR a b c d 0 0 W H).y1)] 32 true, .ro m [iq W, iq H, .slice (pB r) n cap] 84, .gen (rowE (pB r) r n cap 28 1 (ivals .u32 (fillP W px (cutR a b c d 0 0 W H).x0 (cutR a b c d 0 0 W H).y0 (cutR a b c d 0 0 W H).x1 x_ col)) false)]) (fun x_ : Int => ((cutR a b c d 0 0 W H).y1 - x_).toNat) ((cutR a b c d 0 0 W H).y0) (⟨by omega, by omega⟩) (by kernel_rfl) (by kernel_rfl) ?_
  rintro y hinv3_
  replace hinv3_ : (cutR a b c d 0 0 W H).y0 ≤ y ∧ y ≤ (cutR a b c d 0 0 W H).y1 := hinv3_
  refine cont_norm [(0, .pointer (pB m)), (2, .int .u32 col), (4, .pointer (pB b1)), (7, iq y)] _ (by kernel_rfl) rfl ?_
  obtain ⟨hy0, hy1⟩ := hinv3_
  refine cont_seq ?_
  refine cont_seq ?_
  refine cont_region 4 rfl ?_
  refine bS [0, 0, 0, 0] 4 0 [(0, .pointer (pB m)), (2, .int .u32 col), (4, .pointer (pB b1)), (7, iq y), (22, .bool (decide (y < ((cutR a b c d 0 0 W H).y1))))] ?_
  refine cont_done ?_
  refine then_normal ?_
  refine cont_split 22 (decide (y < ((cutR a b c d 0 0 W H).y1))) rfl (fun c4_ => ?_) (fun c4_ => ?_)
  ·
   replace c4_ := of_decide_eq_true c4_
   refine cont_true rfl ?_
   refine cont_skip ?_
   refine then_normal ?_
   refine cont_seq ?_
   refine cont_block ?_
   refine cont_seq ?_
   refine cont_region 8 rfl ?_
   have hp0 := hok.place (x := 0) (y := y) (by omega) (by omega) (by omega) (by omega)
   have hp1 := hok.place (x := W - 1) (y := y) (by omega) (by omega) (by omega) (by omega)
   refine bS [0, 0, 0, 0, 0, 0] 6 2 [(0, .pointer (pB m)), (2, .int .u32 col), (4, .pointer (pB b1)), (7, iq y), (25, .pointer (pB m)), (26, iq y), (28, iq ((cutR a b c d 0 0 W H).x0)), (30, iq ((cutR a b c d 0 0 W H).x1))] ?_
   refine pl_step 7 1 rfl rfl ?_
   refine call_pure (d := 31) (.slice (sliceA r 0 (Int.toNat (y * W + ((cutR a b c d 0 0 W H).x0))) cap 1) (Int.toNat (y * W + ((cutR a b c d 0 0 W H).x1)) - Int.toNat (y * W + ((cutR a b c d 0 0 W H).x0))) (cap - Int.toNat (y * W + ((cutR a b c d 0 0 W H).x0)))) (by kernel_rfl) (fun w hT => imgRow m W H r n cap (fillP W px (cutR a b c d 0 0 W H).x0 (cutR a b c d 0 0 W H).y0 (cutR a b c d 0 0 W H).x1 y col) y ((cutR a b c d 0 0 W H).x0) ((cutR a b c d 0 0 W H).x1) w ⟨hT.ok 1 _ rfl, Row.rd (hT.ok 2 _ rfl), Row.capLe (hT.ok 2 _ rfl)⟩ (hok.fill _ _ _ _ ⟨hc0, hc1⟩) (by omega)) ?_
   refine bS [0] 8 0 [(0, .pointer (pB m)), (2, .int .u32 col), (4, .pointer (pB b1)), (7, iq y), (8, .slice (sliceA r 0 (Int.toNat (y * W + ((cutR a b c d 0 0 W H).x0))) cap 1) (Int.toNat (y * W + ((cutR a b c d 0 0 W H).x1)) - Int.toNat (y * W + ((cutR a b c d 0 0 W H).x0))) (cap - Int.toNat (y * W + ((cutR a b c d 0 0 W H).x0))))] ?_
   refine cont_done ?_
   refine then_normal ?_
   refine cont_seq ?_
   refine cont_region 3 rfl ?_
   refine bS [0, 0, 0] 3 0 [(0, .pointer (pB m)), (2, .int .u32 col), (4, .pointer (pB b1)), (7, iq y), (8, .slice (sliceA r 0 (Int.toNat (y * W + ((cutR a b c d 0 0 W H).x0))) cap 1) (Int.toNat (y * W + ((cutR a b c d 0 0 W H).x1)) - Int.toNat (y * W + ((cutR a b c d 0 0 W H).x0))) (cap - Int.toNat (y * W + ((cutR a b c d 0 0 W H).x0)))), (33, iq (((Int.toNat (y * W + ((cutR a b c d 0 0 W H).x1)) - Int.toNat (y * W + ((cutR a b c d 0 0 W H).x0))) : Nat) : Int)), (34, iq 0)] ?_
   refine cont_done ?_
   refine then_normal ?_
   refine cont_block ?_
   refine cont_rowEq (k := .u32) 2 (fillP W px (cutR a b c d 0 0 W H).x0 (cutR a b c d 0 0 W H).y0 (cutR a b c d 0 0 W H).x1 y col) (fillP W (fillP W px (cutR a b c d 0 0 W H).x0 (cutR a b c d 0 0 W H).y0 (cutR a b c d 0 0 W H).x1 y col) (cutR a b c d 0 0 W H).x0 y ((cutR a b c d 0 0 W H).x0 + ((0 : Nat) : Int)) (y + 1) col) rfl ((fillP_none W _ _ _ _ _ col (.inl (by omega))).symm) ?_
   refine cont_loop (α := Nat) (fun x_ : Nat => x_ ≤ Int.toNat ((cutR a b c d 0 0 W H).x1 - (cutR a b c d 0 0 W H).x0)) (fun x_ : Nat => [(0, .pointer (pB m)), (2, .int .u32 col), (4, .pointer (pB b1)), (7, iq y), (8, .slice (sliceA r 0 (Int.toNat (y * W + ((cutR a b c d 0 0 W H).x0))) cap 1) (Int.toNat (y * W + ((cutR a b c d 0 0 W H).x1)) - Int.toNat (y * W + ((cutR a b c d 0 0 W H).x0))) (cap - Int.toNat (y * W + ((cutR a b c d 0 0 W H).x0)))), (33, iq (((Int.toNat (y * W + ((cutR a b c d 0 0 W H).x1)) - Int.toNat (y * W + ((cutR a b c d 0 0 W H).x0))) : Nat) : Int)), (34, iq (x_ : Int))]) (fun x_ : Nat => [.cells b1 [iq ((cutR a b c d 0 0 W H).x0), iq ((cutR a b c d 0 0 W H).y0), iq ((cutR a b c d 0 0 W H).x1), iq ((cutR a b c d 0 0 W H).y1)] 32 true, .ro m [iq W, iq H, .slice (pB r) n cap] 84, .gen (rowE (pB r) r n cap 28 1 (ivals .u32 (fillP W (fillP W px (cutR a b c d 0 0 W H).x0 (cutR a b c d 0 0 W H).y0 (cutR a b c d 0 0 W H).x1 y col) (cutR a b c d 0 0 W H).x0 y ((cutR a b c d 0 0 W H).x0 + (x_ : Int)) (y + 1) col)) false)]) (fun x_ : Nat => Int.toNat ((cutR a b c d 0 0 W H).x1 - (cutR a b c d 0 0 W H).x0) - x_) 0 (by omega) (by kernel_rfl) (by kernel_rfl) ?_
   rintro i hinv5_
   replace hinv5_ : i ≤ Int.toNat ((cutR a b c d 0 0 W H).x1 - (cutR a b c d 0 0 W H).x0) := hinv5_
   refine cont_norm [(0, .pointer (pB m)), (2, .int .u32 col), (4, .pointer (pB b1)), (7, iq y), (8, .slice (sliceA r 0 (Int.toNat (y * W + ((cutR a b c d 0 0 W H).x0))) cap 1) (Int.toNat (y * W + ((cutR a b c d 0 0 W H).x1)) - Int.toNat (y * W + ((cutR a b c d 0 0 W H).x0))) (cap - Int.toNat (y * W + ((cutR a b c d 0 0 W H).x0)))), (33, iq (((Int.toNat (y * W + ((cutR a b c d 0 0 W H).x1)) - Int.toNat (y * W + ((cutR a b c d 0 0 W H).x0))) : Nat) : Int)), (34, iq (i : Int))] _ (by kernel_rfl) rfl ?_
   refine cont_seq ?_
   refine cont_region 1 rfl ?_
   refine bS [0] 1 0 [(0, .pointer (pB m)), (2, .int .u32 col), (4, .pointer (pB b1)), (7, iq y), (8, .slice (sliceA r 0 (Int.toNat (y * W + ((cutR a b c d 0 0 W H).x0))) cap 1) (Int.toNat (y * W + ((cutR a b c d 0 0 W H).x1)) - Int.toNat (y * W + ((cutR a b c d 0 0 W H).x0))) (cap - Int.toNat (y * W + ((cutR a b c d 0 0 W H).x0)))), (33, iq (((Int.toNat (y * W + ((cutR a b c d 0 0 W H).x1)) - Int.toNat (y * W + ((cutR a b c d 0 0 W H).x0))) : Nat) : Int)), (34, iq (i : Int)), (35, .bool (decide ((i : Int) < (((Int.toNat (y * W + ((cutR a b c d 0 0 W H).x1)) - Int.toNat (y * W + ((cutR a b c d 0 0 W H).x0))) : Nat) : Int))))] ?_
   refine cont_done ?_
   refine then_normal ?_
   refine cont_seq ?_
   refine cont_split 35 (decide ((i : Int) < (((Int.toNat (y * W + ((cutR a b c d 0 0 W H).x1)) - Int.toNat (y * W + ((cutR a b c d 0 0 W H).x0))) : Nat) : Int))) rfl (fun c6_ => ?_) (fun c6_ => ?_)
   ·
    replace c6_ := of_decide_eq_true c6_
    refine cont_true rfl ?_
    refine cont_skip ?_
    refine then_normal ?_
    refine cont_seq ?_
    refine cont_block ?_
    refine cont_seq ?_
    refine cont_region 2 rfl ?_
    refine bS [0, 0] 2 0 [(0, .pointer (pB m)), (2, .int .u32 col), (4, .pointer (pB b1)), (7, iq y), (8, .slice (sliceA r 0 (Int.toNat (y * W + ((cutR a b c d 0 0 W H).x0))) cap 1) (Int.toNat (y * W + ((cutR a b c d 0 0 W H).x1)) - Int.toNat (y * W + ((cutR a b c d 0 0 W H).x0))) (cap - Int.toNat (y * W + ((cutR a b c d 0 0 W H).x0)))), (9, iq (i : Int)), (33, iq (((Int.toNat (y * W + ((cutR a b c d 0 0 W H).x1)) - Int.toNat (y * W + ((cutR a b c d 0 0 W H).x0))) : Nat) : Int)), (34, iq (i : Int))] ?_
    refine cont_done ?_
    refine then_normal ?_
    refine cont_region 5 rfl ?_
    refine bS [0, 0, 0] 3 2 [(0, .pointer (pB m)), (2, .int .u32 col), (4, .pointer (pB b1)), (7, iq y), (8, .slice (sliceA r 0 (Int.toNat (y * W + ((cutR a b c d 0 0 W H).x0))) cap 1) (Int.toNat (y * W + ((cutR a b c d 0 0 W H).x1)) - Int.toNat (y * W + ((cutR a b c d 0 0 W H).x0))) (cap - Int.toNat (y * W + ((cutR a b c d 0 0 W H).x0)))), (33, iq (((Int.toNat (y * W + ((cutR a b c d 0 0 W H).x1)) - Int.toNat (y * W + ((cutR a b c d 0 0 W H).x0))) : Nat) : Int)), (34, iq (i : Int)), (37, .slice (sliceA r 0 (Int.toNat (y * W + ((cutR a b c d 0 0 W H).x0))) cap 1) (Int.toNat (y * W + ((cutR a b c d 0 0 W H).x1)) - Int.toNat (y * W + ((cutR a b c d 0 0 W H).x0))) (cap - Int.toNat (y * W + ((cutR a b c d 0 0 W H).x0)))), (38, iq (i : Int)), (39, .int .u32 col)] ?_
    refine pl_step 4 1 rfl rfl ?_
    refine cont_recast 37 (.slice (sliceA r 0 (Int.toNat (y * W + ((cutR a b c d 0 0 W H).x0))) cap 1) (Int.toNat (y * W + ((cutR a b c d 0 0 W H).x1)) - Int.toNat (y * W + ((cutR a b c d 0 0 W H).x0))) (cap - Int.toNat (y * W + ((cutR a b c d 0 0 W H).x0)))) (.slice (some ⟨r, 0 + (Int.toNat (y * W + ((cutR a b c d 0 0 W H).x0))) * 1, none⟩) (Int.toNat (y * W + ((cutR a b c d 0 0 W H).x1)) - Int.toNat (y * W + ((cutR a b c d 0 0 W H).x0))) (cap - Int.toNat (y * W + ((cutR a b c d 0 0 W H).x0)))) rfl (by rw [sliceA_pos (by omega)]) ?_
    refine sem_step 40 (Instr.indexAt 35 (.slice (some ⟨r, 0 + (Int.toNat (y * W + ((cutR a b c d 0 0 W H).x0))) * 1, none⟩) (Int.toNat (y * W + ((cutR a b c d 0 0 W H).x1)) - Int.toNat (y * W + ((cutR a b c d 0 0 W H).x0))) (cap - Int.toNat (y * W + ((cutR a b c d 0 0 W H).x0)))) (iq (i : Int))) (.pointer (some ⟨r, 0 + (Int.toNat (y * W + ((cutR a b c d 0 0 W H).x0))) * 1 + i, none⟩)) (by kernel_rfl) (fun w hT => run_indexAt (e := 28) (sz := 1) _ (by kernel_rfl) (by kernel_rfl) (by omega) (by omega) (by omega) w) ?_
    refine pl_step 5 0 rfl rfl ?_
    refine sem_stepU (Instr.storeAt 28 (.pointer (some ⟨r, 0 + (Int.toNat (y * W + ((cutR a b c d 0 0 W H).x0))) * 1 + i, none⟩)) (.int .u32 col)) (fun _ => [.cells b1 [iq ((cutR a b c d 0 0 W H).x0), iq ((cutR a b c d 0 0 W H).y0), iq ((cutR a b c d 0 0 W H).x1), iq ((cutR a b c d 0 0 W H).y1)] 32 true, .ro m [iq W, iq H, .slice (pB r) n cap] 84, .gen (rowE (pB r) r n cap 28 1 (ivals .u32 ((fillP W (fillP W px (cutR a b c d 0 0 W H).x0 (cutR a b c d 0 0 W H).y0 (cutR a b c d 0 0 W H).x1 y col) (cutR a b c d 0 0 W H).x0 y ((cutR a b c d 0 0 W H).x0 + (i : Int)) (y + 1) col).set (0 + (Int.toNat (y * W + ((cutR a b c d 0 0 W H).x0))) * 1 + i) col)) false)]) (fun _ => True) (by kernel_rfl) (fun w hT => store_row hT (i := 2) rfl (by kernel_rfl) (by simp only [fillP_length]; omega)) (fun _ _ => ?_)
    refine cont_done ?_
    refine blk_normal ?_
    refine then_normal ?_
    refine cont_region 2 rfl ?_
    refine bS [0] 1 1 [(0, .pointer (pB m)), (2, .int .u32 col), (4, .pointer (pB b1)), (7, iq y), (8, .slice (sliceA r 0 (Int.toNat (y * W + ((cutR a b c d 0 0 W H).x0))) cap 1) (Int.toNat (y * W + ((cutR a b c d 0 0 W H).x1)) - Int.toNat (y * W + ((cutR a b c d 0 0 W H).x0))) (cap - Int.toNat (y * W + ((cutR a b c d 0 0 W H).x0)))), (33, iq (((Int.toNat (y * W + ((cutR a b c d 0 0 W H).x1)) - Int.toNat (y * W + ((cutR a b c d 0 0 W H).x0))) : Nat) : Int)), (41, iq (IntKind.i64.wrap ((i : Int) + 1)))] ?_
    refine cont_recast 41 (iq (IntKind.i64.wrap ((i : Int) + 1))) (iq ((i : Int) + 1)) rfl (wrapI (by omega) (by omega)) ?_
    refine bS [0] 2 0 [(0, .pointer (pB m)), (2, .int .u32 col), (4, .pointer (pB b1)), (7, iq y), (8, .slice (sliceA r 0 (Int.toNat (y * W + ((cutR a b c d 0 0 W H).x0))) cap 1) (Int.toNat (y * W + ((cutR a b c d 0 0 W H).x1)) - Int.toNat (y * W + ((cutR a b c d 0 0 W H).x0))) (cap - Int.toNat (y * W + ((cutR a b c d 0 0 W H).x0)))), (33, iq (((Int.toNat (y * W + ((cutR a b c d 0 0 W H).x1)) - Int.toNat (y * W + ((cutR a b c d 0 0 W H).x0))) : Nat) : Int)), (34, iq ((i : Int) + 1))] ?_
    refine cont_done ?_
    refine then_normal ?_
    refine cont_rowEq (k := .u32) 2 ((fillP W (fillP W px (cutR a b c d 0 0 W H).x0 (cutR a b c d 0 0 W H).y0 (cutR a b c d 0 0 W H).x1 y col) (cutR a b c d 0 0 W H).x0 y ((cutR a b c d 0 0 W H).x0 + (i : Int)) (y + 1) col).set (0 + (Int.toNat (y * W + ((cutR a b c d 0 0 W H).x0))) * 1 + i) col) (fillP W (fillP W px (cutR a b c d 0 0 W H).x0 (cutR a b c d 0 0 W H).y0 (cutR a b c d 0 0 W H).x1 y col) (cutR a b c d 0 0 W H).x0 y ((cutR a b c d 0 0 W H).x0 + ((i + 1 : Nat) : Int)) (y + 1) col) rfl (by rw [fillP_set W _ _ y ((cutR a b c d 0 0 W H).x0 + (i : Int)) col (by omega) (by omega) (by omega) (by omega) (by omega) _ (by omega)]; congr 1; omega) ?_
    refine cont_again (i + 1) (show (i + 1) ≤ Int.toNat ((cutR a b c d 0 0 W H).x1 - (cutR a b c d 0 0 W H).x0) from (by omega)) (show Int.toNat ((cutR a b c d 0 0 W H).x1 - (cutR a b c d 0 0 W H).x0) - (i + 1) < Int.toNat ((cutR a b c d 0 0 W H).x1 - (cutR a b c d 0 0 W H).x0) - i from by omega) (by kernel_rfl) (by kernel_rfl)
   replace c6_ := of_decide_eq_false c6_
   refine cont_false rfl ?_
   refine cont_exit ?_
   refine then_exit ?_
   refine then_exit ?_
   refine blk_exit ?_
   refine blk_normal ?_
   refine then_normal ?_
   refine cont_region 3 rfl ?_
   refine bS [0, 0] 2 1 [(0, .pointer (pB m)), (2, .int .u32 col), (4, .pointer (pB b1)), (24, iq (IntKind.i64.wrap (y + 1)))] ?_
   refine cont_recast 24 (iq (IntKind.i64.wrap (y + 1))) (iq (y + 1)) rfl (wrapI (by omega) (by omega)) ?_
   refine bS [0] 3 0 [(0, .pointer (pB m)), (2, .int .u32 col), (4, .pointer (pB b1)), (7, iq (y + 1))] ?_
   refine cont_done ?_
   refine then_normal ?_
   refine cont_rowEq (k := .u32) 2 (fillP W (fillP W px (cutR a b c d 0 0 W H).x0 (cutR a b c d 0 0 W H).y0 (cutR a b c d 0 0 W H).x1 y col) (cutR a b c d 0 0 W H).x0 y ((cutR a b c d 0 0 W H).x0 + (i : Int)) (y + 1) col) (fillP W px (cutR a b c d 0 0 W H).x0 (cutR a b c d 0 0 W H).y0 (cutR a b c d 0 0 W H).x1 (y + 1) col) rfl (by rw [show (cutR a b c d 0 0 W H).x0 + (i : Int) = (cutR a b c d 0 0 W H).x1 by omega]; exact fillP_row W px (cutR a b c d 0 0 W H).x0 (cutR a b c d 0 0 W H).y0 (cutR a b c d 0 0 W H).x1 y col (by omega)) ?_
   refine cont_again (y + 1) (show (cutR a b c d 0 0 W H).y0 ≤ (y + 1) ∧ (y + 1) ≤ (cutR a b c d 0 0 W H).y1 from ⟨by omega, by omega⟩) (show ((cutR a b c d 0 0 W H).y1 - (y + 1)).toNat < ((cutR a b c d 0 0 W H).y1 - y).toNat from by omega) (by kernel_rfl) (by kernel_rfl)
  replace c4_ := of_decide_eq_false c4_
  refine cont_false rfl ?_
  refine cont_exit ?_
  refine then_exit ?_
  refine then_exit ?_
  refine blk_exit ?_
  refine then_normal ?_
  refine cont_seq ?_
  refine cont_region 3 rfl ?_
  refine bS [0] 1 2 [(42, .agg #[iq ((cutR a b c d 0 0 W H).x0), iq ((cutR a b c d 0 0 W H).y0), iq ((cutR a b c d 0 0 W H).x1), iq ((cutR a b c d 0 0 W H).y1)])] ?_
  refine cont_forget 0 rfl ?_
  refine pl_step 2 1 rfl rfl ?_
  refine call_pure (d := 43) (iq (areaI ((cutR a b c d 0 0 W H).x0) ((cutR a b c d 0 0 W H).y0) ((cutR a b c d 0 0 W H).x1) ((cutR a b c d 0 0 W H).y1))) (by kernel_rfl) (fun w hT => rectArea ((cutR a b c d 0 0 W H).x0) ((cutR a b c d 0 0 W H).y0) ((cutR a b c d 0 0 W H).x1) ((cutR a b c d 0 0 W H).y1) w (by omega) (by omega) (by omega) (by omega)) ?_
  refine bS [0] 3 0 [(6, iq (areaI ((cutR a b c d 0 0 W H).x0) ((cutR a b c d 0 0 W H).y0) ((cutR a b c d 0 0 W H).x1) ((cutR a b c d 0 0 W H).y1)))] ?_
  refine cont_done ?_
  refine then_normal ?_
  refine cont_ret ?_
  refine ret_one (.inl rfl) rfl 0 (iq (areaI ((cutR a b c d 0 0 W H).x0) ((cutR a b c d 0 0 W H).y0) ((cutR a b c d 0 0 W H).x1) ((cutR a b c d 0 0 W H).y1))) (by kernel_rfl) (by kernel_rfl) (fun w hT => ?_)
  refine ⟨by simp [fillN, *], hT.keep 1 rfl rfl, ?_⟩
  have hR := hT.ok 1 _ rfl
  rw [show y = (cutR a b c d 0 0 W H).y1 by omega] at hR
  rw [fillA, if_pos ‹mayB col = true›]
  exact hR
 refine call_pure (d := 15) (.agg #[iq 0, iq 0, iq W, iq H]) (by kernel_rfl) (fun w hT => imgBox m W H r n cap px  w ⟨hT.ok 1 _ rfl, Row.rd (hT.ok 2 _ rfl), Row.capLe (hT.ok 2 _ rfl)⟩ hok) ?_
 refine drawn_next 0 [0] (by kernel_rfl) ?_
 refine drawn_one 0 2 rfl (by kernel_rfl) ?_
 refine one_step 0 [(0, .pointer (pB m)), (2, .int .u32 col), (4, .pointer (pB b1)), (13, .agg #[iq a, iq b, iq c, iq d]), (15, .agg #[iq 0, iq 0, iq W, iq H])] [.cells b1 [iq a, iq b, iq c, iq d] 32 true, .ro m [iq W, iq H, .slice (pB r) n cap] 84, .gen (rowE (pB r) r n cap 28 1 (ivals .u32 px) false)] (by kernel_rfl) (by kernel_rfl) ?_
 refine drawn_next 0 [0] (by kernel_rfl) ?_
 refine drawn_one 3 1 rfl (by kernel_rfl) ?_
 refine call_pure (d := 16) (.agg #[iq ((cutR a b c d 0 0 W H).x0), iq ((cutR a b c d 0 0 W H).y0), iq ((cutR a b c d 0 0 W H).x1), iq ((cutR a b c d 0 0 W H).y1)]) (by kernel_rfl) (fun w hT => rectCut a b c d 0 0 W H w) ?_
 refine drawn_next 0 [0] (by kernel_rfl) ?_
 refine drawn_one 4 0 rfl (by kernel_rfl) ?_
 refine one_step 0 [(0, .pointer (pB m)), (2, .int .u32 col), (4, .pointer (pB b1))] [.cells b1 [iq ((cutR a b c d 0 0 W H).x0), iq ((cutR a b c d 0 0 W H).y0), iq ((cutR a b c d 0 0 W H).x1), iq ((cutR a b c d 0 0 W H).y1)] 32 true, .ro m [iq W, iq H, .slice (pB r) n cap] 84, .gen (rowE (pB r) r n cap 28 1 (ivals .u32 px) false)] (by kernel_rfl) (by kernel_rfl) ?_
 refine drawn_next 0 [0] (by kernel_rfl) ?_
 refine drawn_done (by kernel_rfl) ?_
 refine then_normal ?_
 refine cont_seq ?_
 refine cont_seq ?_
 refine cont_region 3 rfl ?_
 refine bS [0, 0, 0] 3 0 [(0, .pointer (pB m)), (2, .int .u32 col), (4, .pointer (pB b1)), (7, iq ((cutR a b c d 0 0 W H).y0))] ?_
 refine cont_done ?_
 refine then_normal ?_
 refine cont_block ?_
 refine cont_rowEq (k := .u32) 2 (px) (fillP W px (cutR a b c d 0 0 W H).x0 (cutR a b c d 0 0 W H).y0 (cutR a b c d 0 0 W H).x1 (cutR a b c d 0 0 W H).y0 col) rfl ((fillP_none W px _ _ _ _ col (.inr (by omega))).symm) ?_
 refine cont_loop (α := Int) (fun x_ : Int => (cutR a b c d 0 0 W H).y0 ≤ x_ ∧ x_ ≤ (cutR a b c d 0 0 W H).y1) (fun x_ : Int => [(0, .pointer (pB m)), (2, .int .u32 col), (4, .pointer (pB b1)), (7, iq x_)]) (fun x_ : Int => [.cells b1 [iq ((cutR a b c d 0 0 W H).x0), iq ((cutR a b c d 0 0 W H).y0), iq ((cutR a b c d 0 0 W H).x1), iq ((cutR a b c d 0 0 W H).y1)] 32 true, .ro m [iq W, iq H, .slice (pB r) n cap] 84, .gen (rowE (pB r) r n cap 28 1 (ivals .u32 (fillP W px (cutR a b c d 0 0 W H).x0 (cutR a b c d 0 0 W H).y0 (cutR a b c d 0 0 W H).x1 x_ col)) false)]) (fun x_ : Int => ((cutR a b c d 0 0 W H).y1 - x_).toNat) ((cutR a b c d 0 0 W H).y0) (⟨by omega, by omega⟩) (by kernel_rfl) (by kernel_rfl) ?_
 rintro y hinv7_
 replace hinv7_ : (cutR a b c d 0 0 W H).y0 ≤ y ∧ y ≤ (cutR a b c d 0 0 W H).y1 := hinv7_
 refine cont_norm [(0, .pointer (pB m)), (2, .int .u32 col), (4, .pointer (pB b1)), (7, iq y)] _ (by kernel_rfl) rfl ?_
 obtain ⟨hy0, hy1⟩ := hinv7_
 refine cont_seq ?_
 refine cont_seq ?_
 refine cont_region 4 rfl ?_
 refine bS [0, 0, 0, 0] 4 0 [(0, .pointer (pB m)), (2, .int .u32 col), (4, .pointer (pB b1)), (7, iq y), (22, .bool (decide (y < ((cutR a b c d 0 0 W H).y1))))] ?_
 refine cont_done ?_
 refine then_normal ?_
 refine cont_split 22 (decide (y < ((cutR a b c d 0 0 W H).y1))) rfl (fun c8_ => ?_) (fun c8_ => ?_)
 ·
  replace c8_ := of_decide_eq_true c8_
  refine cont_true rfl ?_
  refine cont_skip ?_
  refine then_normal ?_
  refine cont_seq ?_
  refine cont_block ?_
  refine cont_seq ?_
  refine cont_region 8 rfl ?_
  have hp0 := hok.place (x := 0) (y := y) (by omega) (by omega) (by omega) (by omega)
  have hp1 := hok.place (x := W - 1) (y := y) (by omega) (by omega) (by omega) (by omega)
  refine bS [0, 0, 0, 0, 0, 0] 6 2 [(0, .pointer (pB m)), (2, .int .u32 col), (4, .pointer (pB b1)), (7, iq y), (25, .pointer (pB m)), (26, iq y), (28, iq ((cutR a b c d 0 0 W H).x0)), (30, iq ((cutR a b c d 0 0 W H).x1))] ?_
  refine pl_step 7 1 rfl rfl ?_
  refine call_pure (d := 31) (.slice (sliceA r 0 (Int.toNat (y * W + ((cutR a b c d 0 0 W H).x0))) cap 1) (Int.toNat (y * W + ((cutR a b c d 0 0 W H).x1)) - Int.toNat (y * W + ((cutR a b c d 0 0 W H).x0))) (cap - Int.toNat (y * W + ((cutR a b c d 0 0 W H).x0)))) (by kernel_rfl) (fun w hT => imgRow m W H r n cap (fillP W px (cutR a b c d 0 0 W H).x0 (cutR a b c d 0 0 W H).y0 (cutR a b c d 0 0 W H).x1 y col) y ((cutR a b c d 0 0 W H).x0) ((cutR a b c d 0 0 W H).x1) w ⟨hT.ok 1 _ rfl, Row.rd (hT.ok 2 _ rfl), Row.capLe (hT.ok 2 _ rfl)⟩ (hok.fill _ _ _ _ ⟨hc0, hc1⟩) (by omega)) ?_
  refine bS [0] 8 0 [(0, .pointer (pB m)), (2, .int .u32 col), (4, .pointer (pB b1)), (7, iq y), (8, .slice (sliceA r 0 (Int.toNat (y * W + ((cutR a b c d 0 0 W H).x0))) cap 1) (Int.toNat (y * W + ((cutR a b c d 0 0 W H).x1)) - Int.toNat (y * W + ((cutR a b c d 0 0 W H).x0))) (cap - Int.toNat (y * W + ((cutR a b c d 0 0 W H).x0))))] ?_
  refine cont_done ?_
  refine then_normal ?_
  refine cont_seq ?_
  refine cont_region 3 rfl ?_
  refine bS [0, 0, 0] 3 0 [(0, .pointer (pB m)), (2, .int .u32 col), (4, .pointer (pB b1)), (7, iq y), (8, .slice (sliceA r 0 (Int.toNat (y * W + ((cutR a b c d 0 0 W H).x0))) cap 1) (Int.toNat (y * W + ((cutR a b c d 0 0 W H).x1)) - Int.toNat (y * W + ((cutR a b c d 0 0 W H).x0))) (cap - Int.toNat (y * W + ((cutR a b c d 0 0 W H).x0)))), (33, iq (((Int.toNat (y * W + ((cutR a b c d 0 0 W H).x1)) - Int.toNat (y * W + ((cutR a b c d 0 0 W H).x0))) : Nat) : Int)), (34, iq 0)] ?_
  refine cont_done ?_
  refine then_normal ?_
  refine cont_block ?_
  refine cont_rowEq (k := .u32) 2 (fillP W px (cutR a b c d 0 0 W H).x0 (cutR a b c d 0 0 W H).y0 (cutR a b c d 0 0 W H).x1 y col) (fillP W (fillP W px (cutR a b c d 0 0 W H).x0 (cutR a b c d 0 0 W H).y0 (cutR a b c d 0 0 W H).x1 y col) (cutR a b c d 0 0 W H).x0 y ((cutR a b c d 0 0 W H).x0 + ((0 : Nat) : Int)) (y + 1) col) rfl ((fillP_none W _ _ _ _ _ col (.inl (by omega))).symm) ?_
  refine cont_loop (α := Nat) (fun x_ : Nat => x_ ≤ Int.toNat ((cutR a b c d 0 0 W H).x1 - (cutR a b c d 0 0 W H).x0)) (fun x_ : Nat => [(0, .pointer (pB m)), (2, .int .u32 col), (4, .pointer (pB b1)), (7, iq y), (8, .slice (sliceA r 0 (Int.toNat (y * W + ((cutR a b c d 0 0 W H).x0))) cap 1) (Int.toNat (y * W + ((cutR a b c d 0 0 W H).x1)) - Int.toNat (y * W + ((cutR a b c d 0 0 W H).x0))) (cap - Int.toNat (y * W + ((cutR a b c d 0 0 W H).x0)))), (33, iq (((Int.toNat (y * W + ((cutR a b c d 0 0 W H).x1)) - Int.toNat (y * W + ((cutR a b c d 0 0 W H).x0))) : Nat) : Int)), (34, iq (x_ : Int))]) (fun x_ : Nat => [.cells b1 [iq ((cutR a b c d 0 0 W H).x0), iq ((cutR a b c d 0 0 W H).y0), iq ((cutR a b c d 0 0 W H).x1), iq ((cutR a b c d 0 0 W H).y1)] 32 true, .ro m [iq W, iq H, .slice (pB r) n cap] 84, .gen (rowE (pB r) r n cap 28 1 (ivals .u32 (fillP W (fillP W px (cutR a b c d 0 0 W H).x0 (cutR a b c d 0 0 W H).y0 (cutR a b c d 0 0 W H).x1 y col) (cutR a b c d 0 0 W H).x0 y ((cutR a b c d 0 0 W H).x0 + (x_ : Int)) (y + 1) col)) false)]) (fun x_ : Nat => Int.toNat ((cutR a b c d 0 0 W H).x1 - (cutR a b c d 0 0 W H).x0) - x_) 0 (by omega) (by kernel_rfl) (by kernel_rfl) ?_
  rintro i hinv9_
  replace hinv9_ : i ≤ Int.toNat ((cutR a b c d 0 0 W H).x1 - (cutR a b c d 0 0 W H).x0) := hinv9_
  refine cont_norm [(0, .pointer (pB m)), (2, .int .u32 col), (4, .pointer (pB b1)), (7, iq y), (8, .slice (sliceA r 0 (Int.toNat (y * W + ((cutR a b c d 0 0 W H).x0))) cap 1) (Int.toNat (y * W + ((cutR a b c d 0 0 W H).x1)) - Int.toNat (y * W + ((cutR a b c d 0 0 W H).x0))) (cap - Int.toNat (y * W + ((cutR a b c d 0 0 W H).x0)))), (33, iq (((Int.toNat (y * W + ((cutR a b c d 0 0 W H).x1)) - Int.toNat (y * W + ((cutR a b c d 0 0 W H).x0))) : Nat) : Int)), (34, iq (i : Int))] _ (by kernel_rfl) rfl ?_
  refine cont_seq ?_
  refine cont_region 1 rfl ?_
  refine bS [0] 1 0 [(0, .pointer (pB m)), (2, .int .u32 col), (4, .pointer (pB b1)), (7, iq y), (8, .slice (sliceA r 0 (Int.toNat (y * W + ((cutR a b c d 0 0 W H).x0))) cap 1) (Int.toNat (y * W + ((cutR a b c d 0 0 W H).x1)) - Int.toNat (y * W + ((cutR a b c d 0 0 W H).x0))) (cap - Int.toNat (y * W + ((cutR a b c d 0 0 W H).x0)))), (33, iq (((Int.toNat (y * W + ((cutR a b c d 0 0 W H).x1)) - Int.toNat (y * W + ((cutR a b c d 0 0 W H).x0))) : Nat) : Int)), (34, iq (i : Int)), (35, .bool (decide ((i : Int) < (((Int.toNat (y * W + ((cutR a b c d 0 0 W H).x1)) - Int.toNat (y * W + ((cutR a b c d 0 0 W H).x0))) : Nat) : Int))))] ?_
  refine cont_done ?_
  refine then_normal ?_
  refine cont_seq ?_
  refine cont_split 35 (decide ((i : Int) < (((Int.toNat (y * W + ((cutR a b c d 0 0 W H).x1)) - Int.toNat (y * W + ((cutR a b c d 0 0 W H).x0))) : Nat) : Int))) rfl (fun c10_ => ?_) (fun c10_ => ?_)
  ·
   replace c10_ := of_decide_eq_true c10_
   refine cont_true rfl ?_
   refine cont_skip ?_
   refine then_normal ?_
   refine cont_seq ?_
   refine cont_block ?_
   refine cont_seq ?_
   refine cont_region 2 rfl ?_
   refine bS [0, 0] 2 0 [(0, .pointer (pB m)), (2, .int .u32 col), (4, .pointer (pB b1)), (7, iq y), (8, .slice (sliceA r 0 (Int.toNat (y * W + ((cutR a b c d 0 0 W H).x0))) cap 1) (Int.toNat (y * W + ((cutR a b c d 0 0 W H).x1)) - Int.toNat (y * W + ((cutR a b c d 0 0 W H).x0))) (cap - Int.toNat (y * W + ((cutR a b c d 0 0 W H).x0)))), (9, iq (i : Int)), (33, iq (((Int.toNat (y * W + ((cutR a b c d 0 0 W H).x1)) - Int.toNat (y * W + ((cutR a b c d 0 0 W H).x0))) : Nat) : Int)), (34, iq (i : Int))] ?_
   refine cont_done ?_
   refine then_normal ?_
   refine cont_region 5 rfl ?_
   refine bS [0, 0, 0] 3 2 [(0, .pointer (pB m)), (2, .int .u32 col), (4, .pointer (pB b1)), (7, iq y), (8, .slice (sliceA r 0 (Int.toNat (y * W + ((cutR a b c d 0 0 W H).x0))) cap 1) (Int.toNat (y * W + ((cutR a b c d 0 0 W H).x1)) - Int.toNat (y * W + ((cutR a b c d 0 0 W H).x0))) (cap - Int.toNat (y * W + ((cutR a b c d 0 0 W H).x0)))), (33, iq (((Int.toNat (y * W + ((cutR a b c d 0 0 W H).x1)) - Int.toNat (y * W + ((cutR a b c d 0 0 W H).x0))) : Nat) : Int)), (34, iq (i : Int)), (37, .slice (sliceA r 0 (Int.toNat (y * W + ((cutR a b c d 0 0 W H).x0))) cap 1) (Int.toNat (y * W + ((cutR a b c d 0 0 W H).x1)) - Int.toNat (y * W + ((cutR a b c d 0 0 W H).x0))) (cap - Int.toNat (y * W + ((cutR a b c d 0 0 W H).x0)))), (38, iq (i : Int)), (39, .int .u32 col)] ?_
   refine pl_step 4 1 rfl rfl ?_
   refine cont_recast 37 (.slice (sliceA r 0 (Int.toNat (y * W + ((cutR a b c d 0 0 W H).x0))) cap 1) (Int.toNat (y * W + ((cutR a b c d 0 0 W H).x1)) - Int.toNat (y * W + ((cutR a b c d 0 0 W H).x0))) (cap - Int.toNat (y * W + ((cutR a b c d 0 0 W H).x0)))) (.slice (some ⟨r, 0 + (Int.toNat (y * W + ((cutR a b c d 0 0 W H).x0))) * 1, none⟩) (Int.toNat (y * W + ((cutR a b c d 0 0 W H).x1)) - Int.toNat (y * W + ((cutR a b c d 0 0 W H).x0))) (cap - Int.toNat (y * W + ((cutR a b c d 0 0 W H).x0)))) rfl (by rw [sliceA_pos (by omega)]) ?_
   refine sem_step 40 (Instr.indexAt 35 (.slice (some ⟨r, 0 + (Int.toNat (y * W + ((cutR a b c d 0 0 W H).x0))) * 1, none⟩) (Int.toNat (y * W + ((cutR a b c d 0 0 W H).x1)) - Int.toNat (y * W + ((cutR a b c d 0 0 W H).x0))) (cap - Int.toNat (y * W + ((cutR a b c d 0 0 W H).x0)))) (iq (i : Int))) (.pointer (some ⟨r, 0 + (Int.toNat (y * W + ((cutR a b c d 0 0 W H).x0))) * 1 + i, none⟩)) (by kernel_rfl) (fun w hT => run_indexAt (e := 28) (sz := 1) _ (by kernel_rfl) (by kernel_rfl) (by omega) (by omega) (by omega) w) ?_
   refine pl_step 5 0 rfl rfl ?_
   refine sem_stepU (Instr.storeAt 28 (.pointer (some ⟨r, 0 + (Int.toNat (y * W + ((cutR a b c d 0 0 W H).x0))) * 1 + i, none⟩)) (.int .u32 col)) (fun _ => [.cells b1 [iq ((cutR a b c d 0 0 W H).x0), iq ((cutR a b c d 0 0 W H).y0), iq ((cutR a b c d 0 0 W H).x1), iq ((cutR a b c d 0 0 W H).y1)] 32 true, .ro m [iq W, iq H, .slice (pB r) n cap] 84, .gen (rowE (pB r) r n cap 28 1 (ivals .u32 ((fillP W (fillP W px (cutR a b c d 0 0 W H).x0 (cutR a b c d 0 0 W H).y0 (cutR a b c d 0 0 W H).x1 y col) (cutR a b c d 0 0 W H).x0 y ((cutR a b c d 0 0 W H).x0 + (i : Int)) (y + 1) col).set (0 + (Int.toNat (y * W + ((cutR a b c d 0 0 W H).x0))) * 1 + i) col)) false)]) (fun _ => True) (by kernel_rfl) (fun w hT => store_row hT (i := 2) rfl (by kernel_rfl) (by simp only [fillP_length]; omega)) (fun _ _ => ?_)
   refine cont_done ?_
   refine blk_normal ?_
   refine then_normal ?_
   refine cont_region 2 rfl ?_
   refine bS [0] 1 1 [(0, .pointer (pB m)), (2, .int .u32 col), (4, .pointer (pB b1)), (7, iq y), (8, .slice (sliceA r 0 (Int.toNat (y * W + ((cutR a b c d 0 0 W H).x0))) cap 1) (Int.toNat (y * W + ((cutR a b c d 0 0 W H).x1)) - Int.toNat (y * W + ((cutR a b c d 0 0 W H).x0))) (cap - Int.toNat (y * W + ((cutR a b c d 0 0 W H).x0)))), (33, iq (((Int.toNat (y * W + ((cutR a b c d 0 0 W H).x1)) - Int.toNat (y * W + ((cutR a b c d 0 0 W H).x0))) : Nat) : Int)), (41, iq (IntKind.i64.wrap ((i : Int) + 1)))] ?_
   refine cont_recast 41 (iq (IntKind.i64.wrap ((i : Int) + 1))) (iq ((i : Int) + 1)) rfl (wrapI (by omega) (by omega)) ?_
   refine bS [0] 2 0 [(0, .pointer (pB m)), (2, .int .u32 col), (4, .pointer (pB b1)), (7, iq y), (8, .slice (sliceA r 0 (Int.toNat (y * W + ((cutR a b c d 0 0 W H).x0))) cap 1) (Int.toNat (y * W + ((cutR a b c d 0 0 W H).x1)) - Int.toNat (y * W + ((cutR a b c d 0 0 W H).x0))) (cap - Int.toNat (y * W + ((cutR a b c d 0 0 W H).x0)))), (33, iq (((Int.toNat (y * W + ((cutR a b c d 0 0 W H).x1)) - Int.toNat (y * W + ((cutR a b c d 0 0 W H).x0))) : Nat) : Int)), (34, iq ((i : Int) + 1))] ?_
   refine cont_done ?_
   refine then_normal ?_
   refine cont_rowEq (k := .u32) 2 ((fillP W (fillP W px (cutR a b c d 0 0 W H).x0 (cutR a b c d 0 0 W H).y0 (cutR a b c d 0 0 W H).x1 y col) (cutR a b c d 0 0 W H).x0 y ((cutR a b c d 0 0 W H).x0 + (i : Int)) (y + 1) col).set (0 + (Int.toNat (y * W + ((cutR a b c d 0 0 W H).x0))) * 1 + i) col) (fillP W (fillP W px (cutR a b c d 0 0 W H).x0 (cutR a b c d 0 0 W H).y0 (cutR a b c d 0 0 W H).x1 y col) (cutR a b c d 0 0 W H).x0 y ((cutR a b c d 0 0 W H).x0 + ((i + 1 : Nat) : Int)) (y + 1) col) rfl (by rw [fillP_set W _ _ y ((cutR a b c d 0 0 W H).x0 + (i : Int)) col (by omega) (by omega) (by omega) (by omega) (by omega) _ (by omega)]; congr 1; omega) ?_
   refine cont_again (i + 1) (show (i + 1) ≤ Int.toNat ((cutR a b c d 0 0 W H).x1 - (cutR a b c d 0 0 W H).x0) from (by omega)) (show Int.toNat ((cutR a b c d 0 0 W H).x1 - (cutR a b c d 0 0 W H).x0) - (i + 1) < Int.toNat ((cutR a b c d 0 0 W H).x1 - (cutR a b c d 0 0 W H).x0) - i from by omega) (by kernel_rfl) (by kernel_rfl)
  replace c10_ := of_decide_eq_false c10_
  refine cont_false rfl ?_
  refine cont_exit ?_
  refine then_exit ?_
  refine then_exit ?_
  refine blk_exit ?_
  refine blk_normal ?_
  refine then_normal ?_
  refine cont_region 3 rfl ?_
  refine bS [0, 0] 2 1 [(0, .pointer (pB m)), (2, .int .u32 col), (4, .pointer (pB b1)), (24, iq (IntKind.i64.wrap (y + 1)))] ?_
  refine cont_recast 24 (iq (IntKind.i64.wrap (y + 1))) (iq (y + 1)) rfl (wrapI (by omega) (by omega)) ?_
  refine bS [0] 3 0 [(0, .pointer (pB m)), (2, .int .u32 col), (4, .pointer (pB b1)), (7, iq (y + 1))] ?_
  refine cont_done ?_
  refine then_normal ?_
  refine cont_rowEq (k := .u32) 2 (fillP W (fillP W px (cutR a b c d 0 0 W H).x0 (cutR a b c d 0 0 W H).y0 (cutR a b c d 0 0 W H).x1 y col) (cutR a b c d 0 0 W H).x0 y ((cutR a b c d 0 0 W H).x0 + (i : Int)) (y + 1) col) (fillP W px (cutR a b c d 0 0 W H).x0 (cutR a b c d 0 0 W H).y0 (cutR a b c d 0 0 W H).x1 (y + 1) col) rfl (by rw [show (cutR a b c d 0 0 W H).x0 + (i : Int) = (cutR a b c d 0 0 W H).x1 by omega]; exact fillP_row W px (cutR a b c d 0 0 W H).x0 (cutR a b c d 0 0 W H).y0 (cutR a b c d 0 0 W H).x1 y col (by omega)) ?_
  refine cont_again (y + 1) (show (cutR a b c d 0 0 W H).y0 ≤ (y + 1) ∧ (y + 1) ≤ (cutR a b c d 0 0 W H).y1 from ⟨by omega, by omega⟩) (show ((cutR a b c d 0 0 W H).y1 - (y + 1)).toNat < ((cutR a b c d 0 0 W H).y1 - y).toNat from by omega) (by kernel_rfl) (by kernel_rfl)
 replace c8_ := of_decide_eq_false c8_
 refine cont_false rfl ?_
 refine cont_exit ?_
 refine then_exit ?_
 refine then_exit ?_
 refine blk_exit ?_
 refine then_normal ?_
 refine cont_seq ?_
 refine cont_region 3 rfl ?_
 refine bS [0] 1 2 [(42, .agg #[iq ((cutR a b c d 0 0 W H).x0), iq ((cutR a b c d 0 0 W H).y0), iq ((cutR a b c d 0 0 W H).x1), iq ((cutR a b c d 0 0 W H).y1)])] ?_
 refine cont_forget 0 rfl ?_
 refine pl_step 2 1 rfl rfl ?_
 refine call_pure (d := 43) (iq (areaI ((cutR a b c d 0 0 W H).x0) ((cutR a b c d 0 0 W H).y0) ((cutR a b c d 0 0 W H).x1) ((cutR a b c d 0 0 W H).y1))) (by kernel_rfl) (fun w hT => rectArea ((cutR a b c d 0 0 W H).x0) ((cutR a b c d 0 0 W H).y0) ((cutR a b c d 0 0 W H).x1) ((cutR a b c d 0 0 W H).y1) w (by omega) (by omega) (by omega) (by omega)) ?_
 refine bS [0] 3 0 [(6, iq (areaI ((cutR a b c d 0 0 W H).x0) ((cutR a b c d 0 0 W H).y0) ((cutR a b c d 0 0 W H).x1) ((cutR a b c d 0 0 W H).y1)))] ?_
 refine cont_done ?_
 refine then_normal ?_
 refine cont_ret ?_
 refine ret_one (.inl rfl) rfl 0 (iq (areaI ((cutR a b c d 0 0 W H).x0) ((cutR a b c d 0 0 W H).y0) ((cutR a b c d 0 0 W H).x1) ((cutR a b c d 0 0 W H).y1))) (by kernel_rfl) (by kernel_rfl) (fun w hT => ?_)
 refine ⟨by simp [fillN, *], hT.keep 1 rfl rfl, ?_⟩
 have hR := hT.ok 1 _ rfl
 rw [show y = (cutR a b c d 0 0 W H).y1 by omega] at hR
 rw [fillA, if_pos ‹mayB col = true›]
 exact hR

end Go.Proofs.Ytommojgfkkoghaa
