/- Texts of this proof's own, put together: what each holds is told ahead of it. -/
import Derived.Test.YtommojgfkkoghaaPiG0
import Derived.Test.YtommojgfkkoghaaProg
import Derived.Maps.AppendAt
import Derived.Laws.CopyRow
/- Contracts of functions of the given program, printed by a program of this project. -/
set_option linter.unusedVariables false
set_option linter.unusedSimpArgs false
namespace Go.Proofs.Ytommojgfkkoghaa
open Go Go.RowKit
set_option maxRecDepth 100000
set_option maxHeartbeats 8000000

theorem imgBox (m : Nat) (W H : Int) (r n cap : Nat) (px : List Int) (w : World) (hI : ImgR 84 w m W H r n cap px) (hok : ImgOk W H n px) :
    Calls Try.prog 15 #[.pointer (some ⟨m, 0, none⟩)] w fun e w' => e = .returned (.agg #[.int .i64 0, .int .i64 0, .int .i64 W, .int .i64 H]) ∧ Below w.heap.size w w' := by
 refine enter 12 [(0, .pointer (pB m))] [.ro m [iq W, iq H, .slice (pB r) n cap] 84, .gen (rdE (pB r) r 0 n 1 (ivals .u32 px))] Try.func15 rfl Try.ntmps15 rfl (by kernel_rfl) hI.tab ?_
 refine cont_seq ?_
 refine cont_region 1 rfl ?_
 refine batch1 [0] 1 0 (fun b1 => [(0, .pointer (pB m)), (2, .pointer (pB b1))]) (fun b1 => [.cells b1 [iq 0, iq 0, iq 0, iq 0] 32 true, .ro m [iq W, iq H, .slice (pB r) n cap] 84, .gen (rdE (pB r) r 0 n 1 (ivals .u32 px))]) rfl rfl [0, 2] (fun _ => rfl) (fun b1 => by kernel_rfl) (fun b1 => by kernel_rfl) (fun b1 => ?_)
 refine cont_done ?_
 refine then_normal ?_
 refine cont_seq ?_
 refine drawn_enter 10 [0] rfl (by kernel_rfl) ?_
 refine takes 0 [0] [(0, 0), (4, 0), (1, 0), (5, 0), (2, 0), (6, 0), (3, 1), (7, 1), (8, 0)] 1 [8, 7, 3, 6, 2, 5, 1, 4, 0] [(2, .pointer (pB b1)), (11, .agg #[iq 0, iq 0, iq W, iq H])] (by kernel_rfl) (pok_then pok_body) (by kernel_rfl) rfl rfl (by kernel_rfl) (by kernel_rfl) ?_
 refine drawn_one 9 0 rfl (by kernel_rfl) ?_
 refine one_step 0 [(2, .pointer (pB b1))] [.cells b1 [iq 0, iq 0, iq W, iq H] 32 true, .ro m [iq W, iq H, .slice (pB r) n cap] 84, .gen (rdE (pB r) r 0 n 1 (ivals .u32 px))] (by kernel_rfl) (by kernel_rfl) ?_
 refine drawn_next 0 [0] (by kernel_rfl) ?_
 refine drawn_done (by kernel_rfl) ?_
 refine then_normal ?_
 refine cont_ret ?_
 refine ret_one (.inl rfl) rfl 0 (.agg #[iq 0, iq 0, iq W, iq H]) (by kernel_rfl) (by kernel_rfl) (fun w hT => ?_)
 exact ⟨rfl, hT.post rfl⟩

theorem imgAt (m : Nat) (W H : Int) (r n cap : Nat) (px : List Int) (x y : Int) (w : World) (hI : ImgR 84 w m W H r n cap px) (hok : ImgOk W H n px) :
    Calls Try.prog 14 #[.pointer (some ⟨m, 0, none⟩), .int .i64 x, .int .i64 y] w fun e w' => e = .returned (.tuple #[.int .u32 (atC W H px x y), .bool (hasB 0 0 W H x y)]) ∧ Below w.heap.size w w' := by
 have hw1 := hok.w1
 have hw2 := hok.w2
 have hh1 := hok.h1
 have hh2 := hok.h2
 have hnum := hok.num
 have hlen := hok.len
 have hle := hok.le
 have hcap := hI.cap
 refine enter 28 [(0, .pointer (pB m)), (1, iq x), (2, iq y)] [.ro m [iq W, iq H, .slice (pB r) n cap] 84, .gen (rdE (pB r) r 0 n 1 (ivals .u32 px))] Try.func14 rfl Try.ntmps14 rfl (by kernel_rfl) hI.tab ?_
 refine cont_seq ?_
 refine cont_region 2 rfl ?_
 refine bS [0, 0] 2 0 [(0, .pointer (pB m)), (1, iq x), (2, iq y)] ?_
 refine cont_done ?_
 refine then_normal ?_
 refine cont_seq ?_
 refine cont_seq ?_
 refine cont_region 6 rfl ?_
 refine bS [0] 1 5 [(0, .pointer (pB m)), (1, iq x), (2, iq y), (8, .pointer (pB m))] ?_
 refine pl_step 2 4 rfl rfl ?_
 refine call_pure (d := 9) (.agg #[iq 0, iq 0, iq W, iq H]) (by kernel_rfl) (fun w hT => imgBox m W H r n cap px  w ⟨hT.ok 0 _ rfl, hT.ok 1 _ rfl, by omega⟩ hok) ?_
 refine bS [0, 0] 4 2 [(0, .pointer (pB m)), (1, iq x), (2, iq y), (9, .agg #[iq 0, iq 0, iq W, iq H]), (10, iq x), (11, iq y)] ?_
 refine pl_step 5 1 rfl rfl ?_
 refine call_pure (d := 12) (.bool (hasB 0 0 W H x y)) (by kernel_rfl) (fun w hT => rectHas 0 0 W H x y w) ?_
 refine bS [0] 6 0 [(0, .pointer (pB m)), (1, iq x), (2, iq y), (13, .bool (!(hasB 0 0 W H x y)))] ?_
 refine cont_done ?_
 refine then_normal ?_
 refine cont_split 13 (!(hasB 0 0 W H x y)) rfl (fun c1_ => ?_) (fun c1_ => ?_)
 ·
  replace c1_ : (hasB 0 0 W H x y) = false := by simpa using c1_
  refine cont_true rfl ?_
  refine cont_seq ?_
  refine cont_region 2 rfl ?_
  refine bS [0, 0] 2 0 [(6, .int .u32 0), (7, .bool false)] ?_
  refine cont_done ?_
  refine then_normal ?_
  refine cont_ret ?_
  refine then_ret ?_
  refine ret_two (.inl rfl) rfl 0 0 (.int .u32 0) (.bool false) (by kernel_rfl) (by kernel_rfl) (by kernel_rfl) (by kernel_rfl) (fun w hT => ?_)
  exact ⟨by simp [atC, *], hT.post rfl⟩
 replace c1_ : (hasB 0 0 W H x y) = true := by simpa using c1_
 obtain ⟨hx0, hx1, hy0, hy1⟩ := hasB_true.1 c1_
 have hpl := hok.place hx0 hx1 hy0 hy1
 refine cont_false rfl ?_
 refine cont_skip ?_
 refine then_normal ?_
 refine cont_seq ?_
 refine drawn_enter 16 [] rfl (by kernel_rfl) ?_
 refine takes 0 [] [(0, 0), (4, 0), (5, 0), (10, 0), (1, 0), (6, 0), (2, 0), (7, 0), (3, 0), (8, 0), (9, 0)] 5 [9, 8, 3, 7, 2, 6, 1, 10, 5, 4, 0] [(17, .slice (pB r) n cap), (23, iq (IntKind.i64.wrap (y * W))), (24, iq x)] (by kernel_rfl) (pok_then pok_body) (by kernel_rfl) rfl rfl (by kernel_rfl) (by kernel_rfl) ?_
 refine cont_recast 23 (iq (IntKind.i64.wrap (y * W))) (iq (y * W)) rfl (wrapI (by omega) (by omega)) ?_
 refine takes 0 [] [(11, 0)] 4 [11, 9, 8, 3, 7, 2, 6, 1, 10, 5, 4, 0] [(17, .slice (pB r) n cap), (25, iq (IntKind.i64.wrap ((y * W) + x)))] (by kernel_rfl) (pok_then pok_body) (by kernel_rfl) rfl rfl (by kernel_rfl) (by kernel_rfl) ?_
 refine cont_recast 25 (iq (IntKind.i64.wrap ((y * W) + x))) (iq ((y * W) + x)) rfl (wrapI (by omega) (by omega)) ?_
 refine sem_take 0 [] 12 3 26 (Instr.indexAt 35 (.slice (pB r) n cap) (iq ((y * W) + x))) (.pointer (some ⟨r, Int.toNat ((y * W) + x), none⟩)) (by kernel_rfl) (pok_then pok_body) (by kernel_rfl) rfl (by kernel_rfl) (by kernel_rfl) (fun w hT => run_indexAt (e := 28) (sz := 1) _ (by kernel_rfl) (by kernel_rfl) (by omega) (by omega) (by omega) w) ?_
 refine sem_take 0 [] 13 2 27 (Instr.loadAt 28 (.pointer (some ⟨r, Int.toNat ((y * W) + x), none⟩))) (.int .u32 (px.getD (Int.toNat ((y * W) + x)) 0)) (by kernel_rfl) (pok_then pok_body) (by kernel_rfl) rfl (by kernel_rfl) (by kernel_rfl) (fun w hT => run_load1 (by kernel_rfl) (Rd.cell0 (hT 1 _ rfl) (Int.toNat ((y * W) + x)) _ (ivals_get (by omega)))) ?_
 refine takes 0 [] [(14, 0), (15, 0)] 0 [15, 14, 13, 12, 11, 9, 8, 3, 7, 2, 6, 1, 10, 5, 4, 0] [(6, .int .u32 (px.getD (Int.toNat ((y * W) + x)) 0)), (7, .bool true)] (by kernel_rfl) (pok_then pok_body) (by kernel_rfl) rfl rfl (by kernel_rfl) (by kernel_rfl) ?_
 refine drawn_done (by kernel_rfl) ?_
 refine then_normal ?_
 refine cont_ret ?_
 refine ret_two (.inl rfl) rfl 0 0 (.int .u32 (px.getD (Int.toNat ((y * W) + x)) 0)) (.bool true) (by kernel_rfl) (by kernel_rfl) (by kernel_rfl) (by kernel_rfl) (fun w hT => ?_)
 exact ⟨by simp [atC, *], hT.post rfl⟩

theorem imgNew (W H : Int) (w : World) (hgood : 1 ≤ W ∧ W ≤ 256 ∧ 1 ≤ H ∧ H ≤ 256) :
    Calls Try.prog 12 #[.int .i64 W, .int .i64 H] w fun e w' => ∃ (b r n : Nat), e = .returned (.tuple #[.pointer (some ⟨b, 0, none⟩), .int .i64 0]) ∧ (n : Int) = W * H ∧ NewImg 84 28 w w' b W H r n n (List.replicate n 0) := by
 have hm : W * H ≤ 256 * 256 := mul_le_of (by omega) (by omega) (by omega) (by omega)
 have hm0 : 0 ≤ W * H := Int.mul_nonneg (by omega) (by omega)
 obtain ⟨n, hn⟩ : ∃ n : Nat, (n : Int) = W * H := ⟨(W * H).toNat, by omega⟩
 refine enter 24 [(0, iq W), (1, iq H)] [] Try.func12 rfl Try.ntmps12 rfl (by kernel_rfl) (Tab.start w) ?_
 refine cont_seq ?_
 refine cont_region 2 rfl ?_
 refine bS [0, 0] 2 0 [(0, iq W), (1, iq H)] ?_
 refine cont_done ?_
 refine then_normal ?_
 refine cont_seq ?_
 refine cont_seq ?_
 refine cont_region 10 rfl ?_
 refine bS [0, 0, 0, 0, 0] 5 5 [(0, iq W), (1, iq H), (10, .bool (decide ((mn W H) < 1)))] ?_
 refine cont_split 10 (decide ((mn W H) < 1)) rfl (fun c1_ => ?_) (fun c1_ => ?_)
 ·
  replace c1_ := of_decide_eq_true c1_
  exfalso; unfold mn at *; omega
 replace c1_ := of_decide_eq_false c1_
 refine bS [0, 0, 0, 0, 0] 10 0 [(0, iq W), (1, iq H), (15, .bool (decide ((mx W H) > 256)))] ?_
 refine cont_done ?_
 refine then_normal ?_
 refine cont_split 15 (decide ((mx W H) > 256)) rfl (fun c2_ => ?_) (fun c2_ => ?_)
 ·
  replace c2_ := of_decide_eq_true c2_
  exfalso; unfold mx at *; omega
 replace c2_ := of_decide_eq_false c2_
 refine cont_false rfl ?_
 refine cont_skip ?_
 refine then_normal ?_
 refine cont_seq ?_
 refine cont_region 10 rfl ?_
 refine bS [0, 0, 0, 0, 0] 5 5 [(16, iq W), (17, iq H), (20, iq (IntKind.i64.wrap (W * H)))] ?_
 refine cont_recast 20 (iq (IntKind.i64.wrap (W * H))) (iq (n : Int)) rfl (by rw [hn]; exact wrapI (by omega) (by omega)) ?_
 refine pl_step 6 4 rfl rfl ?_
 refine sem_stepW 21 (Instr.makeSlice 35 (iq (n : Int)) (iq (n : Int))) (fun r3 => .slice (pB r3) n n) (fun r3 => [.gen (rowE (pB r3) r3 n n 28 1 (ivals .u32 (List.replicate n 0)) true)]) (fun _ => True) (by kernel_rfl) (fun w hT => make_row hT (bytes := 4) n (by kernel_rfl) (by kernel_rfl) (by omega) (by omega)) (fun r3 _ => ?_)
 refine batch1 [0, 0, 0, 0] 10 0 (fun b4 => [(4, .pointer (pB b4)), (5, iq 0)]) (fun b4 => [.cells b4 [iq W, iq H, .slice (pB r3) n n] 84 true, .gen (rowE (pB r3) r3 n n 28 1 (ivals .u32 (List.replicate n 0)) true)]) rfl rfl [4, 5] (fun _ => rfl) (fun b4 => by kernel_rfl) (fun b4 => by kernel_rfl) (fun b4 => ?_)
 refine cont_done ?_
 refine then_normal ?_
 refine cont_ret ?_
 refine ret_two (.inl rfl) rfl 0 0 (.pointer (pB b4)) (iq 0) (by kernel_rfl) (by kernel_rfl) (by kernel_rfl) (by kernel_rfl) (fun w hT => ?_)
 exact ⟨_, _, n, rfl, hn, newImg_of_tab hT⟩

theorem imgRow (m : Nat) (W H : Int) (r n cap : Nat) (px : List Int) (y x0 x1 : Int) (w : World) (hI : ImgR 84 w m W H r n cap px) (hok : ImgOk W H n px) (hin : 0 ≤ y ∧ y < H ∧ 0 ≤ x0 ∧ x0 ≤ x1 ∧ x1 ≤ W) :
    Calls Try.prog 47 #[.pointer (some ⟨m, 0, none⟩), .int .i64 y, .int .i64 x0, .int .i64 x1] w fun e w' => e = .returned (.slice (sliceA r 0 (Int.toNat (y * W + x0)) cap 1) (Int.toNat (y * W + x1) - Int.toNat (y * W + x0)) (cap - Int.toNat (y * W + x0))) ∧ Below w.heap.size w w' := by
 have hw1 := hok.w1
 have hw2 := hok.w2
 have hh1 := hok.h1
 have hh2 := hok.h2
 have hnum := hok.num
 have hlen := hok.len
 have hle := hok.le
 have hcap := hI.cap
 have hp0 := hok.place (x := 0) (y := y) (by omega) (by omega) (by omega) (by omega)
 have hp1 := hok.place (x := W - 1) (y := y) (by omega) (by omega) (by omega) (by omega)
 refine enter 30 [(0, .pointer (pB m)), (1, iq y), (2, iq x0), (3, iq x1)] [.ro m [iq W, iq H, .slice (pB r) n cap] 84, .gen (rdE (pB r) r 0 n 1 (ivals .u32 px))] Try.func47 rfl Try.ntmps47 rfl (by kernel_rfl) hI.tab ?_
 refine cont_seq ?_
 refine cont_region 1 rfl ?_
 refine bS [0] 1 0 [(0, .pointer (pB m)), (1, iq y), (2, iq x0), (3, iq x1)] ?_
 refine cont_done ?_
 refine then_normal ?_
 refine cont_seq ?_
 refine drawn_enter 22 [] rfl (by kernel_rfl) ?_
 refine takes 0 [] [(0, 0), (4, 0), (5, 0), (10, 0), (12, 0), (13, 0), (18, 0), (1, 0), (6, 0), (14, 0), (2, 0), (7, 0), (15, 0), (3, 0), (8, 0), (16, 0), (9, 0)] 5 [9, 16, 8, 3, 15, 7, 2, 14, 6, 1, 18, 13, 12, 10, 5, 4, 0] [(12, .slice (pB r) n cap), (18, iq (IntKind.i64.wrap (y * W))), (19, iq x0), (21, iq y), (25, iq W), (27, iq x1)] (by kernel_rfl) (pok_then pok_body) (by kernel_rfl) rfl rfl (by kernel_rfl) (by kernel_rfl) ?_
 refine cont_recast 18 (iq (IntKind.i64.wrap (y * W))) (iq (y * W)) rfl (wrapI (by omega) (by omega)) ?_
 refine takes 0 [] [(11, 0)] 4 [11, 9, 16, 8, 3, 15, 7, 2, 14, 6, 1, 18, 13, 12, 10, 5, 4, 0] [(12, .slice (pB r) n cap), (20, iq (IntKind.i64.wrap ((y * W) + x0))), (21, iq y), (25, iq W), (27, iq x1)] (by kernel_rfl) (pok_then pok_body) (by kernel_rfl) rfl rfl (by kernel_rfl) (by kernel_rfl) ?_
 refine cont_recast 20 (iq (IntKind.i64.wrap ((y * W) + x0))) (iq ((y * W) + x0)) rfl (wrapI (by omega) (by omega)) ?_
 refine takes 0 [] [(17, 0)] 3 [17, 11, 9, 16, 8, 3, 15, 7, 2, 14, 6, 1, 18, 13, 12, 10, 5, 4, 0] [(12, .slice (pB r) n cap), (20, iq ((y * W) + x0)), (26, iq (IntKind.i64.wrap (y * W))), (27, iq x1)] (by kernel_rfl) (pok_then pok_body) (by kernel_rfl) rfl rfl (by kernel_rfl) (by kernel_rfl) ?_
 refine cont_recast 26 (iq (IntKind.i64.wrap (y * W))) (iq (y * W)) rfl (wrapI (by omega) (by omega)) ?_
 refine takes 0 [] [(19, 0)] 2 [19, 17, 11, 9, 16, 8, 3, 15, 7, 2, 14, 6, 1, 18, 13, 12, 10, 5, 4, 0] [(12, .slice (pB r) n cap), (20, iq ((y * W) + x0)), (28, iq (IntKind.i64.wrap ((y * W) + x1)))] (by kernel_rfl) (pok_then pok_body) (by kernel_rfl) rfl rfl (by kernel_rfl) (by kernel_rfl) ?_
 refine cont_recast 28 (iq (IntKind.i64.wrap ((y * W) + x1))) (iq ((y * W) + x1)) rfl (wrapI (by omega) (by omega)) ?_
 refine sem_take 0 [] 20 1 29 (Instr.sliceAt 35 (.slice (pB r) n cap) (some (iq ((y * W) + x0))) (some (iq ((y * W) + x1))) none) (.slice (sliceA r 0 (Int.toNat ((y * W) + x0)) cap 1) ((Int.toNat ((y * W) + x1)) - (Int.toNat ((y * W) + x0))) (cap - (Int.toNat ((y * W) + x0)))) (by kernel_rfl) (pok_then pok_body) (by kernel_rfl) rfl (by kernel_rfl) (by kernel_rfl) (fun w hT => run_slice2 (e := 28) (sz := 1) _ _ (by kernel_rfl) (by kernel_rfl) (by omega) (by omega) (by omega) (by omega) (by omega) w) ?_
 refine takes 0 [] [(21, 0)] 0 [21, 20, 19, 17, 11, 9, 16, 8, 3, 15, 7, 2, 14, 6, 1, 18, 13, 12, 10, 5, 4, 0] [(8, .slice (sliceA r 0 (Int.toNat ((y * W) + x0)) cap 1) ((Int.toNat ((y * W) + x1)) - (Int.toNat ((y * W) + x0))) (cap - (Int.toNat ((y * W) + x0))))] (by kernel_rfl) (pok_then pok_body) (by kernel_rfl) rfl rfl (by kernel_rfl) (by kernel_rfl) ?_
 refine drawn_done (by kernel_rfl) ?_
 refine then_normal ?_
 refine cont_ret ?_
 refine ret_one (.inl rfl) rfl 0 (.slice (sliceA r 0 (Int.toNat ((y * W) + x0)) cap 1) ((Int.toNat ((y * W) + x1)) - (Int.toNat ((y * W) + x0))) (cap - (Int.toNat ((y * W) + x0)))) (by kernel_rfl) (by kernel_rfl) (fun w hT => ?_)
 exact ⟨rfl, hT.post rfl⟩

theorem imgFill (m : Nat) (W H : Int) (r n cap : Nat) (px : List Int) (a b c d col : Int) (w : World) (hI : Img 84 28 w m W H r n cap px) (hok : ImgOk W H n px) (hc : InC col) :
    Calls Try.prog 30 #[.pointer (some ⟨m, 0, none⟩), .agg #[.int .i64 a, .int .i64 b, .int .i64 c, .int .i64 d], .int .u32 col] w fun e w' => e = .returned (.int .i64 (fillN W H a b c d col)) ∧ KeepBut w w' r ∧ Row w' (some ⟨r, 0, none⟩) r n cap 28 1 (ivals .u32 (fillA W H px a b c d col)) := by
 have hw1 := hok.w1
 have hw2 := hok.w2
 have hh1 := hok.h1
 have hh2 := hok.h2
 have hnum := hok.num
 have hlen := hok.len
 have hle := hok.le
 have hcap := hI.row.capLe
 obtain ⟨hc0, hc1⟩ := hc
 obtain ⟨hq1, hq2, hq3, hq4, hq5, hq6⟩ := cut_in a b c d (W := W) (H := H) (by omega) (by omega)
 refine enter 44 [(0, .pointer (pB m)), (1, .agg #[iq a, iq b, iq c, iq d]), (2, .int .u32 col)] [.ro m [iq W, iq H, .slice (pB r) n cap] 84, .gen (rowE (pB r) r n cap 28 1 (ivals .u32 px) false)] Try.func30 rfl Try.ntmps30 rfl (by kernel_rfl) hI.tabRw ?_
 refine cont_seq ?_
 refine cont_region 2 rfl ?_
 refine batch1 [0, 0] 2 0 (fun b1 => [(0, .pointer (pB m)), (2, .int .u32 col), (4, .pointer (pB b1))]) (fun b1 => [.cells b1 [iq a, iq b, iq c, iq d] 32 true, .ro m [iq W, iq H, .slice (pB r) n cap] 84, .gen (rowE (pB r) r n cap 28 1 (ivals .u32 px) false)]) rfl rfl [0, 2, 4] (fun _ => rfl) (fun b1 => by kernel_rfl) (fun b1 => by kernel_rfl) (fun b1 => ?_)
 refine cont_done ?_
 refine then_normal ?_
 refine cont_seq ?_
 refine cont_seq ?_
 refine cont_region 3 rfl ?_
 refine bS [0] 1 2 [(0, .pointer (pB m)), (2, .int .u32 col), (4, .pointer (pB b1)), (10, .int .u32 col)] ?_
 refine pl_step 2 1 rfl rfl ?_
 refine call_pure (d := 11) (.bool (mayB col)) (by kernel_rfl) (fun w hT => colorMay col w (by omega) (by omega)) ?_
 refine bS [0] 3 0 [(0, .pointer (pB m)), (2, .int .u32 col), (4, .pointer (pB b1)), (12, .bool (!(mayB col)))] ?_
 refine cont_done ?_
 refine then_normal ?_
 refine cont_split 12 (!(mayB col)) rfl (fun c2_ => ?_) (fun c2_ => ?_)
 ·
  replace c2_ : (mayB col) = false := by simpa using c2_
  refine cont_true rfl ?_
  refine cont_seq ?_
  refine cont_region 1 rfl ?_
  refine bS [0] 1 0 [(6, iq 0)] ?_
  refine cont_forget 0 rfl ?_
  refine cont_done ?_
  refine then_normal ?_
  refine cont_ret ?_
  refine then_ret ?_
  refine ret_one (.inl rfl) rfl 0 (iq 0) (by kernel_rfl) (by kernel_rfl) (fun w hT => ?_)
  refine ⟨by simp [fillN, *], hT.keep 1 rfl rfl, ?_⟩
  have hR := hT.ok 1 _ rfl
  rw [fillA, if_neg (by simp [*])]
  exact hR
 replace c2_ : (mayB col) = true := by simpa using c2_
 refine cont_false rfl ?_
 refine cont_skip ?_
 refine then_normal ?_
 refine cont_seq ?_
 refine drawn_enter 5 [0] rfl (by kernel_rfl) ?_
 refine takes 0 [0] [(1, 0)] 4 [1] [(0, .pointer (pB m)), (2, .int .u32 col), (4, .pointer (pB b1)), (14, .pointer (pB m))] (by kernel_rfl) (pok_then pok_body) (by kernel_rfl) rfl rfl (by kernel_rfl) (by kernel_rfl) ?_
 refine drawn_two 0 2 3 rfl (by kernel_rfl) ?_ ?_
 ·
  refine one_step 0 [(0, .pointer (pB m)), (2, .int .u32 col), (4, .pointer (pB b1)), (13, .agg #[iq a, iq b, iq c, iq d]), (14, .pointer (pB m))] [.cells b1 [iq a, iq b, iq c, iq d] 32 true, .ro m [iq W, iq H, .slice (pB r) n cap] 84, .gen (rowE (pB r) r n cap 28 1 (ivals .u32 px) false)] (by kernel_rfl) (by kernel_rfl) ?_
  refine drawn_next 0 [0] (by kernel_rfl) ?_
  refine drawn_one 2 2 rfl (by kernel_rfl) ?_
  refine call_pure (d := 15) (.agg #[iq 0, iq 0, iq W, iq H]) (by kernel_rfl) (fun w hT => imgBox m W H r n cap px  w ⟨hT.ok 1 _ rfl, Row.rd (hT.ok 2 _ rfl), Row.capLe (hT.ok 2 _ rfl)⟩ hok) ?_
  refine drawn_next 0 [0] (by kernel_rfl) ?_
  refine drawn_one 3 1 rfl (by kernel_rfl) ?_
  refine call_pure (d := 16) (.agg #[iq ((cutR a b c d 0 0 W H).x0), iq ((cutR a b c d 0 0 W H).y0), iq ((cutR a b c d 0 0 W H).x1), iq ((cutR a b c d 0 0 W H).y1)]) (by kernel_rfl) (fun w hT => rectCut a b c d 0 0 W H w) ?_
  refine drawn_next 0 [0] (by kernel_rfl) ?_
  refine drawn_one 4 0 rfl (by kernel_rfl) ?_
  refine one_step 0 [(0, .pointer (pB m)), (2, .int .u32 col), (4, .pointer (pB b1))] [.cells b1 [iq ((cutR a b c d 0 0 W H).x0), iq ((cutR a b c d 0 0 W H).y0), iq ((cutR a b c d 0 0 W H).x1), iq ((cutR a b c d 0 0 W H).y1)] 32 true, .ro m [iq W, iq H, .slice (pB r) n cap] 84, .gen (rowE (pB r) r n cap 28 1 (ivals .u32 px) false)] (by kernel_rfl) (by kernel_rfl) ?_
  refine drawn_next 0 [0] (by kernel_rfl) ?_
  refine drawn_done (by kernel_rfl) ?_
  refine then_normal ?_
  refine cont_seq ?_
  refine cont_seq ?_
  refine cont_region 3 rfl ?_
  refine bS [0, 0, 0] 3 0 [(0, .pointer (pB m)), (2, .int .u32 col), (4, .pointer (pB b1)), (7, iq ((cutR a b c d 0 0 W H).y0))] ?_
  refine cont_done ?_
  refine then_normal ?_
  refine cont_block ?_
  refine cont_rowEq (k := .u32) 2 (px) (fillP W px (cutR a b c d 0 0 W H).x0 (cutR a b c d 0 0 W H).y0 (cutR a b c d 0 0 W H).x1 (cutR a b c d 0 0 W H).y0 col) rfl ((fillP_none W px _ _ _ _ col (.inr (by omega))).symm) ?_
  refine cont_loop (α := Int) (fun x_ : Int => (cutR a b c d 0 0 W H).y0 ≤ x_ ∧ x_ ≤ (cutR a b c d 0 0 W H).y1) (fun x_ : Int => [(0, .pointer (pB m)), (2, .int .u32 col), (4, .pointer (pB b1)), (7, iq x_)]) (fun x_ : Int => [.cells b1 [iq ((cutR a b c d 0 0 W H).x0), iq ((cutR a b c d 0 0 W H).y0), iq ((cutR a b c d 0 0 W H).x1), iq ((cutR a b c d 0 0 W H).y1)] 32 true, .ro m [iq W, iq H, .slice (pB r) n cap] 84, .gen (rowE (pB r) r n cap 28 1 (ivals .u32 (fillP W px (cutR a b c d 0 0 W H).x0 (cutR a b c d 0 0 W H).y0 (cutR a b c d 0 0 W H).x1 x_ col)) false)]) (fun x_ : Int => ((cutR a b c d 0 0 W H).y1 - x_).toNat) ((cutR a b c d 0 0 W H).y0) (⟨by omega, by omega⟩) (by kernel_rfl) (by kernel_rfl) ?_
  rintro y hinv3_
  replace hinv3_ : (cutR a b c d 0 0 W H).y0 ≤ y ∧ y ≤ (cutR a b c d 0 0 W H).y1 := hinv3_
  refine cont_norm [(0, .pointer (pB m)), (2, .int .u32 col), (4, .pointer (pB b1)), (7, iq y)] _ (by kernel_rfl) rfl ?_
  obtain ⟨hy0, hy1⟩ := hinv3_
  refine cont_seq ?_
  refine cont_seq ?_
  refine cont_region 4 rfl ?_
  refine bS [0, 0, 0, 0] 4 0 [(0, .pointer (pB m)), (2, .int .u32 col), (4, .pointer (pB b1)), (7, iq y), (22, .bool (decide (y < ((cutR a b c d 0 0 W H).y1))))] ?_
  refine cont_done ?_
  refine then_normal ?_
  refine cont_split 22 (decide (y < ((cutR a b c d 0 0 W H).y1))) rfl (fun c4_ => ?_) (fun c4_ => ?_)
  ·
   replace c4_ := of_decide_eq_true c4_
   refine cont_true rfl ?_
   refine cont_skip ?_
   refine then_normal ?_
   refine cont_seq ?_
   refine cont_block ?_
   refine cont_seq ?_
   refine cont_region 8 rfl ?_
   have hp0 := hok.place (x := 0) (y := y) (by omega) (by omega) (by omega) (by omega)
   have hp1 := hok.place (x := W - 1) (y := y) (by omega) (by omega) (by omega) (by omega)
   refine bS [0, 0, 0, 0, 0, 0] 6 2 [(0, .pointer (pB m)), (2, .int .u32 col), (4, .pointer (pB b1)), (7, iq y), (25, .pointer (pB m)), (26, iq y), (28, iq ((cutR a b c d 0 0 W H).x0)), (30, iq ((cutR a b c d 0 0 W H).x1))] ?_
   refine pl_step 7 1 rfl rfl ?_
   refine call_pure (d := 31) (.slice (sliceA r 0 (Int.toNat (y * W + ((cutR a b c d 0 0 W H).x0))) cap 1) (Int.toNat (y * W + ((cutR a b c d 0 0 W H).x1)) - Int.toNat (y * W + ((cutR a b c d 0 0 W H).x0))) (cap - Int.toNat (y * W + ((cutR a b c d 0 0 W H).x0)))) (by kernel_rfl) (fun w hT => imgRow m W H r n cap (fillP W px (cutR a b c d 0 0 W H).x0 (cutR a b c d 0 0 W H).y0 (cutR a b c d 0 0 W H).x1 y col) y ((cutR a b c d 0 0 W H).x0) ((cutR a b c d 0 0 W H).x1) w ⟨hT.ok 1 _ rfl, Row.rd (hT.ok 2 _ rfl), Row.capLe (hT.ok 2 _ rfl)⟩ (hok.fill _ _ _ _ ⟨hc0, hc1⟩) (by omega)) ?_
   refine bS [0] 8 0 [(0, .pointer (pB m)), (2, .int .u32 col), (4, .pointer (pB b1)), (7, iq y), (8, .slice (sliceA r 0 (Int.toNat (y * W + ((cutR a b c d 0 0 W H).x0))) cap 1) (Int.toNat (y * W + ((cutR a b c d 0 0 W H).x1)) - Int.toNat (y * W + ((cutR a b c d 0 0 W H).x0))) (cap - Int.toNat (y * W + ((cutR a b c d 0 0 W H).x0))))] ?_
   refine cont_done ?_
   refine then_normal ?_
   refine cont_seq ?_
   refine cont_region 3 rfl ?_
   refine bS [0, 0, 0] 3 0 [(0, .pointer (pB m)), (2, .int .u32 col), (4, .pointer (pB b1)), (7, iq y), (8, .slice (sliceA r 0 (Int.toNat (y * W + ((cutR a b c d 0 0 W H).x0))) cap 1) (Int.toNat (y * W + ((cutR a b c d 0 0 W H).x1)) - Int.toNat (y * W + ((cutR a b c d 0 0 W H).x0))) (cap - Int.toNat (y * W + ((cutR a b c d 0 0 W H).x0)))), (33, iq (((Int.toNat (y * W + ((cutR a b c d 0 0 W H).x1)) - Int.toNat (y * W + ((cutR a b c d 0 0 W H).x0))) : Nat) : Int)), (34, iq 0)] ?_
   refine cont_done ?_
   refine then_normal ?_
   refine cont_block ?_
   refine cont_rowEq (k := .u32) 2 (fillP W px (cutR a b c d 0 0 W H).x0 (cutR a b c d 0 0 W H).y0 (cutR a b c d 0 0 W H).x1 y col) (fillP W (fillP W px (cutR a b c d 0 0 W H).x0 (cutR a b c d 0 0 W H).y0 (cutR a b c d 0 0 W H).x1 y col) (cutR a b c d 0 0 W H).x0 y ((cutR a b c d 0 0 W H).x0 + ((0 : Nat) : Int)) (y + 1) col) rfl ((fillP_none W _ _ _ _ _ col (.inl (by omega))).symm) ?_
   refine cont_loop (α := Nat) (fun x_ : Nat => x_ ≤ Int.toNat ((cutR a b c d 0 0 W H).x1 - (cutR a b c d 0 0 W H).x0)) (fun x_ : Nat => [(0, .pointer (pB m)), (2, .int .u32 col), (4, .pointer (pB b1)), (7, iq y), (8, .slice (sliceA r 0 (Int.toNat (y * W + ((cutR a b c d 0 0 W H).x0))) cap 1) (Int.toNat (y * W + ((cutR a b c d 0 0 W H).x1)) - Int.toNat (y * W + ((cutR a b c d 0 0 W H).x0))) (cap - Int.toNat (y * W + ((cutR a b c d 0 0 W H).x0)))), (33, iq (((Int.toNat (y * W + ((cutR a b c d 0 0 W H).x1)) - Int.toNat (y * W + ((cutR a b c d 0 0 W H).x0))) : Nat) : Int)), (34, iq (x_ : Int))]) (fun x_ : Nat => [.cells b1 [iq ((cutR a b c d 0 0 W H).x0), iq ((cutR a b c d 0 0 W H).y0), iq ((cutR a b c d 0 0 W H).x1), iq ((cutR a b c d 0 0 W H).y1)] 32 true, .ro m [iq W, iq H, .slice (pB r) n cap] 84, .gen (rowE (pB r) r n cap 28 1 (ivals .u32 (fillP W (fillP W px (cutR a b c d 0 0 W H).x0 (cutR a b c d 0 0 W H).y0 (cutR a b c d 0 0 W H).x1 y col) (cutR a b c d 0 0 W H).x0 y ((cutR a b c d 0 0 W H).x0 + (x_ : Int)) (y + 1) col)) false)]) (fun x_ : Nat => Int.toNat ((cutR a b c d 0 0 W H).x1 - (cutR a b c d 0 0 W H).x0) - x_) 0 (by omega) (by kernel_rfl) (by kernel_rfl) ?_
   rintro i hinv5_
   replace hinv5_ : i ≤ Int.toNat ((cutR a b c d 0 0 W H).x1 - (cutR a b c d 0 0 W H).x0) := hinv5_
   refine cont_norm [(0, .pointer (pB m)), (2, .int .u32 col), (4, .pointer (pB b1)), (7, iq y), (8, .slice (sliceA r 0 (Int.toNat (y * W + ((cutR a b c d 0 0 W H).x0))) cap 1) (Int.toNat (y * W + ((cutR a b c d 0 0 W H).x1)) - Int.toNat (y * W + ((cutR a b c d 0 0 W H).x0))) (cap - Int.toNat (y * W + ((cutR a b c d 0 0 W H).x0)))), (33, iq (((Int.toNat (y * W + ((cutR a b c d 0 0 W H).x1)) - Int.toNat (y * W + ((cutR a b c d 0 0 W H).x0))) : Nat) : Int)), (34, iq (i : Int))] _ (by kernel_rfl) rfl ?_
   refine cont_seq ?_
   refine cont_region 1 rfl ?_
   refine bS [0] 1 0 [(0, .pointer (pB m)), (2, .int .u32 col), (4, .pointer (pB b1)), (7, iq y), (8, .slice (sliceA r 0 (Int.toNat (y * W + ((cutR a b c d 0 0 W H).x0))) cap 1) (Int.toNat (y * W + ((cutR a b c d 0 0 W H).x1)) - Int.toNat (y * W + ((cutR a b c d 0 0 W H).x0))) (cap - Int.toNat (y * W + ((cutR a b c d 0 0 W H).x0)))), (33, iq (((Int.toNat (y * W + ((cutR a b c d 0 0 W H).x1)) - Int.toNat (y * W + ((cutR a b c d 0 0 W H).x0))) : Nat) : Int)), (34, iq (i : Int)), (35, .bool (decide ((i : Int) < (((Int.toNat (y * W + ((cutR a b c d 0 0 W H).x1)) - Int.toNat (y * W + ((cutR a b c d 0 0 W H).x0))) : Nat) : Int))))] ?_
   refine cont_done ?_
   refine then_normal ?_
   refine cont_seq ?_
   refine cont_split 35 (decide ((i : Int) < (((Int.toNat (y * W + ((cutR a b c d 0 0 W H).x1)) - Int.toNat (y * W + ((cutR a b c d 0 0 W H).x0))) : Nat) : Int))) rfl (fun c6_ => ?_) (fun c6_ => ?_)
   ·
    replace c6_ := of_decide_eq_true c6_
    refine cont_true rfl ?_
    refine cont_skip ?_
    refine then_normal ?_
    refine cont_seq ?_
    refine cont_block ?_
    refine cont_seq ?_
    refine cont_region 2 rfl ?_
    refine bS [0, 0] 2 0 [(0, .pointer (pB m)), (2, .int .u32 col), (4, .pointer (pB b1)), (7, iq y), (8, .slice (sliceA r 0 (Int.toNat (y * W + ((cutR a b c d 0 0 W H).x0))) cap 1) (Int.toNat (y * W + ((cutR a b c d 0 0 W H).x1)) - Int.toNat (y * W + ((cutR a b c d 0 0 W H).x0))) (cap - Int.toNat (y * W + ((cutR a b c d 0 0 W H).x0)))), (9, iq (i : Int)), (33, iq (((Int.toNat (y * W + ((cutR a b c d 0 0 W H).x1)) - Int.toNat (y * W + ((cutR a b c d 0 0 W H).x0))) : Nat) : Int)), (34, iq (i : Int))] ?_
    refine cont_done ?_
    refine then_normal ?_
    refine cont_region 5 rfl ?_
    refine bS [0, 0, 0] 3 2 [(0, .pointer (pB m)), (2, .int .u32 col), (4, .pointer (pB b1)), (7, iq y), (8, .slice (sliceA r 0 (Int.toNat (y * W + ((cutR a b c d 0 0 W H).x0))) cap 1) (Int.toNat (y * W + ((cutR a b c d 0 0 W H).x1)) - Int.toNat (y * W + ((cutR a b c d 0 0 W H).x0))) (cap - Int.toNat (y * W + ((cutR a b c d 0 0 W H).x0)))), (33, iq (((Int.toNat (y * W + ((cutR a b c d 0 0 W H).x1)) - Int.toNat (y * W + ((cutR a b c d 0 0 W H).x0))) : Nat) : Int)), (34, iq (i : Int)), (37, .slice (sliceA r 0 (Int.toNat (y * W + ((cutR a b c d 0 0 W H).x0))) cap 1) (Int.toNat (y * W + ((cutR a b c d 0 0 W H).x1)) - Int.toNat (y * W + ((cutR a b c d 0 0 W H).x0))) (cap - Int.toNat (y * W + ((cutR a b c d 0 0 W H).x0)))), (38, iq (i : Int)), (39, .int .u32 col)] ?_
    refine pl_step 4 1 rfl rfl ?_
    refine cont_recast 37 (.slice (sliceA r 0 (Int.toNat (y * W + ((cutR a b c d 0 0 W H).x0))) cap 1) (Int.toNat (y * W + ((cutR a b c d 0 0 W H).x1)) - Int.toNat (y * W + ((cutR a b c d 0 0 W H).x0))) (cap - Int.toNat (y * W + ((cutR a b c d 0 0 W H).x0)))) (.slice (some ⟨r, 0 + (Int.toNat (y * W + ((cutR a b c d 0 0 W H).x0))) * 1, none⟩) (Int.toNat (y * W + ((cutR a b c d 0 0 W H).x1)) - Int.toNat (y * W + ((cutR a b c d 0 0 W H).x0))) (cap - Int.toNat (y * W + ((cutR a b c d 0 0 W H).x0)))) rfl (by rw [sliceA_pos (by omega)]) ?_
    refine sem_step 40 (Instr.indexAt 35 (.slice (some ⟨r, 0 + (Int.toNat (y * W + ((cutR a b c d 0 0 W H).x0))) * 1, none⟩) (Int.toNat (y * W + ((cutR a b c d 0 0 W H).x1)) - Int.toNat (y * W + ((cutR a b c d 0 0 W H).x0))) (cap - Int.toNat (y * W + ((cutR a b c d 0 0 W H).x0)))) (iq (i : Int))) (.pointer (some ⟨r, 0 + (Int.toNat (y * W + ((cutR a b c d 0 0 W H).x0))) * 1 + i, none⟩)) (by kernel_rfl) (fun w hT => run_indexAt (e := 28) (sz := 1) _ (by kernel_rfl) (by kernel_rfl) (by omega) (by omega) (by omega) w) ?_
    refine pl_step 5 0 rfl rfl ?_
    refine sem_stepU (Instr.storeAt 28 (.pointer (some ⟨r, 0 + (Int.toNat (y * W + ((cutR a b c d 0 0 W H).x0))) * 1 + i, none⟩)) (.int .u32 col)) (fun _ => [.cells b1 [iq ((cutR a b c d 0 0 W H).x0), iq ((cutR a b c d 0 0 W H).y0), iq ((cutR a b c d 0 0 W H).x1), iq ((cutR a b c d 0 0 W H).y1)] 32 true, .ro m [iq W, iq H, .slice (pB r) n cap] 84, .gen (rowE (pB r) r n cap 28 1 (ivals .u32 ((fillP W (fillP W px (cutR a b c d 0 0 W H).x0 (cutR a b c d 0 0 W H).y0 (cutR a b c d 0 0 W H).x1 y col) (cutR a b c d 0 0 W H).x0 y ((cutR a b c d 0 0 W H).x0 + (i : Int)) (y + 1) col).set (0 + (Int.toNat (y * W + ((cutR a b c d 0 0 W H).x0))) * 1 + i) col)) false)]) (fun _ => True) (by kernel_rfl) (fun w hT => store_row hT (i := 2) rfl (by kernel_rfl) (by simp only [fillP_length]; omega)) (fun _ _ => ?_)
    refine cont_done ?_
    refine blk_normal ?_
    refine then_normal ?_
    refine cont_region 2 rfl ?_
    refine bS [0] 1 1 [(0, .pointer (pB m)), (2, .int .u32 col), (4, .pointer (pB b1)), (7, iq y), (8, .slice (sliceA r 0 (Int.toNat (y * W + ((cutR a b c d 0 0 W H).x0))) cap 1) (Int.toNat (y * W + ((cutR a b c d 0 0 W H).x1)) - Int.toNat (y * W + ((cutR a b c d 0 0 W H).x0))) (cap - Int.toNat (y * W + ((cutR a b c d 0 0 W H).x0)))), (33, iq (((Int.toNat (y * W + ((cutR a b c d 0 0 W H).x1)) - Int.toNat (y * W + ((cutR a b c d 0 0 W H).x0))) : Nat) : Int)), (41, iq (IntKind.i64.wrap ((i : Int) + 1)))] ?_
    refine cont_recast 41 (iq (IntKind.i64.wrap ((i : Int) + 1))) (iq ((i : Int) + 1)) rfl (wrapI (by omega) (by omega)) ?_
    refine bS [0] 2 0 [(0, .pointer (pB m)), (2, .int .u32 col), (4, .pointer (pB b1)), (7, iq y), (8, .slice (sliceA r 0 (Int.toNat (y * W + ((cutR a b c d 0 0 W H).x0))) cap 1) (Int.toNat (y * W + ((cutR a b c d 0 0 W H).x1)) - Int.toNat (y * W + ((cutR a b c d 0 0 W H).x0))) (cap - Int.toNat (y * W + ((cutR a b c d 0 0 W H).x0)))), (33, iq (((Int.toNat (y * W + ((cutR a b c d 0 0 W H).x1)) - Int.toNat (y * W + ((cutR a b c d 0 0 W H).x0))) : Nat) : Int)), (34, iq ((i : Int) + 1))] ?_
    refine cont_done ?_
    refine then_normal ?_
    refine cont_rowEq (k := .u32) 2 ((fillP W (fillP W px (cutR a b c d 0 0 W H).x0 (cutR a b c d 0 0 W H).y0 (cutR a b c d 0 0 W H).x1 y col) (cutR a b c d 0 0 W H).x0 y ((cutR a b c d 0 0 W H).x0 + (i : Int)) (y + 1) col).set (0 + (Int.toNat (y * W + ((cutR a b c d 0 0 W H).x0))) * 1 + i) col) (fillP W (fillP W px (cutR a b c d 0 0 W H).x0 (cutR a b c d 0 0 W H).y0 (cutR a b c d 0 0 W H).x1 y col) (cutR a b c d 0 0 W H).x0 y ((cutR a b c d 0 0 W H).x0 + ((i + 1 : Nat) : Int)) (y + 1) col) rfl (by rw [fillP_set W _ _ y ((cutR a b c d 0 0 W H).x0 + (i : Int)) col (by omega) (by omega) (by omega) (by omega) (by omega) _ (by omega)]; congr 1; omega) ?_
    refine cont_again (i + 1) (show (i + 1) ≤ Int.toNat ((cutR a b c d 0 0 W H).x1 - (cutR a b c d 0 0 W H).x0) from (by omega)) (show Int.toNat ((cutR a b c d 0 0 W H).x1 - (cutR a b c d 0 0 W H).x0) - (i + 1) < Int.toNat ((cutR a b c d 0 0 W H).x1 - (cutR a b c d 0 0 W H).x0) - i from by omega) (by kernel_rfl) (by kernel_rfl)
   replace c6_ := of_decide_eq_false c6_
   refine cont_false rfl ?_
   refine cont_exit ?_
   refine then_exit ?_
   refine then_exit ?_
   refine blk_exit ?_
   refine blk_normal ?_
   refine then_normal ?_
   refine cont_region 3 rfl ?_
   refine bS [0, 0] 2 1 [(0, .pointer (pB m)), (2, .int .u32 col), (4, .pointer (pB b1)), (24, iq (IntKind.i64.wrap (y + 1)))] ?_
   refine cont_recast 24 (iq (IntKind.i64.wrap (y + 1))) (iq (y + 1)) rfl (wrapI (by omega) (by omega)) ?_
   refine bS [0] 3 0 [(0, .pointer (pB m)), (2, .int .u32 col), (4, .pointer (pB b1)), (7, iq (y + 1))] ?_
   refine cont_done ?_
   refine then_normal ?_
   refine cont_rowEq (k := .u32) 2 (fillP W (fillP W px (cutR a b c d 0 0 W H).x0 (cutR a b c d 0 0 W H).y0 (cutR a b c d 0 0 W H).x1 y col) (cutR a b c d 0 0 W H).x0 y ((cutR a b c d 0 0 W H).x0 + (i : Int)) (y + 1) col) (fillP W px (cutR a b c d 0 0 W H).x0 (cutR a b c d 0 0 W H).y0 (cutR a b c d 0 0 W H).x1 (y + 1) col) rfl (by rw [show (cutR a b c d 0 0 W H).x0 + (i : Int) = (cutR a b c d 0 0 W H).x1 by omega]; exact fillP_row W px (cutR a b c d 0 0 W H).x0 (cutR a b c d 0 0 W H).y0 (cutR a b c d 0 0 W H).x1 y col (by omega)) ?_
   refine cont_again (y + 1) (show (cutR a b c d 0 0 W H).y0 ≤ (y + 1) ∧ (y + 1) ≤ (cutR a b c d 0 0 W H).y1 from ⟨by omega, by omega⟩) (show ((cutR a b c d 0 0 W H).y1 - (y + 1)).toNat < ((cutR a b c d 0 0 W H).y1 - y).toNat from by omega) (by kernel_rfl) (by kernel_rfl)
  replace c4_ := of_decide_eq_false c4_
  refine cont_false rfl ?_
  refine cont_exit ?_
  refine then_exit ?_
  refine then_exit ?_
  refine blk_exit ?_
  refine then_normal ?_
  refine cont_seq ?_
  refine cont_region 3 rfl ?_
  refine bS [0] 1 2 [(42, .agg #[iq ((cutR a b c d 0 0 W H).x0), iq ((cutR a b c d 0 0 W H).y0), iq ((cutR a b c d 0 0 W H).x1), iq ((cutR a b c d 0 0 W H).y1)])] ?_
  refine cont_forget 0 rfl ?_
  refine pl_step 2 1 rfl rfl ?_
  refine call_pure (d := 43) (iq (areaI ((cutR a b c d 0 0 W H).x0) ((cutR a b c d 0 0 W H).y0) ((cutR a b c d 0 0 W H).x1) ((cutR a b c d 0 0 W H).y1))) (by kernel_rfl) (fun w hT => rectArea ((cutR a b c d 0 0 W H).x0) ((cutR a b c d 0 0 W H).y0) ((cutR a b c d 0 0 W H).x1) ((cutR a b c d 0 0 W H).y1) w (by omega) (by omega) (by omega) (by omega)) ?_
  refine bS [0] 3 0 [(6, iq (areaI ((cutR a b c d 0 0 W H).x0) ((cutR a b c d 0 0 W H).y0) ((cutR a b c d 0 0 W H).x1) ((cutR a b c d 0 0 W H).y1)))] ?_
  refine cont_done ?_
  refine then_normal ?_
  refine cont_ret ?_
  refine ret_one (.inl rfl) rfl 0 (iq (areaI ((cutR a b c d 0 0 W H).x0) ((cutR a b c d 0 0 W H).y0) ((cutR a b c d 0 0 W H).x1) ((cutR a b c d 0 0 W H).y1))) (by kernel_rfl) (by kernel_rfl) (fun w hT => ?_)
  refine ⟨by simp [fillN, *], hT.keep 1 rfl rfl, ?_⟩
  have hR := hT.ok 1 _ rfl
  rw [show y = (cutR a b c d 0 0 W H).y1 by omega] at hR
  rw [fillA, if_pos ‹mayB col = true›]
  exact hR
 refine call_pure (d := 15) (.agg #[iq 0, iq 0, iq W, iq H]) (by kernel_rfl) (fun w hT => imgBox m W H r n cap px  w ⟨hT.ok 1 _ rfl, Row.rd (hT.ok 2 _ rfl), Row.capLe (hT.ok 2 _ rfl)⟩ hok) ?_
 refine drawn_next 0 [0] (by kernel_rfl) ?_
 refine drawn_one 0 2 rfl (by kernel_rfl) ?_
 refine one_step 0 [(0, .pointer (pB m)), (2, .int .u32 col), (4, .pointer (pB b1)), (13, .agg #[iq a, iq b, iq c, iq d]), (15, .agg #[iq 0, iq 0, iq W, iq H])] [.cells b1 [iq a, iq b, iq c, iq d] 32 true, .ro m [iq W, iq H, .slice (pB r) n cap] 84, .gen (rowE (pB r) r n cap 28 1 (ivals .u32 px) false)] (by kernel_rfl) (by kernel_rfl) ?_
 refine drawn_next 0 [0] (by kernel_rfl) ?_
 refine drawn_one 3 1 rfl (by kernel_rfl) ?_
 refine call_pure (d := 16) (.agg #[iq ((cutR a b c d 0 0 W H).x0), iq ((cutR a b c d 0 0 W H).y0), iq ((cutR a b c d 0 0 W H).x1), iq ((cutR a b c d 0 0 W H).y1)]) (by kernel_rfl) (fun w hT => rectCut a b c d 0 0 W H w) ?_
 refine drawn_next 0 [0] (by kernel_rfl) ?_
 refine drawn_one 4 0 rfl (by kernel_rfl) ?_
 refine one_step 0 [(0, .pointer (pB m)), (2, .int .u32 col), (4, .pointer (pB b1))] [.cells b1 [iq ((cutR a b c d 0 0 W H).x0), iq ((cutR a b c d 0 0 W H).y0), iq ((cutR a b c d 0 0 W H).x1), iq ((cutR a b c d 0 0 W H).y1)] 32 true, .ro m [iq W, iq H, .slice (pB r) n cap] 84, .gen (rowE (pB r) r n cap 28 1 (ivals .u32 px) false)] (by kernel_rfl) (by kernel_rfl) ?_
 refine drawn_next 0 [0] (by kernel_rfl) ?_
 refine drawn_done (by kernel_rfl) ?_
 refine then_normal ?_
 refine cont_seq ?_
 refine cont_seq ?_
 refine cont_region 3 rfl ?_
 refine bS [0, 0, 0] 3 0 [(0, .pointer (pB m)), (2, .int .u32 col), (4, .pointer (pB b1)), (7, iq ((cutR a b c d 0 0 W H).y0))] ?_
 refine cont_done ?_
 refine then_normal ?_
 refine cont_block ?_
 refine cont_rowEq (k := .u32) 2 (px) (fillP W px (cutR a b c d 0 0 W H).x0 (cutR a b c d 0 0 W H).y0 (cutR a b c d 0 0 W H).x1 (cutR a b c d 0 0 W H).y0 col) rfl ((fillP_none W px _ _ _ _ col (.inr (by omega))).symm) ?_
 refine cont_loop (α := Int) (fun x_ : Int => (cutR a b c d 0 0 W H).y0 ≤ x_ ∧ x_ ≤ (cutR a b c d 0 0 W H).y1) (fun x_ : Int => [(0, .pointer (pB m)), (2, .int .u32 col), (4, .pointer (pB b1)), (7, iq x_)]) (fun x_ : Int => [.cells b1 [iq ((cutR a b c d 0 0 W H).x0), iq ((cutR a b c d 0 0 W H).y0), iq ((cutR a b c d 0 0 W H).x1), iq ((cutR a b c d 0 0 W H).y1)] 32 true, .ro m [iq W, iq H, .slice (pB r) n cap] 84, .gen (rowE (pB r) r n cap 28 1 (ivals .u32 (fillP W px (cutR a b c d 0 0 W H).x0 (cutR a b c d 0 0 W H).y0 (cutR a b c d 0 0 W H).x1 x_ col)) false)]) (fun x_ : Int => ((cutR a b c d 0 0 W H).y1 - x_).toNat) ((cutR a b c d 0 0 W H).y0) (⟨by omega, by omega⟩) (by kernel_rfl) (by kernel_rfl) ?_
 rintro y hinv7_
 replace hinv7_ : (cutR a b c d 0 0 W H).y0 ≤ y ∧ y ≤ (cutR a b c d 0 0 W H).y1 := hinv7_
 refine cont_norm [(0, .pointer (pB m)), (2, .int .u32 col), (4, .pointer (pB b1)), (7, iq y)] _ (by kernel_rfl) rfl ?_
 obtain ⟨hy0, hy1⟩ := hinv7_
 refine cont_seq ?_
 refine cont_seq ?_
 refine cont_region 4 rfl ?_
 refine bS [0, 0, 0, 0] 4 0 [(0, .pointer (pB m)), (2, .int .u32 col), (4, .pointer (pB b1)), (7, iq y), (22, .bool (decide (y < ((cutR a b c d 0 0 W H).y1))))] ?_
 refine cont_done ?_
 refine then_normal ?_
 refine cont_split 22 (decide (y < ((cutR a b c d 0 0 W H).y1))) rfl (fun c8_ => ?_) (fun c8_ => ?_)
 ·
  replace c8_ := of_decide_eq_true c8_
  refine cont_true rfl ?_
  refine cont_skip ?_
  refine then_normal ?_
  refine cont_seq ?_
  refine cont_block ?_
  refine cont_seq ?_
  refine cont_region 8 rfl ?_
  have hp0 := hok.place (x := 0) (y := y) (by omega) (by omega) (by omega) (by omega)
  have hp1 := hok.place (x := W - 1) (y := y) (by omega) (by omega) (by omega) (by omega)
  refine bS [0, 0, 0, 0, 0, 0] 6 2 [(0, .pointer (pB m)), (2, .int .u32 col), (4, .pointer (pB b1)), (7, iq y), (25, .pointer (pB m)), (26, iq y), (28, iq ((cutR a b c d 0 0 W H).x0)), (30, iq ((cutR a b c d 0 0 W H).x1))] ?_
  refine pl_step 7 1 rfl rfl ?_
  refine call_pure (d := 31) (.slice (sliceA r 0 (Int.toNat (y * W + ((cutR a b c d 0 0 W H).x0))) cap 1) (Int.toNat (y * W + ((cutR a b c d 0 0 W H).x1)) - Int.toNat (y * W + ((cutR a b c d 0 0 W H).x0))) (cap - Int.toNat (y * W + ((cutR a b c d 0 0 W H).x0)))) (by kernel_rfl) (fun w hT => imgRow m W H r n cap (fillP W px (cutR a b c d 0 0 W H).x0 (cutR a b c d 0 0 W H).y0 (cutR a b c d 0 0 W H).x1 y col) y ((cutR a b c d 0 0 W H).x0) ((cutR a b c d 0 0 W H).x1) w ⟨hT.ok 1 _ rfl, Row.rd (hT.ok 2 _ rfl), Row.capLe (hT.ok 2 _ rfl)⟩ (hok.fill _ _ _ _ ⟨hc0, hc1⟩) (by omega)) ?_
  refine bS [0] 8 0 [(0, .pointer (pB m)), (2, .int .u32 col), (4, .pointer (pB b1)), (7, iq y), (8, .slice (sliceA r 0 (Int.toNat (y * W + ((cutR a b c d 0 0 W H).x0))) cap 1) (Int.toNat (y * W + ((cutR a b c d 0 0 W H).x1)) - Int.toNat (y * W + ((cutR a b c d 0 0 W H).x0))) (cap - Int.toNat (y * W + ((cutR a b c d 0 0 W H).x0))))] ?_
  refine cont_done ?_
  refine then_normal ?_
  refine cont_seq ?_
  refine cont_region 3 rfl ?_
  refine bS [0, 0, 0] 3 0 [(0, .pointer (pB m)), (2, .int .u32 col), (4, .pointer (pB b1)), (7, iq y), (8, .slice (sliceA r 0 (Int.toNat (y * W + ((cutR a b c d 0 0 W H).x0))) cap 1) (Int.toNat (y * W + ((cutR a b c d 0 0 W H).x1)) - Int.toNat (y * W + ((cutR a b c d 0 0 W H).x0))) (cap - Int.toNat (y * W + ((cutR a b c d 0 0 W H).x0)))), (33, iq (((Int.toNat (y * W + ((cutR a b c d 0 0 W H).x1)) - Int.toNat (y * W + ((cutR a b c d 0 0 W H).x0))) : Nat) : Int)), (34, iq 0)] ?_
  refine cont_done ?_
  refine then_normal ?_
  refine cont_block ?_
  refine cont_rowEq (k := .u32) 2 (fillP W px (cutR a b c d 0 0 W H).x0 (cutR a b c d 0 0 W H).y0 (cutR a b c d 0 0 W H).x1 y col) (fillP W (fillP W px (cutR a b c d 0 0 W H).x0 (cutR a b c d 0 0 W H).y0 (cutR a b c d 0 0 W H).x1 y col) (cutR a b c d 0 0 W H).x0 y ((cutR a b c d 0 0 W H).x0 + ((0 : Nat) : Int)) (y + 1) col) rfl ((fillP_none W _ _ _ _ _ col (.inl (by omega))).symm) ?_
  refine cont_loop (α := Nat) (fun x_ : Nat => x_ ≤ Int.toNat ((cutR a b c d 0 0 W H).x1 - (cutR a b c d 0 0 W H).x0)) (fun x_ : Nat => [(0, .pointer (pB m)), (2, .int .u32 col), (4, .pointer (pB b1)), (7, iq y), (8, .slice (sliceA r 0 (Int.toNat (y * W + ((cutR a b c d 0 0 W H).x0))) cap 1) (Int.toNat (y * W + ((cutR a b c d 0 0 W H).x1)) - Int.toNat (y * W + ((cutR a b c d 0 0 W H).x0))) (cap - Int.toNat (y * W + ((cutR a b c d 0 0 W H).x0)))), (33, iq (((Int.toNat (y * W + ((cutR a b c d 0 0 W H).x1)) - Int.toNat (y * W + ((cutR a b c d 0 0 W H).x0))) : Nat) : Int)), (34, iq (x_ : Int))]) (fun x_ : Nat => [.cells b1 [iq ((cutR a b c d 0 0 W H).x0), iq ((cutR a b c d 0 0 W H).y0), iq ((cutR a b c d 0 0 W H).x1), iq ((cutR a b c d 0 0 W H).y1)] 32 true, .ro m [iq W, iq H, .slice (pB r) n cap] 84, .gen (rowE (pB r) r n cap 28 1 (ivals .u32 (fillP W (fillP W px (cutR a b c d 0 0 W H).x0 (cutR a b c d 0 0 W H).y0 (cutR a b c d 0 0 W H).x1 y col) (cutR a b c d 0 0 W H).x0 y ((cutR a b c d 0 0 W H).x0 + (x_ : Int)) (y + 1) col)) false)]) (fun x_ : Nat => Int.toNat ((cutR a b c d 0 0 W H).x1 - (cutR a b c d 0 0 W H).x0) - x_) 0 (by omega) (by kernel_rfl) (by kernel_rfl) ?_
  rintro i hinv9_
  replace hinv9_ : i ≤ Int.toNat ((cutR a b c d 0 0 W H).x1 - (cutR a b c d 0 0 W H).x0) := hinv9_
  refine cont_norm [(0, .pointer (pB m)), (2, .int .u32 col), (4, .pointer (pB b1)), (7, iq y), (8, .slice (sliceA r 0 (Int.toNat (y * W + ((cutR a b c d 0 0 W H).x0))) cap 1) (Int.toNat (y * W + ((cutR a b c d 0 0 W H).x1)) - Int.toNat (y * W + ((cutR a b c d 0 0 W H).x0))) (cap - Int.toNat (y * W + ((cutR a b c d 0 0 W H).x0)))), (33, iq (((Int.toNat (y * W + ((cutR a b c d 0 0 W H).x1)) - Int.toNat (y * W + ((cutR a b c d 0 0 W H).x0))) : Nat) : Int)), (34, iq (i : Int))] _ (by kernel_rfl) rfl ?_
  refine cont_seq ?_
  refine cont_region 1 rfl ?_
  refine bS [0] 1 0 [(0, .pointer (pB m)), (2, .int .u32 col), (4, .pointer (pB b1)), (7, iq y), (8, .slice (sliceA r 0 (Int.toNat (y * W + ((cutR a b c d 0 0 W H).x0))) cap 1) (Int.toNat (y * W + ((cutR a b c d 0 0 W H).x1)) - Int.toNat (y * W + ((cutR a b c d 0 0 W H).x0))) (cap - Int.toNat (y * W + ((cutR a b c d 0 0 W H).x0)))), (33, iq (((Int.toNat (y * W + ((cutR a b c d 0 0 W H).x1)) - Int.toNat (y * W + ((cutR a b c d 0 0 W H).x0))) : Nat) : Int)), (34, iq (i : Int)), (35, .bool (decide ((i : Int) < (((Int.toNat (y * W + ((cutR a b c d 0 0 W H).x1)) - Int.toNat (y * W + ((cutR a b c d 0 0 W H).x0))) : Nat) : Int))))] ?_
  refine cont_done ?_
  refine then_normal ?_
  refine cont_seq ?_
  refine cont_split 35 (decide ((i : Int) < (((Int.toNat (y * W + ((cutR a b c d 0 0 W H).x1)) - Int.toNat (y * W + ((cutR a b c d 0 0 W H).x0))) : Nat) : Int))) rfl (fun c10_ => ?_) (fun c10_ => ?_)
  ·
   replace c10_ := of_decide_eq_true c10_
   refine cont_true rfl ?_
   refine cont_skip ?_
   refine then_normal ?_
   refine cont_seq ?_
   refine cont_block ?_
   refine cont_seq ?_
   refine cont_region 2 rfl ?_
   refine bS [0, 0] 2 0 [(0, .pointer (pB m)), (2, .int .u32 col), (4, .pointer (pB b1)), (7, iq y), (8, .slice (sliceA r 0 (Int.toNat (y * W + ((cutR a b c d 0 0 W H).x0))) cap 1) (Int.toNat (y * W + ((cutR a b c d 0 0 W H).x1)) - Int.toNat (y * W + ((cutR a b c d 0 0 W H).x0))) (cap - Int.toNat (y * W + ((cutR a b c d 0 0 W H).x0)))), (9, iq (i : Int)), (33, iq (((Int.toNat (y * W + ((cutR a b c d 0 0 W H).x1)) - Int.toNat (y * W + ((cutR a b c d 0 0 W H).x0))) : Nat) : Int)), (34, iq (i : Int))] ?_
   refine cont_done ?_
   refine then_normal ?_
   refine cont_region 5 rfl ?_
   refine bS [0, 0, 0] 3 2 [(0, .pointer (pB m)), (2, .int .u32 col), (4, .pointer (pB b1)), (7, iq y), (8, .slice (sliceA r 0 (Int.toNat (y * W + ((cutR a b c d 0 0 W H).x0))) cap 1) (Int.toNat (y * W + ((cutR a b c d 0 0 W H).x1)) - Int.toNat (y * W + ((cutR a b c d 0 0 W H).x0))) (cap - Int.toNat (y * W + ((cutR a b c d 0 0 W H).x0)))), (33, iq (((Int.toNat (y * W + ((cutR a b c d 0 0 W H).x1)) - Int.toNat (y * W + ((cutR a b c d 0 0 W H).x0))) : Nat) : Int)), (34, iq (i : Int)), (37, .slice (sliceA r 0 (Int.toNat (y * W + ((cutR a b c d 0 0 W H).x0))) cap 1) (Int.toNat (y * W + ((cutR a b c d 0 0 W H).x1)) - Int.toNat (y * W + ((cutR a b c d 0 0 W H).x0))) (cap - Int.toNat (y * W + ((cutR a b c d 0 0 W H).x0)))), (38, iq (i : Int)), (39, .int .u32 col)] ?_
   refine pl_step 4 1 rfl rfl ?_
   refine cont_recast 37 (.slice (sliceA r 0 (Int.toNat (y * W + ((cutR a b c d 0 0 W H).x0))) cap 1) (Int.toNat (y * W + ((cutR a b c d 0 0 W H).x1)) - Int.toNat (y * W + ((cutR a b c d 0 0 W H).x0))) (cap - Int.toNat (y * W + ((cutR a b c d 0 0 W H).x0)))) (.slice (some ⟨r, 0 + (Int.toNat (y * W + ((cutR a b c d 0 0 W H).x0))) * 1, none⟩) (Int.toNat (y * W + ((cutR a b c d 0 0 W H).x1)) - Int.toNat (y * W + ((cutR a b c d 0 0 W H).x0))) (cap - Int.toNat (y * W + ((cutR a b c d 0 0 W H).x0)))) rfl (by rw [sliceA_pos (by omega)]) ?_
   refine sem_step 40 (Instr.indexAt 35 (.slice (some ⟨r, 0 + (Int.toNat (y * W + ((cutR a b c d 0 0 W H).x0))) * 1, none⟩) (Int.toNat (y * W + ((cutR a b c d 0 0 W H).x1)) - Int.toNat (y * W + ((cutR a b c d 0 0 W H).x0))) (cap - Int.toNat (y * W + ((cutR a b c d 0 0 W H).x0)))) (iq (i : Int))) (.pointer (some ⟨r, 0 + (Int.toNat (y * W + ((cutR a b c d 0 0 W H).x0))) * 1 + i, none⟩)) (by kernel_rfl) (fun w hT => run_indexAt (e := 28) (sz := 1) _ (by kernel_rfl) (by kernel_rfl) (by omega) (by omega) (by omega) w) ?_
   refine pl_step 5 0 rfl rfl ?_
   refine sem_stepU (Instr.storeAt 28 (.pointer (some ⟨r, 0 + (Int.toNat (y * W + ((cutR a b c d 0 0 W H).x0))) * 1 + i, none⟩)) (.int .u32 col)) (fun _ => [.cells b1 [iq ((cutR a b c d 0 0 W H).x0), iq ((cutR a b c d 0 0 W H).y0), iq ((cutR a b c d 0 0 W H).x1), iq ((cutR a b c d 0 0 W H).y1)] 32 true, .ro m [iq W, iq H, .slice (pB r) n cap] 84, .gen (rowE (pB r) r n cap 28 1 (ivals .u32 ((fillP W (fillP W px (cutR a b c d 0 0 W H).x0 (cutR a b c d 0 0 W H).y0 (cutR a b c d 0 0 W H).x1 y col) (cutR a b c d 0 0 W H).x0 y ((cutR a b c d 0 0 W H).x0 + (i : Int)) (y + 1) col).set (0 + (Int.toNat (y * W + ((cutR a b c d 0 0 W H).x0))) * 1 + i) col)) false)]) (fun _ => True) (by kernel_rfl) (fun w hT => store_row hT (i := 2) rfl (by kernel_rfl) (by simp only [fillP_length]; omega)) (fun _ _ => ?_)
   refine cont_done ?_
   refine blk_normal ?_
   refine then_normal ?_
   refine cont_region 2 rfl ?_
   refine bS [0] 1 1 [(0, .pointer (pB m)), (2, .int .u32 col), (4, .pointer (pB b1)), (7, iq y), (8, .slice (sliceA r 0 (Int.toNat (y * W + ((cutR a b c d 0 0 W H).x0))) cap 1) (Int.toNat (y * W + ((cutR a b c d 0 0 W H).x1)) - Int.toNat (y * W + ((cutR a b c d 0 0 W H).x0))) (cap - Int.toNat (y * W + ((cutR a b c d 0 0 W H).x0)))), (33, iq (((Int.toNat (y * W + ((cutR a b c d 0 0 W H).x1)) - Int.toNat (y * W + ((cutR a b c d 0 0 W H).x0))) : Nat) : Int)), (41, iq (IntKind.i64.wrap ((i : Int) + 1)))] ?_
   refine cont_recast 41 (iq (IntKind.i64.wrap ((i : Int) + 1))) (iq ((i : Int) + 1)) rfl (wrapI (by omega) (by omega)) ?_
   refine bS [0] 2 0 [(0, .pointer (pB m)), (2, .int .u32 col), (4, .pointer (pB b1)), (7, iq y), (8, .slice (sliceA r 0 (Int.toNat (y * W + ((cutR a b c d 0 0 W H).x0))) cap 1) (Int.toNat (y * W + ((cutR a b c d 0 0 W H).x1)) - Int.toNat (y * W + ((cutR a b c d 0 0 W H).x0))) (cap - Int.toNat (y * W + ((cutR a b c d 0 0 W H).x0)))), (33, iq (((Int.toNat (y * W + ((cutR a b c d 0 0 W H).x1)) - Int.toNat (y * W + ((cutR a b c d 0 0 W H).x0))) : Nat) : Int)), (34, iq ((i : Int) + 1))] ?_
   refine cont_done ?_
   refine then_normal ?_
   refine cont_rowEq (k := .u32) 2 ((fillP W (fillP W px (cutR a b c d 0 0 W H).x0 (cutR a b c d 0 0 W H).y0 (cutR a b c d 0 0 W H).x1 y col) (cutR a b c d 0 0 W H).x0 y ((cutR a b c d 0 0 W H).x0 + (i : Int)) (y + 1) col).set (0 + (Int.toNat (y * W + ((cutR a b c d 0 0 W H).x0))) * 1 + i) col) (fillP W (fillP W px (cutR a b c d 0 0 W H).x0 (cutR a b c d 0 0 W H).y0 (cutR a b c d 0 0 W H).x1 y col) (cutR a b c d 0 0 W H).x0 y ((cutR a b c d 0 0 W H).x0 + ((i + 1 : Nat) : Int)) (y + 1) col) rfl (by rw [fillP_set W _ _ y ((cutR a b c d 0 0 W H).x0 + (i : Int)) col (by omega) (by omega) (by omega) (by omega) (by omega) _ (by omega)]; congr 1; omega) ?_
   refine cont_again (i + 1) (show (i + 1) ≤ Int.toNat ((cutR a b c d 0 0 W H).x1 - (cutR a b c d 0 0 W H).x0) from (by omega)) (show Int.toNat ((cutR a b c d 0 0 W H).x1 - (cutR a b c d 0 0 W H).x0) - (i + 1) < Int.toNat ((cutR a b c d 0 0 W H).x1 - (cutR a b c d 0 0 W H).x0) - i from by omega) (by kernel_rfl) (by kernel_rfl)
  replace c10_ := of_decide_eq_false c10_
  refine cont_false rfl ?_
  refine cont_exit ?_
  refine then_exit ?_
  refine then_exit ?_
  refine blk_exit ?_
  refine blk_normal ?_
  refine then_normal ?_
  refine cont_region 3 rfl ?_
  refine bS [0, 0] 2 1 [(0, .pointer (pB m)), (2, .int .u32 col), (4, .pointer (pB b1)), (24, iq (IntKind.i64.wrap (y + 1)))] ?_
  refine cont_recast 24 (iq (IntKind.i64.wrap (y + 1))) (iq (y + 1)) rfl (wrapI (by omega) (by omega)) ?_
  refine bS [0] 3 0 [(0, .pointer (pB m)), (2, .int .u32 col), (4, .pointer (pB b1)), (7, iq (y + 1))] ?_
  refine cont_done ?_
  refine then_normal ?_
  refine cont_rowEq (k := .u32) 2 (fillP W (fillP W px (cutR a b c d 0 0 W H).x0 (cutR a b c d 0 0 W H).y0 (cutR a b c d 0 0 W H).x1 y col) (cutR a b c d 0 0 W H).x0 y ((cutR a b c d 0 0 W H).x0 + (i : Int)) (y + 1) col) (fillP W px (cutR a b c d 0 0 W H).x0 (cutR a b c d 0 0 W H).y0 (cutR a b c d 0 0 W H).x1 (y + 1) col) rfl (by rw [show (cutR a b c d 0 0 W H).x0 + (i : Int) = (cutR a b c d 0 0 W H).x1 by omega]; exact fillP_row W px (cutR a b c d 0 0 W H).x0 (cutR a b c d 0 0 W H).y0 (cutR a b c d 0 0 W H).x1 y col (by omega)) ?_
  refine cont_again (y + 1) (show (cutR a b c d 0 0 W H).y0 ≤ (y + 1) ∧ (y + 1) ≤ (cutR a b c d 0 0 W H).y1 from ⟨by omega, by omega⟩) (show ((cutR a b c d 0 0 W H).y1 - (y + 1)).toNat < ((cutR a b c d 0 0 W H).y1 - y).toNat from by omega) (by kernel_rfl) (by kernel_rfl)
 replace c8_ := of_decide_eq_false c8_
 refine cont_false rfl ?_
 refine cont_exit ?_
 refine then_exit ?_
 refine then_exit ?_
 refine blk_exit ?_
 refine then_normal ?_
 refine cont_seq ?_
 refine cont_region 3 rfl ?_
 refine bS [0] 1 2 [(42, .agg #[iq ((cutR a b c d 0 0 W H).x0), iq ((cutR a b c d 0 0 W H).y0), iq ((cutR a b c d 0 0 W H).x1), iq ((cutR a b c d 0 0 W H).y1)])] ?_
 refine cont_forget 0 rfl ?_
 refine pl_step 2 1 rfl rfl ?_
 refine call_pure (d := 43) (iq (areaI ((cutR a b c d 0 0 W H).x0) ((cutR a b c d 0 0 W H).y0) ((cutR a b c d 0 0 W H).x1) ((cutR a b c d 0 0 W H).y1))) (by kernel_rfl) (fun w hT => rectArea ((cutR a b c d 0 0 W H).x0) ((cutR a b c d 0 0 W H).y0) ((cutR a b c d 0 0 W H).x1) ((cutR a b c d 0 0 W H).y1) w (by omega) (by omega) (by omega) (by omega)) ?_
 refine bS [0] 3 0 [(6, iq (areaI ((cutR a b c d 0 0 W H).x0) ((cutR a b c d 0 0 W H).y0) ((cutR a b c d 0 0 W H).x1) ((cutR a b c d 0 0 W H).y1)))] ?_
 refine cont_done ?_
 refine then_normal ?_
 refine cont_ret ?_
 refine ret_one (.inl rfl) rfl 0 (iq (areaI ((cutR a b c d 0 0 W H).x0) ((cutR a b c d 0 0 W H).y0) ((cutR a b c d 0 0 W H).x1) ((cutR a b c d 0 0 W H).y1))) (by kernel_rfl) (by kernel_rfl) (fun w hT => ?_)
 refine ⟨by simp [fillN, *], hT.keep 1 rfl rfl, ?_⟩
 have hR := hT.ok 1 _ rfl
 rw [show y = (cutR a b c d 0 0 W H).y1 by omega] at hR
 rw [fillA, if_pos ‹mayB col = true›]
 exact hR

end Go.Proofs.Ytommojgfkkoghaa

/- The symbolic executor: maps with whole numbers as keys, as entries of the table. Generic in the program. -/
set_option linter.unusedVariables false
set_option linter.unusedSimpArgs false
namespace Go.Proofs.Ytommojgfkkoghaa
open Go Go.RowKit

abbrev MS := List (Int × Value)
/-- Block b is a map that holds these, in the order in which they came; no key twice; the stamps are old. -/
structure MapAt (w : World) (b : Nat) (ms : MS) : Prop where
  here : ∃ es clock, w.heap[b]? = some (.map es clock) ∧ es.toList.map (fun e => (e.key, e.val)) = ms.map (fun p => (Value.int .i64 p.1, p.2)) ∧ (∀ e ∈ es.toList, e.born < clock) ∧ (es.toList.map (·.born)).Nodup

def mapE (b : Nat) (ms : MS) (own : Bool) : GenEnt :=
  { blk := fun k => k = b, wr := true, own := own, ok := fun w => MapAt w b ms,
    stable := fun w w' hb h => by
      obtain ⟨es, c, h1, h2⟩ := h.here
      exact ⟨es, c, (hb b rfl).trans h1, h2⟩,
    inb := fun w k h hk => by
      obtain ⟨es, c, h1, h2⟩ := h.here
      rw [hk]
      exact (Array.getElem?_eq_some_iff.1 h1).1 }

section
variable {P : Program}
end

/-! ### Plain laws of such lists -/
end Go.Proofs.Ytommojgfkkoghaa

/- The symbolic executor: a call sees a part of the caller's table, and the caller takes the callee's table back into its own. Generic in the program. -/
set_option linter.unusedVariables false
set_option linter.unusedSimpArgs false
namespace Go.Proofs.Ytommojgfkkoghaa
open Go Go.RowKit

/-- An entry as a callee sees it. -/
structure Vw (e e0 : Ent) : Prop where
  ok : ∀ w, e.ok w → e0.ok w
  blk : ∀ w, e.ok w → ∀ k, e0.blk k → e.blk k
  wr : e0.wr = true → e.wr = true
  own : e0.own = false
/-- A callee's entry taken back: what the caller has behind the call. -/
structure Mg (e e1 e' : Ent) : Prop where
  ok : ∀ w, e1.ok w → e'.ok w
  blk1 : ∀ k, e1.blk k → e'.blk k
  blk2 : ∀ k, e'.blk k ↔ e.blk k
  own : e'.own = true → e.own = true
  wr : e1.wr = true ∧ e'.wr = true ∧ e.wr = true

inductive VwL (T : List Ent) : List Nat → List Ent → Prop
  | nil : VwL T [] []
  | cons {i : Nat} {s : List Nat} {e e0 : Ent} {T0 : List Ent} : T[i]? = some e → Vw e e0 → VwL T s T0 → VwL T (i :: s) (e0 :: T0)

theorem VwL.get {T : List Ent} {s : List Nat} {T0 : List Ent} (h : VwL T s T0) : ∀ (j : Nat) (e0 : Ent), T0[j]? = some e0 → ∃ i e, s[j]? = some i ∧ T[i]? = some e ∧ Vw e e0 := by
  induction h with
  | nil => intro j e0 h; simp at h
  | cons hi hv _ ih =>
    intro j e0 hj
    cases j with
    | zero => simp at hj; subst hj; exact ⟨_, _, rfl, hi, hv⟩
    | succ j => simpa using ih j e0 (by simpa using hj)
theorem nodup_ne {s : List Nat} (h : s.Nodup) {i j a b : Nat} (hij : i ≠ j) (hi : s[i]? = some a) (hj : s[j]? = some b) : a ≠ b := by
  intro hab
  subst hab
  have h1 := List.getElem?_eq_some_iff.1 hi
  have h2 := List.getElem?_eq_some_iff.1 hj
  obtain ⟨l1, e1⟩ := h1
  obtain ⟨l2, e2⟩ := h2
  exact hij ((List.getElem_inj h).1 (e1.trans e2.symm))
theorem Tab.view {w0 w : World} {T : List Ent} (hT : Tab w0 w T) {s : List Nat} {T0 : List Ent} (h : VwL T s T0) (hn : s.Nodup) : Tab w w T0 := by
  refine ⟨rfl, rfl, rfl, Nat.le_refl _, ?_, fun _ _ _ => rfl, ?_, ?_⟩
  · intro i e0 hi
    obtain ⟨j, e, _, he, hv⟩ := h.get i e0 hi
    exact hv.ok w (hT.ok j e he)
  · intro i e0 hi ho
    obtain ⟨j, e, _, he, hv⟩ := h.get i e0 hi
    rw [hv.own] at ho; cases ho
  · intro i j e0 e0' hij hi hj hw k hk hk'
    obtain ⟨a, e, ha, he, hv⟩ := h.get i e0 hi
    obtain ⟨b, e', hb, he', hv'⟩ := h.get j e0' hj
    exact hT.disj a b e e' (nodup_ne hn hij ha hb) he he' (hw.imp hv.wr hv'.wr) k (hv.blk w (hT.ok a e he) k hk) (hv'.blk w (hT.ok b e' he') k hk')

def allRo : List Ent → Bool
  | [] => true
  | e :: r => !e.wr && allRo r
theorem allRo_get : ∀ {N : List Ent}, allRo N = true → ∀ (i : Nat) (e : Ent), N[i]? = some e → e.wr = false := by
  intro N
  induction N with
  | nil => intro _ i e h; simp at h
  | cons x r ih =>
    intro h i e hi
    simp only [allRo, Bool.and_eq_true, Bool.not_eq_true'] at h
    cases i with
    | zero => simp at hi; subst hi; exact h.1
    | succ i => exact ih h.2 i e (by simpa using hi)
/-- A callee that only reads: what it sees may be seen twice. -/
theorem Tab.viewRo {w0 w : World} {T : List Ent} (hT : Tab w0 w T) {s : List Nat} {T0 : List Ent} (h : VwL T s T0) (hn : allRo T0 = true) : Tab w w T0 := by
  refine ⟨rfl, rfl, rfl, Nat.le_refl _, ?_, fun _ _ _ => rfl, ?_, ?_⟩
  · intro i e0 hi
    obtain ⟨j, e, _, he, hv⟩ := h.get i e0 hi
    exact hv.ok w (hT.ok j e he)
  · intro i e0 hi ho
    obtain ⟨j, e, _, he, hv⟩ := h.get i e0 hi
    rw [hv.own] at ho; cases ho
  · intro i j e0 e0' hij hi hj hw
    rw [allRo_get hn i e0 hi, allRo_get hn j e0' hj] at hw
    rcases hw with h | h <;> cases h

theorem Vw.ro {b : Nat} {cs : List Value} {t : TypeId} : Vw (.ro b cs t) (.ro b cs t) := ⟨fun _ h => h, fun _ _ _ h => h, id, rfl⟩
theorem Vw.roc {b : Nat} {cs : List Value} {t : TypeId} {o : Bool} : Vw (.cells b cs t o) (.ro b cs t) := ⟨fun _ h => h, fun _ _ _ h => h, fun _ => rfl, rfl⟩
theorem Vw.rw {b : Nat} {cs : List Value} {t : TypeId} {o : Bool} : Vw (.cells b cs t o) (.cells b cs t false) := ⟨fun _ h => h, fun _ _ _ h => h, fun _ => rfl, rfl⟩
theorem Vw.rd {A : Option Addr} {g o n sz : Nat} {vals : List Value} : Vw (.gen (rdE A g o n sz vals)) (.gen (rdE A g o n sz vals)) := ⟨fun _ h => h, fun _ _ _ h => h, id, rfl⟩
theorem Vw.rowRd {A : Option Addr} {g n cap sz : Nat} {e : TypeId} {vals : List Value} {o : Bool} : Vw (.gen (rowE A g n cap e sz vals o)) (.gen (rdE A g 0 n sz vals)) :=
  ⟨fun _ h => Row.rd h, fun w hr k h => by
    obtain ⟨h1, h2⟩ := h
    refine ⟨h1, fun hA => ?_⟩
    have hr : Row w A g n cap e sz vals := hr
    have h0 : n = 0 := by
      rcases Nat.eq_zero_or_pos n with h | h
      · exact h
      · have := hr.at_ h; rw [hA] at this; cases this
    have := hr.rd.len
    rw [h0] at this
    exact h2 (List.length_eq_zero_iff.1 (by omega)), fun _ => rfl, rfl⟩
theorem Vw.row {A : Option Addr} {g n cap sz : Nat} {e : TypeId} {vals : List Value} {o : Bool} : Vw (.gen (rowE A g n cap e sz vals o)) (.gen (rowE A g n cap e sz vals false)) := ⟨fun _ h => h, fun _ _ _ h => h, fun _ => rfl, rfl⟩
theorem Vw.map {b : Nat} {ms : MS} {o : Bool} : Vw (.gen (mapE b ms o)) (.gen (mapE b ms false)) := ⟨fun _ h => h, fun _ _ _ h => h, fun _ => rfl, rfl⟩

theorem Mg.cells {b : Nat} {cs cs' : List Value} {t : TypeId} {o : Bool} : Mg (.cells b cs t o) (.cells b cs' t false) (.cells b cs' t o) := ⟨fun _ h => h, fun _ h => h, fun _ => Iff.rfl, id, rfl, rfl, rfl⟩
theorem Mg.row {A : Option Addr} {g n cap sz n' cap' : Nat} {e : TypeId} {vals vals' : List Value} {o : Bool} : Mg (.gen (rowE A g n cap e sz vals o)) (.gen (rowE A g n' cap' e sz vals' false)) (.gen (rowE A g n' cap' e sz vals' o)) := ⟨fun _ h => h, fun _ h => h, fun _ => Iff.rfl, id, rfl, rfl, rfl⟩
theorem Mg.map {b : Nat} {ms ms' : MS} {o : Bool} : Mg (.gen (mapE b ms o)) (.gen (mapE b ms' false)) (.gen (mapE b ms' o)) := ⟨fun _ h => h, fun _ h => h, fun _ => Iff.rfl, id, rfl, rfl, rfl⟩

/-- What the caller has: entry by entry, with what the callee wrote put in. s: the places of the callee's entries (O) in T. -/
inductive MgL (T : List Ent) : List Nat → List Ent → List Ent → Prop
  | nil : MgL T [] [] T
  | skip {i : Nat} {s : List Nat} {e1 : Ent} {O T2 : List Ent} : e1.wr = false → MgL T s O T2 → MgL T (i :: s) (e1 :: O) T2
  | cons {i : Nat} {s : List Nat} {e e1 e' : Ent} {O T2 : List Ent} : T[i]? = some e → Mg e e1 e' → MgL T s O T2 → MgL T (i :: s) (e1 :: O) (T2.set i e')

theorem MgL.get {T : List Ent} {s : List Nat} {O T2 : List Ent} (h : MgL T s O T2) : (T2.length = T.length) ∧ (∀ (j : Nat) (e1 : Ent), O[j]? = some e1 → e1.wr = true → ∃ i e e', s[j]? = some i ∧ T[i]? = some e ∧ Mg e e1 e') ∧
    (∀ (i : Nat) (e' : Ent), T2[i]? = some e' → (∃ (j : Nat) (e1 e : Ent), s[j]? = some i ∧ O[j]? = some e1 ∧ e1.wr = true ∧ T[i]? = some e ∧ Mg e e1 e') ∨ (T[i]? = some e' ∧ ∀ (j : Nat) (e1 : Ent), s[j]? = some i → O[j]? = some e1 → e1.wr = false)) := by
  induction h with
  | nil => exact ⟨rfl, fun j e1 h => by simp at h, fun i e' h => .inr ⟨h, fun j e1 hj => by simp at hj⟩⟩
  | skip hw _ ih =>
    obtain ⟨h1, h2, h3⟩ := ih
    refine ⟨h1, ?_, ?_⟩
    · intro j e1 hj hw1
      cases j with
      | zero => simp at hj; subst hj; rw [hw] at hw1; cases hw1
      | succ j => simpa using h2 j e1 (by simpa using hj) hw1
    · intro i e' hi
      rcases h3 i e' hi with ⟨j, e1, e, a, b, c, d⟩ | ⟨a, b⟩
      · exact .inl ⟨j + 1, e1, e, by simpa using a, by simpa using b, c, d⟩
      · refine .inr ⟨a, fun j e1 hj ho => ?_⟩
        cases j with
        | zero => simp at ho; subst ho; exact hw
        | succ j => exact b j e1 (by simpa using hj) (by simpa using ho)
  | @cons i0 s0 e0 e1' e'0 O0 T20 hi0 hm _ ih =>
    obtain ⟨h1, h2, h3⟩ := ih
    refine ⟨by simpa using h1, ?_, ?_⟩
    · intro j e1 hj hw1
      cases j with
      | zero => simp at hj; subst hj; exact ⟨i0, e0, e'0, rfl, hi0, hm⟩
      | succ j => simpa using h2 j e1 (by simpa using hj) hw1
    · intro i e' hi
      by_cases hii : i0 = i
      · subst hii
        have hlt : i0 < T20.length := by
          rw [h1]
          exact (List.getElem?_eq_some_iff.1 hi0).1
        rw [List.getElem?_set_self hlt] at hi
        cases hi
        exact .inl ⟨0, e1', e0, rfl, rfl, hm.wr.1, hi0, hm⟩
      · rw [List.getElem?_set_ne hii] at hi
        rcases h3 i e' hi with ⟨j, e1, e, a, b, c, d⟩ | ⟨a, b⟩
        · exact .inl ⟨j + 1, e1, e, by simpa using a, by simpa using b, c, d⟩
        · refine .inr ⟨a, fun j e1 hj ho => ?_⟩
          cases j with
          | zero => simp at hj; exact absurd hj hii
          | succ j => exact b j e1 (by simpa using hj) (by simpa using ho)

theorem app_get {α : Type} (N O : List α) {i : Nat} {x : α} (h : (N ++ O)[i]? = some x) : (i < N.length ∧ N[i]? = some x) ∨ (N.length ≤ i ∧ O[i - N.length]? = some x) := by
  by_cases hi : i < N.length
  · rw [List.getElem?_append_left hi] at h; exact .inl ⟨hi, h⟩
  · rw [List.getElem?_append_right (by omega)] at h; exact .inr ⟨by omega, h⟩
theorem Tab.merge {w0 w w' : World} {T : List Ent} (hT : Tab w0 w T) {N O T2 : List Ent} {s : List Nat} (h1 : Tab w w' (N ++ O)) (hM : MgL T s O T2) (hn : s.Nodup) (hN : ∀ (i : Nat) (e : Ent), N[i]? = some e → e.own = true) : Tab w0 w' (N ++ T2) := by
  obtain ⟨hlen, hO, hT2⟩ := hM.get
  have oldO : ∀ (j : Nat) (e1 : Ent), O[j]? = some e1 → (N ++ O)[N.length + j]? = some e1 := fun j e1 h => by
    rw [List.getElem?_append_right (by omega)]; rw [show N.length + j - N.length = j by omega]; exact h
  have oldN : ∀ (j : Nat) (e1 : Ent), N[j]? = some e1 → (N ++ O)[j]? = some e1 := fun j e1 h => by
    rw [List.getElem?_append_left (List.getElem?_eq_some_iff.1 h).1]; exact h
  have newb : ∀ (j : Nat) (e1 : Ent), N[j]? = some e1 → ∀ k, e1.blk k → w.heap.size ≤ k := fun j e1 h => h1.own j e1 (oldN j e1 h) (hN j e1 h)
  have key : ∀ (i : Nat) (e' : Ent), T2[i]? = some e' → ∃ e, T[i]? = some e ∧ (∀ k, e'.blk k ↔ e.blk k) ∧ (e'.wr = e.wr) ∧ (e'.own = true → e.own = true) ∧ e'.ok w' := by
    intro i e' hi
    rcases hT2 i e' hi with ⟨j, e1, e, hs, ho, hw, ht, hm⟩ | ⟨ht, hno⟩
    · exact ⟨e, ht, hm.blk2, hm.wr.2.1.trans hm.wr.2.2.symm, hm.own, hm.ok w' (h1.ok _ _ (oldO j e1 ho))⟩
    · refine ⟨e', ht, fun _ => Iff.rfl, rfl, id, e'.stable w w' (fun k hk => ?_) (hT.ok i e' ht)⟩
      have hlt := e'.inb w k (hT.ok i e' ht) hk
      refine h1.frame k hlt (fun q x hx hw hb => ?_)
      rcases app_get N O hx with ⟨_, hx⟩ | ⟨_, hx⟩
      · have := newb q x hx k hb; omega
      · obtain ⟨i2, e, e2, hs, ht2, hm⟩ := hO _ x hx hw
        have hne : i2 ≠ i := fun h => by
          subst h
          rw [hno _ x hs hx] at hw; cases hw
        exact hT.disj i2 i e e' hne ht2 ht (.inl hm.wr.2.2) k ((hm.blk2 k).1 (hm.blk1 k hb)) hk
  have back : ∀ (i : Nat) (e : Ent), T[i]? = some e → ∃ e', T2[i]? = some e' ∧ (∀ k, e'.blk k ↔ e.blk k) ∧ e'.wr = e.wr := by
    intro i e hi
    have hl : i < T2.length := by rw [hlen]; exact (List.getElem?_eq_some_iff.1 hi).1
    obtain ⟨e2, h2, h3, h4, _⟩ := key i _ (List.getElem?_eq_getElem hl)
    rw [hi] at h2; cases h2
    exact ⟨_, List.getElem?_eq_getElem hl, h3, h4⟩
  refine ⟨h1.os.trans hT.os, h1.tape.trans hT.tape, h1.output.trans hT.output, Nat.le_trans hT.size h1.size, ?_, ?_, ?_, ?_⟩
  · intro i e hi
    rcases app_get N T2 hi with ⟨_, hi⟩ | ⟨_, hi⟩
    · exact h1.ok i e (oldN i e hi)
    · obtain ⟨_, _, _, _, _, h⟩ := key _ e hi; exact h
  · intro k hk hno
    have hk' : k < w.heap.size := Nat.lt_of_lt_of_le hk hT.size
    have hT2no : ∀ (i : Nat) (e : Ent), T[i]? = some e → e.wr = true → ¬ e.blk k := by
      intro i e hi hw hb
      obtain ⟨e', h2, h3, h4⟩ := back i e hi
      refine hno (N.length + i) e' ?_ (h4.trans hw) ((h3 k).2 hb)
      rw [List.getElem?_append_right (by omega), show N.length + i - N.length = i by omega]; exact h2
    refine (h1.frame k hk' (fun q x hx hw hb => ?_)).trans (hT.frame k hk hT2no)
    rcases app_get N O hx with ⟨_, hx⟩ | ⟨_, hx⟩
    · have := newb q x hx k hb; omega
    · obtain ⟨i2, e, e2, hs, ht2, hm⟩ := hO _ x hx hw
      exact hT2no i2 e ht2 hm.wr.2.2 ((hm.blk2 k).1 (hm.blk1 k hb))
  · intro i e hi ho k hk
    rcases app_get N T2 hi with ⟨_, hi⟩ | ⟨_, hi⟩
    · exact Nat.le_trans hT.size (newb i e hi k hk)
    · obtain ⟨e0, h2, h3, _, h5, _⟩ := key _ e hi
      exact hT.own _ e0 h2 (h5 ho) k ((h3 k).1 hk)
  · intro i j e e' hij hi hj hw k hk hk'
    rcases app_get N T2 hi with ⟨hli, hi⟩ | ⟨hli, hi⟩ <;> rcases app_get N T2 hj with ⟨hlj, hj⟩ | ⟨hlj, hj⟩
    · exact h1.disj i j e e' hij (oldN i e hi) (oldN j e' hj) hw k hk hk'
    · obtain ⟨e0, h2, h3, _⟩ := key _ e' hj
      have := newb i e hi k hk
      have := e0.inb w k (hT.ok _ e0 h2) ((h3 k).1 hk')
      omega
    · obtain ⟨e0, h2, h3, _⟩ := key _ e hi
      have := newb j e' hj k hk'
      have := e0.inb w k (hT.ok _ e0 h2) ((h3 k).1 hk)
      omega
    · obtain ⟨e0, h2, h3, h4, _⟩ := key _ e hi
      obtain ⟨f0, g2, g3, g4, _⟩ := key _ e' hj
      exact hT.disj _ _ e0 f0 (by omega) h2 g2 (hw.imp (fun h => h4.symm.trans h) (fun h => g4.symm.trans h)) k ((h3 k).1 hk) ((g3 k).1 hk')
def allOwn : List Ent → Bool
  | [] => true
  | e :: r => e.own && allOwn r
theorem allOwn_get : ∀ {N : List Ent}, allOwn N = true → ∀ (i : Nat) (e : Ent), N[i]? = some e → e.own = true := by
  intro N
  induction N with
  | nil => intro _ i e h; simp at h
  | cons x r ih =>
    intro h i e hi
    simp only [allOwn, Bool.and_eq_true] at h
    cases i with
    | zero => simp at hi; subst hi; exact h.1
    | succ i => exact ih h.2 i e (by simpa using hi)
/-- A call that gives new entries alone. -/
theorem Tab.news {w0 w w' : World} {T N : List Ent} (hT : Tab w0 w T) (h1 : Tab w w' N) (hN : allOwn N = true) : Tab w0 w' (N ++ T) :=
  hT.merge (O := []) (s := []) (by rw [List.append_nil]; exact h1) .nil List.nodup_nil (allOwn_get hN)
theorem Rd.tab {w : World} {A : Option Addr} {g o n sz : Nat} {vals : List Value} (h : Rd w A g o n sz vals) : Tab w w [.gen (rdE A g o n sz vals)] :=
  Tab.addOld (Tab.start w) (.gen (rdE A g o n sz vals)) h rfl (fun i x hx => by simp at hx)
section
variable {dfs : List Deferred}
/-! ### The table's entries, picked anew -/
def dropOk : List Ent → Nat → List Nat → Bool
  | [], _, _ => true
  | e :: r, i, σ => (σ.contains i || !e.wr || e.own) && dropOk r (i + 1) σ
theorem dropOk_get : ∀ {T : List Ent} {i : Nat} {σ : List Nat}, dropOk T i σ = true → ∀ (j : Nat) (e : Ent), T[j]? = some e → i + j ∈ σ ∨ e.wr = false ∨ e.own = true := by
  intro T
  induction T with
  | nil => intro i σ _ j e h; simp at h
  | cons x r ih =>
    intro i σ h j e he
    simp only [dropOk, Bool.and_eq_true, Bool.or_eq_true, List.contains_iff_mem, Bool.not_eq_true'] at h
    cases j with
    | zero =>
      simp at he; subst he
      rcases h.1 with (h1 | h1) | h1
      · exact .inl (by simpa using h1)
      · exact .inr (.inl h1)
      · exact .inr (.inr h1)
    | succ j =>
      have := ih h.2 j e (by simpa using he)
      rwa [show i + 1 + j = i + (j + 1) by omega] at this
theorem Tab.pick {w0 w : World} {T T' : List Ent} (hT : Tab w0 w T) (σ : List Nat) (hn : σ.Nodup) (hm : T'.map some = σ.map fun i => T[i]?) (hd : dropOk T 0 σ = true) : Tab w0 w T' := by
  have key : ∀ (i : Nat) (e : Ent), T'[i]? = some e → ∃ j, σ[i]? = some j ∧ T[j]? = some e := by
    intro i e he
    have h1 : (T'.map some)[i]? = some (some e) := by rw [List.getElem?_map, he]; rfl
    rw [hm, List.getElem?_map] at h1
    cases hs : σ[i]? with
    | none => rw [hs] at h1; cases h1
    | some j => rw [hs] at h1; exact ⟨j, rfl, by simpa using h1⟩
  have back : ∀ (j : Nat) (e : Ent), T[j]? = some e → j ∈ σ → ∃ i : Nat, T'[i]? = some e := by
    intro j e he hj
    obtain ⟨i, hi, hij⟩ := List.mem_iff_getElem.1 hj
    have h1 : (T'.map some)[i]? = some (T[j]?) := by rw [hm, List.getElem?_map, List.getElem?_eq_getElem hi, hij]; rfl
    rw [List.getElem?_map] at h1
    cases ht : T'[i]? with
    | none => rw [ht] at h1; cases h1
    | some x => rw [ht, he] at h1; exact ⟨i, by rw [ht]; simpa using h1⟩
  refine ⟨hT.os, hT.tape, hT.output, hT.size, ?_, ?_, ?_, ?_⟩
  · intro i e he
    obtain ⟨j, _, h⟩ := key i e he
    exact hT.ok j e h
  · intro k hk hno
    refine hT.frame k hk (fun j e he hw hb => ?_)
    rcases dropOk_get hd j e he with h | h | h
    · rw [Nat.zero_add] at h
      obtain ⟨i, hi⟩ := back j e he h
      exact hno i e hi hw hb
    · rw [hw] at h; cases h
    · have := hT.own j e he h k hb; omega
  · intro i e he ho k hk
    obtain ⟨j, _, h⟩ := key i e he
    exact hT.own j e h ho k hk
  · intro i j e e' hij he he'
    obtain ⟨a, ha, h1⟩ := key i e he
    obtain ⟨b, hb, h2⟩ := key j e' he'
    exact hT.disj a b e e' (nodup_ne hn hij ha hb) h1 h2
theorem cont_pick {K : Act → World → Prop} {n : Nat} {w0 : World} {L : List (Nat × Value)} {T : List Ent} (σ : List Nat) (T' : List Ent) (hn : σ.Nodup) (hm : T'.map some = σ.map fun i => T[i]?) (hd : dropOk T 0 σ = true) (h : Cont dfs K n w0 L T') : Cont dfs K n w0 L T :=
  fun a w ha hf hT => h a w ha hf (hT.pick σ hn hm hd)
end
end Go.Proofs.Ytommojgfkkoghaa

/- The symbolic executor: slices that grow (append), that are copied over (copy), and facts of the table. Generic in the program. -/
set_option linter.unusedVariables false
set_option linter.unusedSimpArgs false
namespace Go.Proofs.Ytommojgfkkoghaa
open Go Go.RowKit
variable {dfs : List Deferred}

section
variable {P : Program}
theorem cont_fact {K : Act → World → Prop} {n : Nat} {w0 : World} {L : List (Tmp × Value)} {T : List Ent} {F : Prop} (h : ∀ w, Tab w0 w T → F) (hk : F → Cont dfs K n w0 L T) : Cont dfs K n w0 L T :=
  fun a w ha hf hT => hk (h w hT) a w ha hf hT
theorem Tab.fresh {w0 w : World} {T : List Ent} (hT : Tab w0 w T) (e : Ent) (hok : e.ok w) (hb : ∀ k, ¬ e.blk k) : Tab w0 w (e :: T) :=
  hT.push rfl rfl rfl (Nat.le_refl _) (fun _ _ => rfl) hok (fun k hk => absurd hk (hb k))
/-- A slice that is nil, as a row of the call's own. -/
theorem cont_nilrow {K : Act → World → Prop} {n : Nat} {w0 : World} {L : List (Tmp × Value)} {T : List Ent} (e : TypeId) (sz : Nat) (hk : Cont dfs K n w0 L (.gen (rowE none 0 0 0 e sz [] true) :: T)) : Cont dfs K n w0 L T :=
  fun a w ha hf hT => hk a w ha hf (hT.fresh _ (show Row w none 0 0 0 e sz [] from ⟨⟨by simp, .inl ⟨rfl, rfl⟩⟩, fun h => by omega, fun a ha => by cases ha⟩) (fun k hk => hk.2 rfl))
theorem Row.ofCells {w : World} {b n sz : Nat} {cs : List Value} {e : TypeId} (h : w.heap[b]? = some (.cells cs.toArray e (0, 0))) (hl : cs.length = n * sz) (hn : n ≤ maxLen) : Row w (some ⟨b, 0, none⟩) b n n e sz cs :=
  ⟨⟨hl, .inr ⟨b, n, cs.toArray, rfl, Nat.zero_le _, h, Nat.le_refl _, hn, by simp [hl], by simp [← hl]⟩⟩, fun _ => rfl, fun a ha => by cases ha; rfl⟩
/-- A block of cells, as a row. -/
theorem cont_asRow {K : Act → World → Prop} {n' : Nat} {w0 : World} {L : List (Tmp × Value)} {T : List Ent} (i n sz : Nat) {b : Nat} {cs vals : List Value} {e : TypeId} {own : Bool} (hi : T[i]? = some (.cells b cs e own)) (hv : cs = vals) (hl : cs.length = n * sz) (hn : n ≤ maxLen)
    (hk : Cont dfs K n' w0 L (T.set i (.gen (rowE (some ⟨b, 0, none⟩) b n n e sz vals own)))) : Cont dfs K n' w0 L T := by
  subst hv
  intro a w ha hf hT
  refine hk a w ha hf ?_
  have hok : w.heap[b]? = some (.cells cs.toArray e (0, 0)) := hT.ok i _ hi
  exact hT.replace (e := .cells b cs e own) (e' := .gen (rowE (some ⟨b, 0, none⟩) b n n e sz cs own)) hi rfl rfl id (fun k hk => .inl hk.1) (fun k _ hk _ => ⟨hk, by simp⟩) rfl rfl rfl (Nat.le_refl _) (fun _ _ _ => rfl) (Row.ofCells hok hl hn)
theorem Rd.ofCells {w : World} {b m sz : Nat} {cs vals : List Value} {e : TypeId} (h : w.heap[b]? = some (.cells cs.toArray e (0, 0))) (hv : cs = vals) (hl : cs.length = m * sz) : Rd w (some ⟨b, 0, none⟩) b 0 m sz vals := by
  subst hv
  refine ⟨hl, fun _ => rfl, fun j v hj => ?_⟩
  simp only [Nat.zero_add]
  simp [World.cell?, h, hj]
theorem ivals_append (k : IntKind) (xs ys : List Int) : ivals k xs ++ ivals k ys = ivals k (xs ++ ys) := by simp [ivals]
theorem ivals_one (k : IntKind) (xs : List Int) : ∀ u ∈ ivals k xs, u.oneCell' = true := by
  intro u hu
  obtain ⟨x, _, rfl⟩ := List.mem_map.1 hu
  rfl
theorem addr_add (b o j : Nat) : (⟨b, o, none⟩ : Addr).add j = ⟨b, o + j, none⟩ := by unfold Addr.add; split <;> simp_all

theorem append_own {w0 w : World} {T : List Ent} (hT : Tab w0 w T) {t ty e : TypeId} {A : Option Addr} {i g n cap sz bytes n' : Nat} {vals vals' news : List Value} {z : Value} (hi : T[i]? = some (.gen (rowE A g n cap e sz vals true)))
    (ht : P.underlying t = some (.slice e)) (hinf : (P.info? e).map (fun i => (i.zero, i.size, i.bytes)) = some (some z, sz, bytes)) (hzs : z.cells.size = sz) (hsz : 0 < sz) (hby : 0 < bytes)
    {SA : Option Addr} {sg so m sc : Nat} (hsrc : Rd w SA sg so m sz news) (h1 : ∀ u ∈ news, u.oneCell' = true) (hb : (n + m) * bytes ≤ 140737488355328) (hv : vals ++ news = vals') (hn' : n' = n + m) :
    ∃ (x : Option Addr × Nat × Nat) (w' : World), (Builtin.append_ #[t, t] ty #[.slice A n cap, .slice SA m sc]).run P w = .ok (.slice x.1 n' x.2.2) w' ∧ True ∧ Tab w0 w' (T.set i (.gen (rowE x.1 x.2.1 n' x.2.2 e sz vals' true))) := by
  subst hv hn'
  have hrow : Row w A g n cap e sz vals := hT.ok i _ hi
  obtain ⟨inf, hinf1, hinf2⟩ := Option.map_eq_some_iff.1 hinf
  simp only [Prod.mk.injEq] at hinf2
  obtain ⟨hz, hs, hbt⟩ := hinf2
  by_cases hm : m = 0
  · subst hm
    have hnil : news = [] := List.length_eq_zero_iff.1 (by have := hsrc.len; simpa using this)
    subst hnil
    refine ⟨(A, g, cap), w, ?_, trivial, ?_⟩
    · have hle : n ≤ cap := hrow.capLe
      cases A <;> cases SA <;> simp [Builtin.append_, run_underlying ht, sizeOf, typeInfo, hinf1, Builtin.lenOf, hle, Builtin.firstCells, storeCells, loadCells, loadCellsFrom]
    · simp only [List.append_nil, Nat.add_zero]
      have : T.set i (.gen (rowE A g n cap e sz vals true)) = T := by
        obtain ⟨hlt, he⟩ := List.getElem?_eq_some_iff.1 hi
        rw [← he]
        exact List.set_getElem_self hlt
      rw [this]; exact hT
  · have hSA := hsrc.at_ (by omega)
    subst hSA
    have hml : n + m ≤ maxLen := by
      have h2 : (n + m) * 1 ≤ (n + m) * bytes := Nat.mul_le_mul_left _ hby
      unfold maxLen; omega
    obtain ⟨v', w', hr, hown, hg, _, hat⟩ := run_append_own_at (P := P) w 0 t ty e inf z sz bytes ht hinf1 hz hs hbt hzs hsz (.slice A n cap) n vals hrow.own ⟨sg, so, none⟩ m sc news hsrc.len (fun j u hj => by rw [addr_add]; exact hsrc.cell j u hj) h1 hml hb (Nat.zero_le _)
    rcases hown.2 with ⟨hv0, h0⟩ | ⟨g', cap', cur, hv', _, hg', hle, hcm, hcs, htk⟩
    · omega
    · subst hv'
      refine ⟨(some ⟨g', 0, none⟩, g', cap'), w', hr, trivial, ?_⟩
      have hwhere : (k : Nat) → k = g' → (k = g ∧ A ≠ none) ∨ w.heap.size ≤ k := by
        intro k hk
        subst hk
        rcases hat with hat | hat
        · left
          cases A with
          | none => simp [Value.ownBlock] at hat
          | some a =>
            have := hrow.spot a rfl
            subst this
            simp [Value.ownBlock] at hat
            exact ⟨hat, by simp⟩
        · right
          simp [Value.ownBlock] at hat
          omega
      refine hT.replace (e := .gen (rowE A g n cap e sz vals true)) (e' := .gen (rowE (some ⟨g', 0, none⟩) g' (n + m) cap' e sz (vals ++ news) true)) hi rfl rfl id (fun k hk => hwhere k hk.1) (fun k _ hk hlt => ?_) hg.os hg.tape hg.output hg.size (fun k hk hne => ?_) ?_
      · have := hT.own i _ hi rfl k hk
        omega
      · refine hg.block k hk (fun hek => hne ?_)
        cases A with
        | none => simp [Value.ownBlock] at hek
        | some a =>
          have := hrow.spot a rfl
          subst this
          simp [Value.ownBlock] at hek
          exact ⟨hek, by simp⟩
      · exact ⟨hown, fun _ => rfl, fun a ha => by cases ha; rfl⟩

/-- copy: m numbers of a row that is read over dl numbers of a row from o on. -/
theorem copy_row {w0 w : World} {T : List Ent} (hT : Tab w0 w T) {dT sT ty e : TypeId} {i g n cap o dl dc : Nat} {k : IntKind} {xs ys : List Int} {own : Bool} {A SA : Option Addr} {sg so m sc : Nat} (hi : T[i]? = some (.gen (rowE (some ⟨g, 0, none⟩) g n cap e 1 (ivals k xs) own)))
    (hu : P.underlying dT = some (.slice e)) (hs : (P.info? e).map (·.size) = some 1) (hA : 0 < dl → A = some ⟨g, o, none⟩) (hfit : o + dl ≤ n) (hsrc : Rd w SA sg so m 1 (ivals k ys)) {xs' : List Int} (hx : xs.take o ++ ys.take (min m dl) ++ xs.drop (o + min m dl) = xs') :
    ∃ (x : Unit) (w' : World), (Builtin.copy_ #[dT, sT] ty #[.slice A dl dc, .slice SA m sc]).run P w = .ok (.int .i64 (min m dl : Nat)) w' ∧ True ∧ Tab w0 w' (T.set i (.gen (rowE (some ⟨g, 0, none⟩) g n cap e 1 (ivals k xs') own))) := by
  subst hx
  have hrow : Row w (some ⟨g, 0, none⟩) g n cap e 1 (ivals k xs) := hT.ok i _ hi
  have hxl : xs.length = n := by have := hrow.own.1; rw [ivals_length] at this; omega
  have hyl : ys.length = m := by have := hsrc.len; rw [ivals_length] at this; omega
  by_cases h0 : min m dl = 0
  · refine ⟨(), w, ?_, trivial, ?_⟩
    · rw [h0]
      exact run_copy_none (P := P) w dT sT ty e A SA dl dc m sc hu hs h0
    · rw [h0, List.take_zero, List.append_nil, Nat.add_zero, List.take_append_drop]
      have : T.set i (.gen (rowE (some ⟨g, 0, none⟩) g n cap e 1 (ivals k xs) own)) = T := by
        obtain ⟨hlt, he⟩ := List.getElem?_eq_some_iff.1 hi
        rw [← he]
        exact List.set_getElem_self hlt
      rw [this]; exact hT
  · have hd : 0 < dl := by omega
    have hm : 0 < m := by omega
    have hAA := hA hd
    have hSA := hsrc.at_ hm
    subst hAA hSA
    rcases hrow.own.2 with ⟨h, _⟩ | ⟨g', cap', cur, hv, _, hg, hle, hcm, hcs, htk⟩
    · cases h
    cases hv
    simp only [Nat.mul_one] at hcs htk
    have hcl : (ivals k (ys.take (min m dl))).length = Nat.min m dl := by rw [ivals_length, List.length_take]; simp only [Nat.min_def] at *; split <;> split <;> omega
    have hmin : Nat.min m dl = min m dl := rfl
    have hr := run_copy_row (P := P) w dT sT ty e g o dl dc ⟨sg, so, none⟩ m sc cur e (ivals k (ys.take (min m dl))) hu hs hg hcl (fun j v hj => by
      rw [addr_add]
      refine hsrc.cell j v ?_
      rw [← hj]
      have hjl : j < (ivals k (ys.take (min m dl))).length := (List.getElem?_eq_some_iff.1 hj).1
      rw [hcl, hmin] at hjl
      simp only [ivals, List.getElem?_map, List.getElem?_take, if_pos hjl]) (by rw [hcl, hmin]; omega) (ivals_one _ _)
    rw [hcl] at hr
    refine ⟨(), _, hr, trivial, ?_⟩
    have hsz : min m dl ≤ dl := Nat.min_le_right _ _
    refine hT.replace (e := .gen (rowE (some ⟨g, 0, none⟩) g n cap e 1 (ivals k xs) own)) (e' := .gen (rowE (some ⟨g, 0, none⟩) g n cap e 1 _ own)) hi rfl rfl id (fun k hk => .inl hk) (fun k _ hk _ => hk) rfl rfl rfl (by simp) (fun q hq hne => setRow_other w g q _ (fun he => hne ⟨he, by simp⟩)) ?_
    refine ⟨⟨?_, .inr ⟨g, cap, _, rfl, Nat.zero_le _, setRow_heap w g cur _ e _ hg, hle, hcm, ?_, ?_⟩⟩, fun _ => rfl, fun a ha => by cases ha; rfl⟩
    · rw [ivals_length]
      simp only [List.length_append, List.length_take, List.length_drop, hxl, hyl]
      omega
    · simp only [List.size_toArray, List.length_append, List.length_take, List.length_drop, Array.length_toList, hcl, hmin]
      omega
    · simp only [Nat.mul_one]
      rw [hmin]
      apply List.ext_getElem?
      intro j
      have htk' : ∀ j, j < n → cur.toList[j]? = (ivals k xs)[j]? := fun j hj => by rw [← htk, List.getElem?_take, if_pos hj]
      have e2 : ivals k (xs.take o ++ ys.take (min m dl) ++ xs.drop (o + min m dl)) = (ivals k xs).take o ++ ivals k (ys.take (min m dl)) ++ (ivals k xs).drop (o + min m dl) := by simp [ivals, List.map_take, List.map_drop]
      rw [e2]
      by_cases hjn : j < n
      · rw [List.getElem?_take, if_pos hjn]
        rw [List.getElem?_append, List.getElem?_append, List.getElem?_append, List.getElem?_append]
        have la : ((cur.toList.take o).length = o) := by simp; omega
        have lb : (((ivals k xs).take o).length = o) := by simp [ivals_length, hxl]; omega
        have lc : ((ivals k (ys.take (min m dl))).length = min m dl) := hcl
        simp only [List.length_append, la, lb, lc]
        split
        · split
          · rw [List.getElem?_take, List.getElem?_take, if_pos (by omega), if_pos (by omega)]
            exact htk' j hjn
          · rfl
        · rw [List.getElem?_drop, List.getElem?_drop]
          exact htk' _ (by omega)
      · rw [List.getElem?_take, if_neg hjn]
        symm
        apply List.getElem?_eq_none
        simp only [List.length_append, List.length_take, List.length_drop, ivals_length, hxl, hcl, hmin]
        omega
theorem Row.facts {w : World} {A : Option Addr} {g n cap : Nat} {e : TypeId} {k : IntKind} {xs : List Int} (h : Row w A g n cap e 1 (ivals k xs)) : (0 < n → A = some ⟨g, 0, none⟩) ∧ xs.length = n ∧ n ≤ cap ∧ cap ≤ maxLen := by
  refine ⟨h.at_, ?_, h.capLe, ?_⟩
  · have := h.own.1; rw [ivals_length] at this; omega
  · rcases h.own.2 with ⟨h1, _⟩ | ⟨g', cap', cur, hv, _, _, _, hm, _⟩
    · cases h1; unfold maxLen; omega
    · cases hv; exact hm
theorem Rd.flen {w : World} {A : Option Addr} {g o n : Nat} {k : IntKind} {xs : List Int} (h : Rd w A g o n 1 (ivals k xs)) : xs.length = n := by
  have := h.len; rw [ivals_length] at this; omega
theorem Rd.facts {w : World} {A : Option Addr} {g o n : Nat} {k : IntKind} {xs : List Int} (h : Rd w A g o n 1 (ivals k xs)) : (0 < n → A = some ⟨g, o, none⟩) ∧ xs.length = n := ⟨h.at_, h.flen⟩
theorem list_eq_getD {xs ys : List Int} {n : Nat} (hx : xs.length = n) (hy : ys.length = n) (h : ∀ j, j < n → xs.getD j 0 = ys.getD j 0) : xs = ys := by
  apply List.ext_getElem?
  intro j
  by_cases hj : j < n
  · have := h j hj
    rw [List.getD_eq_getElem?_getD, List.getD_eq_getElem?_getD, List.getElem?_eq_getElem (by omega), List.getElem?_eq_getElem (by omega)] at this
    rw [List.getElem?_eq_getElem (by omega), List.getElem?_eq_getElem (by omega)]
    simpa using this
  · rw [List.getElem?_eq_none (by omega), List.getElem?_eq_none (by omega)]
/-- A part of a row, read. -/
theorem Rd.sub {w : World} {g o n cap : Nat} {k : IntKind} {xs : List Int} {A : Option Addr} (h : Rd w A g o n 1 (ivals k xs)) {J m : Nat} (hJ : J + m ≤ n) (hc : n ≤ cap) : Rd w (sliceA g o J cap 1) g (o + J * 1) m 1 (ivals k ((xs.drop J).take m)) := by
  have hl : xs.length = n := by have := h.len; rw [ivals_length] at this; omega
  refine ⟨by rw [ivals_length, List.length_take, List.length_drop]; omega, fun hm => sliceA_pos (by omega), fun j v hj => ?_⟩
  have hjm : j < m := by
    have := (List.getElem?_eq_some_iff.1 hj).1
    rw [ivals_length, List.length_take, List.length_drop] at this
    omega
  rw [show o + J * 1 + j = o + (J + j) by omega]
  refine h.cell (J + j) v ?_
  rw [← hj]
  simp only [ivals, List.getElem?_map, List.getElem?_take, if_pos hjm, List.getElem?_drop]
theorem Row.sub {w : World} {g n cap : Nat} {e : TypeId} {k : IntKind} {xs : List Int} {A : Option Addr} (h : Row w A g n cap e 1 (ivals k xs)) {J m : Nat} (hJ : J + m ≤ n) : Rd w (sliceA g 0 J cap 1) g (0 + J * 1) m 1 (ivals k ((xs.drop J).take m)) :=
  Rd.sub h.rd hJ h.capLe
end
end Go.Proofs.Ytommojgfkkoghaa

/- Plain words of the document's images (rondelref01, rondelref03, rondelref04) and of what builds and compares images. -/
set_option linter.unusedVariables false
set_option linter.unusedSimpArgs false
namespace Go.Proofs.Ytommojgfkkoghaa
open Go Go.RowKit

def aroundI (n m : Int) : Int := (if n < 0 then 0 - (n + 1) else n) % m
theorem aroundI_range (n : Int) {m : Int} (h : 0 < m) : 0 ≤ aroundI n m ∧ aroundI n m < m := ⟨Int.emod_nonneg _ (by omega), Int.emod_lt_of_pos _ h⟩
def goodC (c : Int) : Int := mkC (pa c) (mn (pr c) (pa c)) (mn (pg c) (pa c)) (mn (pb c) (pa c))
theorem parts_mk (a r g b : Int) : pa (mkC a r g b) = clip a ∧ pr (mkC a r g b) = clip r ∧ pg (mkC a r g b) = clip g ∧ pb (mkC a r g b) = clip b := by
  have := clip_range a; have := clip_range r; have := clip_range g; have := clip_range b
  unfold pa pr pg pb mkC
  omega
theorem pa_range {c : Int} (h : InC c) : 0 ≤ pa c ∧ pa c ≤ 255 := by obtain ⟨h1, h2⟩ := h; unfold pa; omega
theorem goodC_may (c : Int) (h : InC c) : mayB (goodC c) = true ∧ InC (goodC c) := by
  refine ⟨?_, mkC_range _ _ _ _⟩
  obtain ⟨h1, h2, h3, h4⟩ := parts_mk (pa c) (mn (pr c) (pa c)) (mn (pg c) (pa c)) (mn (pb c) (pa c))
  have := pa_range h
  unfold mayB
  rw [goodC, h1, h2, h3, h4]
  simp only [Bool.and_eq_true, decide_eq_true_eq]
  unfold clip mn
  omega
def goodP (n : Nat) (xs : List Int) (i : Nat) : List Int := (List.range n).map fun j => if j < i then goodC (xs.getD j 0) else 0
theorem goodP_length (n : Nat) (xs : List Int) (i : Nat) : (goodP n xs i).length = n := by simp [goodP]
theorem goodP_zero (n : Nat) (xs : List Int) : goodP n xs 0 = List.replicate n 0 := by
  apply List.ext_getElem?
  intro j
  simp only [goodP, List.getElem?_map, List.getElem?_range', List.getElem?_replicate]
  by_cases h : j < n <;> simp [h]
theorem goodP_set {n : Nat} {xs : List Int} {i : Nat} (h : i < n) : (goodP n xs i).set i (goodC (xs.getD i 0)) = goodP n xs (i + 1) := by
  apply List.ext_getElem?
  intro j
  rw [List.getElem?_set]
  simp only [goodP, List.getElem?_map, List.length_map, List.length_range]
  by_cases hj : i = j
  · subst hj
    simp [h]
  · simp only [if_neg hj]
    by_cases hn : j < n
    · simp only [List.getElem?_range hn, Option.map_some]
      by_cases h2 : j < i
      · rw [if_pos h2, if_pos (by omega)]
      · rw [if_neg h2, if_neg (by omega)]
    · simp [hn]
theorem goodC_zero : goodC 0 = 0 := by decide
theorem goodP_end {n : Nat} {xs : List Int} {i : Nat} (h : n ≤ i ∨ xs.length ≤ i) : goodP n xs i = goodP n xs n := by
  unfold goodP
  refine List.map_congr_left fun j hj => ?_
  have hjn : j < n := List.mem_range.1 hj
  rw [if_pos hjn]
  split
  · rfl
  · have : xs.length ≤ j := by omega
    rw [List.getD_eq_getElem?_getD, List.getElem?_eq_none this]
    exact goodC_zero.symm
/-- What comes in where the document makes an image of any numbers and colors. -/
structure GoodIn (a b : Int) (A : Option Addr) (g o n cap : Nat) (xs : List Int) : Prop where
  a : -9223372036854775808 ≤ a ∧ a ≤ 9223372036854775807
  b : -9223372036854775808 ≤ b ∧ b ≤ 9223372036854775807
  len : xs.length = n
  le : n ≤ cap
  mx : cap ≤ maxLen
  rng : ∀ x ∈ xs, InC x
  at_ : 0 < n → A = some ⟨g, o, none⟩
/-- Colors that may be. -/
def AllMay (px : List Int) : Prop := ∀ c ∈ px, mayB c = true ∧ InC c
theorem goodP_may {n : Nat} {xs : List Int} (i : Nat) (h : ∀ x ∈ xs, InC x) : AllMay (goodP n xs i) := by
  intro c hc
  obtain ⟨j, _, rfl⟩ := List.mem_map.1 hc
  split
  · refine goodC_may _ ?_
    rw [List.getD_eq_getElem?_getD]
    cases hx : xs[j]? with
    | none => exact ⟨by simp, by simp⟩
    | some x => exact h x (List.mem_of_getElem? hx)
  · exact ⟨by decide, by decide, by decide⟩
theorem AllMay.get {px : List Int} (h : AllMay px) {i : Nat} (hi : i < px.length) : mayB (px.getD i 0) = true ∧ InC (px.getD i 0) := by
  rw [List.getD_eq_getElem?_getD, List.getElem?_eq_getElem hi]
  exact h _ (List.getElem_mem hi)
theorem imgOk_of {W H : Int} {n : Nat} {px : List Int} (hw : 1 ≤ W ∧ W ≤ 256 ∧ 1 ≤ H ∧ H ≤ 256) (hn : (n : Int) = W * H) (hl : px.length = n) (hm : AllMay px) : ImgOk W H n px :=
  ⟨hw.1, hw.2.1, hw.2.2.1, hw.2.2.2, hn, hl, fun c hc => (hm c hc).2⟩

def setL (W H : Int) (px : List Int) (x y c : Int) : List Int := if hasB 0 0 W H x y && mayB c then px.set (y * W + x).toNat c else px
def setE (W H x y c : Int) : Int := if !hasB 0 0 W H x y then 4 else if !mayB c then 1 else 0
theorem ImgOk.setL {W H : Int} {n : Nat} {px : List Int} (h : ImgOk W H n px) (x y : Int) {c : Int} (hc : InC c) : ImgOk W H n (setL W H px x y c) := by
  unfold Go.Proofs.Ytommojgfkkoghaa.setL
  split
  · exact h.set _ hc
  · exact h
theorem place_inv (i : Nat) {W : Int} (hW : 1 ≤ W) : (i : Int) / W * W + (i : Int) % W = i := by
  rw [Int.mul_comm]; exact Int.mul_ediv_add_emod _ _
theorem in_box {W H : Int} {n i : Nat} (hW : 1 ≤ W) (hn : (n : Int) = W * H) (hi : i < n) : hasB 0 0 W H ((i : Int) % W) ((i : Int) / W) = true := by
  have h1 := Int.emod_nonneg (i : Int) (show W ≠ 0 by omega)
  have h2 := Int.emod_lt_of_pos (i : Int) (show 0 < W by omega)
  have h3 := Int.ediv_nonneg (show 0 ≤ (i : Int) by omega) (show 0 ≤ W by omega)
  refine hasB_true.2 ⟨h1, h2, h3, ?_⟩
  exact Int.ediv_lt_of_lt_mul (by omega) (by rw [Int.mul_comm, ← hn]; omega)
theorem setL_at {W H : Int} {n i : Nat} {px : List Int} {c : Int} (hW : 1 ≤ W) (hn : (n : Int) = W * H) (hi : i < n) (hc : mayB c = true) : setL W H px ((i : Int) % W) ((i : Int) / W) c = px.set i c := by
  unfold setL
  rw [in_box hW hn hi, hc, Bool.and_self, if_pos rfl, place_inv i hW]
  rfl
theorem atC_at {W H : Int} {n i : Nat} (px : List Int) (hW : 1 ≤ W) (hn : (n : Int) = W * H) (hi : i < n) : atC W H px ((i : Int) % W) ((i : Int) / W) = px.getD i 0 := by
  unfold atC
  rw [in_box hW hn hi, if_pos rfl, place_inv i hW]
  rfl
def bldP (px : List Int) (i : Nat) : List Int := px.mapIdx fun j c => if j < i then c else 0
theorem bldP_length (px : List Int) (i : Nat) : (bldP px i).length = px.length := by simp [bldP]
theorem bldP_zero (px : List Int) : bldP px 0 = List.replicate px.length 0 := by
  apply List.ext_getElem?
  intro j
  simp only [bldP, List.getElem?_mapIdx, List.getElem?_replicate]
  by_cases h : j < px.length
  · simp [h]
  · simp [h]
theorem bldP_all {px : List Int} {i : Nat} (h : px.length ≤ i) : bldP px i = px := by
  apply List.ext_getElem?
  intro j
  simp only [bldP, List.getElem?_mapIdx]
  by_cases hj : j < px.length
  · simp [hj, show j < i by omega]
  · simp [hj]
theorem bldP_set {px : List Int} {i : Nat} (h : i < px.length) : (bldP px i).set i (px.getD i 0) = bldP px (i + 1) := by
  apply List.ext_getElem?
  intro j
  rw [List.getElem?_set]
  simp only [bldP, List.getElem?_mapIdx, List.length_mapIdx]
  by_cases hj : i = j
  · subst hj
    simp [h]
  · simp only [if_neg hj]
    cases px[j]? with
    | none => rfl
    | some v =>
      simp only [Option.map_some]
      by_cases h2 : j < i
      · rw [if_pos h2, if_pos (by omega)]
      · rw [if_neg h2, if_neg (by omega)]
theorem bldP_may {px : List Int} (h : AllMay px) (i : Nat) : AllMay (bldP px i) := by
  intro c hc
  obtain ⟨j, hj⟩ := List.getElem?_of_mem hc
  simp only [bldP, List.getElem?_mapIdx] at hj
  cases hp : px[j]? with
  | none => rw [hp] at hj; cases hj
  | some v =>
    rw [hp] at hj
    simp only [Option.map_some, Option.some.injEq] at hj
    subst hj
    split
    · exact h v (List.mem_of_getElem? hp)
    · exact ⟨by decide, by decide, by decide⟩
theorem emod_range (i : Nat) {W : Int} (hW : 1 ≤ W) : 0 ≤ (i : Int) % W ∧ (i : Int) % W < W ∧ 0 ≤ (i : Int) / W ∧ (i : Int) / W ≤ i :=
  ⟨Int.emod_nonneg _ (by omega), Int.emod_lt_of_pos _ (by omega), Int.ediv_nonneg (by omega) (by omega), Int.ediv_le_self _ (by omega)⟩

/-! ### Fill, as the document has it: point by point -/
theorem fillP_take {W : Int} {px : List Int} {x0 y0 x1 y1 c : Int} {i : Nat} (h : i < px.length) :
    (fillP W px x0 y0 x1 y1 c).take i ++ [if hasB x0 y0 x1 y1 ((i : Int) % W) ((i : Int) / W) then c else px.getD i 0] = (fillP W px x0 y0 x1 y1 c).take (i + 1) := by
  rw [List.take_add_one, fillP_get, List.getElem?_eq_getElem h]
  simp [List.getD_eq_getElem?_getD, List.getElem?_eq_getElem h]
theorem fillP_full {W : Int} {px : List Int} {x0 y0 x1 y1 c : Int} {i : Nat} (h : px.length ≤ i) : (fillP W px x0 y0 x1 y1 c).take i = fillP W px x0 y0 x1 y1 c := List.take_of_length_le (by rw [fillP_length]; exact h)
/-- How many of the first i points lie in a rectangle. -/
def cntP (W a b c d : Int) : Nat → Int
  | 0 => 0
  | i + 1 => cntP W a b c d i + if hasB a b c d ((i : Int) % W) ((i : Int) / W) then 1 else 0
theorem cntP_range (W a b c d : Int) : ∀ i : Nat, 0 ≤ cntP W a b c d i ∧ cntP W a b c d i ≤ i := by
  intro i
  induction i with
  | zero => simp [cntP]
  | succ i ih =>
    simp only [cntP]
    split <;> omega

/-! ### Solid -/
/-! ### Two images -/
end Go.Proofs.Ytommojgfkkoghaa

/- Plain words of Copy: points of one image that come into another one. -/
set_option linter.unusedVariables false
set_option linter.unusedSimpArgs false
namespace Go.Proofs.Ytommojgfkkoghaa
open Go Go.RowKit

def farI (n : Int) : Int := mn (mx n (-1048576)) 1048576
theorem farI_range (n : Int) : -1048576 ≤ farI n ∧ farI n ≤ 1048576 := by unfold farI mn mx; omega
/-- The part of a rectangle that lies in the image it comes from, and comes to lie in the image it goes to. -/
def copyR (a b c d W' H' dx dy W H : Int) : Rect :=
  cutR (cutR a b c d 0 0 W' H').x0 (cutR a b c d 0 0 W' H').y0 (cutR a b c d 0 0 W' H').x1 (cutR a b c d 0 0 W' H').y1 (0 - dx) (0 - dy) (W - dx) (H - dy)
theorem cutR_has (a b c d a' b' c' d' x y : Int) : hasB (cutR a b c d a' b' c' d').x0 (cutR a b c d a' b' c' d').y0 (cutR a b c d a' b' c' d').x1 (cutR a b c d a' b' c' d').y1 x y = true ↔ hasB a b c d x y = true ∧ hasB a' b' c' d' x y = true := by
  unfold cutR
  cases h : emptyB (max a a') (max b b') (min c c') (min d d') with
  | true =>
    have := emptyB_true.1 h
    simp only [if_true, hasB_true]
    omega
  | false =>
    simp only [Bool.false_eq_true, if_false, hasB_true]
    omega
theorem cutR_cases (a b c d a' b' c' d' : Int) : ((cutR a b c d a' b' c' d').x0 = 0 ∧ (cutR a b c d a' b' c' d').y0 = 0 ∧ (cutR a b c d a' b' c' d').x1 = 0 ∧ (cutR a b c d a' b' c' d').y1 = 0) ∨
    ((cutR a b c d a' b' c' d').x0 < (cutR a b c d a' b' c' d').x1 ∧ (cutR a b c d a' b' c' d').y0 < (cutR a b c d a' b' c' d').y1) := by
  unfold cutR
  cases h : emptyB (max a a') (max b b') (min c c') (min d d') with
  | true => left; simp
  | false => right; have := emptyB_false.1 h; simpa using this
theorem copyR_has (a b c d W' H' dx dy W H x y : Int) : hasB (copyR a b c d W' H' dx dy W H).x0 (copyR a b c d W' H' dx dy W H).y0 (copyR a b c d W' H' dx dy W H).x1 (copyR a b c d W' H' dx dy W H).y1 x y = true ↔
    hasB a b c d x y = true ∧ hasB 0 0 W' H' x y = true ∧ hasB (0 - dx) (0 - dy) (W - dx) (H - dy) x y = true := by
  unfold copyR
  rw [cutR_has, cutR_has, and_assoc]
/-- All that the loop of Copy needs of its rectangle. -/
theorem copyR_in (a b c d W' H' dx dy W H : Int) {r : Rect} (hr : r = copyR a b c d W' H' dx dy W H) (hW : 1 ≤ W) (hH : 1 ≤ H) (hW' : 1 ≤ W' ∧ W' ≤ 256) (hH' : 1 ≤ H' ∧ H' ≤ 256) :
    (r.x0 = 0 ∧ r.y0 = 0 ∧ r.x1 = 0 ∧ r.y1 = 0) ∨ (0 ≤ r.x0 ∧ r.x0 < r.x1 ∧ r.x1 ≤ W' ∧ 0 ≤ r.y0 ∧ r.y0 < r.y1 ∧ r.y1 ≤ H' ∧ 0 ≤ r.x0 + dx ∧ r.x1 + dx ≤ W ∧ 0 ≤ r.y0 + dy ∧ r.y1 + dy ≤ H) := by
  subst hr
  rcases cutR_cases (cutR a b c d 0 0 W' H').x0 (cutR a b c d 0 0 W' H').y0 (cutR a b c d 0 0 W' H').x1 (cutR a b c d 0 0 W' H').y1 (0 - dx) (0 - dy) (W - dx) (H - dy) with h | ⟨h1, h2⟩
  · exact .inl h
  · right
    have h1' : (copyR a b c d W' H' dx dy W H).x0 < (copyR a b c d W' H' dx dy W H).x1 := h1
    have h2' : (copyR a b c d W' H' dx dy W H).y0 < (copyR a b c d W' H' dx dy W H).y1 := h2
    have p := (copyR_has a b c d W' H' dx dy W H (copyR a b c d W' H' dx dy W H).x0 (copyR a b c d W' H' dx dy W H).y0).1 (hasB_true.2 ⟨Int.le_refl _, h1', Int.le_refl _, h2'⟩)
    have q := (copyR_has a b c d W' H' dx dy W H ((copyR a b c d W' H' dx dy W H).x1 - 1) ((copyR a b c d W' H' dx dy W H).y1 - 1)).1 (hasB_true.2 ⟨by omega, by omega, by omega, by omega⟩)
    obtain ⟨_, p2, p3⟩ := p
    obtain ⟨_, q2, q3⟩ := q
    have p2 := hasB_true.1 p2; have p3 := hasB_true.1 p3; have q2 := hasB_true.1 q2; have q3 := hasB_true.1 q3
    omega
/-- The colors behind a Copy of the rows below y. -/
def copyP (W : Int) (px : List Int) (W' : Int) (px' : List Int) (x0 y0 x1 y dx dy : Int) : List Int :=
  px.mapIdx fun i v => if hasB x0 y0 x1 y ((i : Int) % W - dx) ((i : Int) / W - dy) then px'.getD (Int.toNat (((i : Int) / W - dy) * W' + ((i : Int) % W - dx))) 0 else v
theorem copyP_length (W : Int) (px : List Int) (W' : Int) (px' : List Int) (x0 y0 x1 y dx dy : Int) : (copyP W px W' px' x0 y0 x1 y dx dy).length = px.length := by simp [copyP]
theorem copyP_get (W : Int) (px : List Int) (W' : Int) (px' : List Int) (x0 y0 x1 y dx dy : Int) (j : Nat) : (copyP W px W' px' x0 y0 x1 y dx dy)[j]? = (px[j]?).map fun v => if hasB x0 y0 x1 y ((j : Int) % W - dx) ((j : Int) / W - dy) then px'.getD (Int.toNat (((j : Int) / W - dy) * W' + ((j : Int) % W - dx))) 0 else v := by simp [copyP]
theorem copyP_none (W : Int) (px : List Int) (W' : Int) (px' : List Int) (x0 y0 x1 y dx dy : Int) (h : y ≤ y0) : copyP W px W' px' x0 y0 x1 y dx dy = px := by
  apply List.ext_getElem?
  intro j
  rw [copyP_get]
  cases px[j]? with
  | none => rfl
  | some v => simp only [Option.map_some]; rw [if_neg (fun hh => by have := hasB_true.1 hh; omega)]
theorem copyP_rng {W : Int} {px : List Int} {W' : Int} {px' : List Int} (h : ∀ c ∈ px, InC c) (h' : ∀ c ∈ px', InC c) (x0 y0 x1 y dx dy : Int) : ∀ c ∈ copyP W px W' px' x0 y0 x1 y dx dy, InC c := by
  intro c hc
  obtain ⟨j, hj⟩ := List.getElem?_of_mem hc
  rw [copyP_get] at hj
  cases hp : px[j]? with
  | none => rw [hp] at hj; cases hj
  | some v =>
    rw [hp] at hj
    simp only [Option.map_some, Option.some.injEq] at hj
    have hv := h v (List.mem_of_getElem? hp)
    split at hj
    · subst hj
      rw [List.getD_eq_getElem?_getD]
      cases hx : px'[(Int.toNat (((j : Int) / W - dy) * W' + ((j : Int) % W - dx)))]? with
      | none => exact ⟨by simp, by simp⟩
      | some u => exact h' u (List.mem_of_getElem? hx)
    · subst hj; exact hv
theorem ImgOk.copyP {W H : Int} {n : Nat} {px : List Int} {W' H' : Int} {n' : Nat} {px' : List Int} (h : ImgOk W H n px) (h' : ImgOk W' H' n' px') (x0 y0 x1 y dx dy : Int) : ImgOk W H n (copyP W px W' px' x0 y0 x1 y dx dy) :=
  ⟨h.w1, h.w2, h.h1, h.h2, h.num, by rw [copyP_length]; exact h.len, copyP_rng h.rng h'.rng _ _ _ _ _ _⟩
/-- One row more. -/
theorem copyP_row {W H W' H' : Int} {n n' : Nat} {px px' : List Int} (h : ImgOk W H n px) (h' : ImgOk W' H' n' px') {x0 y0 x1 y dx dy : Int} (hx0 : 0 ≤ x0) (hx : x0 < x1) (hx1 : x1 ≤ W') (hy : y0 ≤ y) (hy0 : 0 ≤ y) (hyH : y < H') (hd0 : 0 ≤ x0 + dx) (hd1 : x1 + dx ≤ W) (he0 : 0 ≤ y + dy) (he1 : y + dy < H)
    {o o' k m : Nat} (ho : o = Int.toNat ((y + dy) * W + (x0 + dx))) (ho' : o' = Int.toNat (y * W' + x0)) (hk : (k : Int) = x1 - x0) (hm : m = k) :
    (Go.Proofs.Ytommojgfkkoghaa.copyP W px W' px' x0 y0 x1 y dx dy).take o ++ ((px'.drop o').take m).take k ++ (Go.Proofs.Ytommojgfkkoghaa.copyP W px W' px' x0 y0 x1 y dx dy).drop (o + k) = Go.Proofs.Ytommojgfkkoghaa.copyP W px W' px' x0 y0 x1 (y + 1) dx dy := by
  subst hm
  have hw1 := h.w1
  have hw1' := h'.w1
  have e0 : 0 ≤ (y + dy) * W := Int.mul_nonneg he0 (by omega)
  have e1 : 0 ≤ y * W' := Int.mul_nonneg hy0 (by omega)
  have pl := h.place (x := x1 + dx - 1) (y := y + dy) (by omega) (by omega) (by omega) (by omega)
  have pl' := h'.place (x := x1 - 1) (y := y) (by omega) (by omega) (by omega) (by omega)
  have hl := h.len
  have hl' := h'.len
  apply List.ext_getElem?
  intro j
  have hjq := place_inv j hw1
  have hjr := emod_range j hw1
  have lo : ((Go.Proofs.Ytommojgfkkoghaa.copyP W px W' px' x0 y0 x1 y dx dy).take o).length = o := by rw [List.length_take, copyP_length]; omega
  have lk : (((px'.drop o').take m).take m).length = m := by simp only [List.length_take, List.length_drop]; omega
  have hrow : ∀ (q : Int), q < y + dy → q * W ≤ (y + dy) * W - W := fun q hq => by
    have := Int.mul_le_mul_of_nonneg_right (show q ≤ y + dy - 1 by omega) (show 0 ≤ W by omega)
    rw [Int.sub_mul] at this; omega
  have hrow' : ∀ (q : Int), y + dy < q → (y + dy) * W + W ≤ q * W := fun q hq => by
    have := Int.mul_le_mul_of_nonneg_right (show y + dy + 1 ≤ q by omega) (show 0 ≤ W by omega)
    rw [Int.add_mul] at this; omega
  rw [copyP_get]
  by_cases h1 : j < o
  · rw [List.getElem?_append_left (by rw [List.length_append, lo]; omega), List.getElem?_append_left (by omega), List.getElem?_take, if_pos h1, copyP_get]
    cases hp : px[j]? with
    | none => rfl
    | some v =>
      simp only [Option.map_some, Option.some.injEq]
      have : hasB x0 y0 x1 (y + 1) ((j : Int) % W - dx) ((j : Int) / W - dy) = hasB x0 y0 x1 y ((j : Int) % W - dx) ((j : Int) / W - dy) := by
        rw [Bool.eq_iff_iff, hasB_true, hasB_true]
        rcases Int.lt_trichotomy ((j : Int) / W) (y + dy) with hq | hq | hq
        · omega
        · rw [hq] at hjq; omega
        · omega
      rw [this]
  · by_cases h2 : j < o + m
    · rw [List.getElem?_append_left (by rw [List.length_append, lo, lk]; omega), List.getElem?_append_right (by omega), lo, List.getElem?_take, if_pos (by omega), List.getElem?_take, if_pos (by omega), List.getElem?_drop]
      have hq : (j : Int) / W = y + dy := by
        rcases Int.lt_trichotomy ((j : Int) / W) (y + dy) with hq | hq | hq
        · have := hrow _ hq; omega
        · exact hq
        · have := hrow' _ hq; omega
      rw [hq] at hjq
      have hjl : j < px.length := by omega
      rw [List.getElem?_eq_getElem hjl, Option.map_some, if_pos (hasB_true.2 (by rw [hq]; omega)), hq]
      rw [show (Int.toNat ((y + dy - dy) * W' + ((j : Int) % W - dx))) = o' + (j - o) by rw [show y + dy - dy = y by omega]; omega]
      have hjl' : o' + (j - o) < px'.length := by omega
      rw [List.getD_eq_getElem?_getD, List.getElem?_eq_getElem hjl']
      rfl
    · rw [List.getElem?_append_right (by rw [List.length_append, lo, lk]; omega), List.length_append, lo, lk, List.getElem?_drop, show o + m + (j - (o + m)) = j by omega, copyP_get]
      cases hp : px[j]? with
      | none => rfl
      | some v =>
        simp only [Option.map_some, Option.some.injEq]
        have : hasB x0 y0 x1 (y + 1) ((j : Int) % W - dx) ((j : Int) / W - dy) = hasB x0 y0 x1 y ((j : Int) % W - dx) ((j : Int) / W - dy) := by
          rw [Bool.eq_iff_iff, hasB_true, hasB_true]
          rcases Int.lt_trichotomy ((j : Int) / W) (y + dy) with hq | hq | hq
          · omega
          · rw [hq] at hjq; omega
          · omega
        rw [this]
theorem copy_at {W H W' H' : Int} {n n' : Nat} {px px' : List Int} (h : ImgOk W H n px) (h' : ImgOk W' H' n' px') (a b c d dx dy : Int) {k : Nat} (hk : k < n) :
    (copyP W px W' px' (copyR a b c d W' H' dx dy W H).x0 (copyR a b c d W' H' dx dy W H).y0 (copyR a b c d W' H' dx dy W H).x1 (copyR a b c d W' H' dx dy W H).y1 dx dy).getD k 0 =
      if hasB 0 0 W' H' ((k : Int) % W - dx) ((k : Int) / W - dy) && hasB a b c d ((k : Int) % W - dx) ((k : Int) / W - dy) then atC W' H' px' ((k : Int) % W - dx) ((k : Int) / W - dy) else px.getD k 0 := by
  have hl := h.len
  have hb := hasB_true.1 (in_box h.w1 h.num hk)
  have hkl : k < px.length := by omega
  rw [List.getD_eq_getElem?_getD, copyP_get, List.getElem?_eq_getElem hkl]
  simp only [Option.map_some, Option.getD_some]
  have hown : hasB (0 - dx) (0 - dy) (W - dx) (H - dy) ((k : Int) % W - dx) ((k : Int) / W - dy) = true := hasB_true.2 (by omega)
  have hiff := copyR_has a b c d W' H' dx dy W H ((k : Int) % W - dx) ((k : Int) / W - dy)
  cases h1 : hasB 0 0 W' H' ((k : Int) % W - dx) ((k : Int) / W - dy) with
  | false =>
    rw [if_neg (fun hh => by have := (hiff.1 hh).2.1; rw [h1] at this; cases this)]
    simp [List.getD_eq_getElem?_getD, List.getElem?_eq_getElem hkl]
  | true =>
    cases h2 : hasB a b c d ((k : Int) % W - dx) ((k : Int) / W - dy) with
    | false =>
      rw [if_neg (fun hh => by have := (hiff.1 hh).1; rw [h2] at this; cases this)]
      simp [List.getD_eq_getElem?_getD, List.getElem?_eq_getElem hkl]
    | true =>
      rw [if_pos (hiff.2 ⟨h2, h1, hown⟩)]
      simp only [Bool.and_self, if_true]
      unfold atC
      rw [h1, if_pos rfl]
end Go.Proofs.Ytommojgfkkoghaa

