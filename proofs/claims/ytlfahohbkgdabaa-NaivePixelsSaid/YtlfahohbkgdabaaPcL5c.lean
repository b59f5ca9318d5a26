/- Contracts of functions of the given program, printed by a program of this project. -/
import Derived.Test.YtlfahohbkgdabaaPcL5
import Derived.Test.YtlfahohbkgdabaaPcPu
import Derived.Test.YtlfahohbkgdabaaProg
set_option linter.unusedVariables false
set_option linter.unusedSimpArgs false
namespace Go.Proofs.Ytlfahohbkgdabaa
open Go Go.RowKit
set_option maxRecDepth 100000
set_option maxHeartbeats 8000000

theorem payFloor (a s : Int) (w : World) (ha : -20000000 ≤ a ∧ a ≤ 20000000) (hs : 1 ≤ s ∧ s ≤ 8) :
    Calls Try.prog 70 #[.int .i64 a, .int .i64 s] w fun e w' => e = .returned (.int .i64 (a / s)) ∧ Below w.heap.size w w' := by
 have hd := ediv_range (a := s - 1 - a) (b := s) (m := 30000000) (by omega) (by omega) (by omega) (by omega)
 have hd2 := ediv_range (a := a) (b := s) (m := 30000000) (by omega) (by omega) (by omega) (by omega)
 refine enter 17 [(0, iq a), (1, iq s)] [] Try.func70 rfl Try.ntmps70 rfl (by kernel_rfl) (Tab.start w) ?_
 refine cont_seq ?_
 refine cont_region 1 rfl ?_
 refine bS [0] 1 0 [(0, iq a), (1, iq s)] ?_
 refine cont_done ?_
 refine then_normal ?_
 refine cont_seq ?_
 refine cont_seq ?_
 refine cont_region 2 rfl ?_
 refine bS [0, 0] 2 0 [(0, iq a), (1, iq s), (6, .bool (decide (a < 0)))] ?_
 refine cont_done ?_
 refine then_normal ?_
 refine cont_split 6 (decide (a < 0)) rfl (fun c1_ => ?_) (fun c1_ => ?_)
 ·
  replace c1_ := of_decide_eq_true c1_
  refine cont_true rfl ?_
  refine cont_seq ?_
  refine cont_region 8 rfl ?_
  refine bS [0, 0] 2 6 [(0, iq a), (1, iq s), (8, iq (IntKind.i64.wrap (s - 1)))] ?_
  refine cont_recast 8 (iq (IntKind.i64.wrap (s - 1))) (iq (s - 1)) rfl (wrapI (by omega) (by omega)) ?_
  refine bS [0, 0] 4 4 [(1, iq s), (10, iq (IntKind.i64.wrap ((s - 1) - a)))] ?_
  refine cont_recast 10 (iq (IntKind.i64.wrap ((s - 1) - a))) (iq ((s - 1) - a)) rfl (wrapI (by omega) (by omega)) ?_
  refine bS [0] 5 3 [(10, iq ((s - 1) - a)), (11, iq s)] ?_
  refine pl_step 6 2 rfl rfl ?_
  refine sem_step 12 (bopS .quo 3 (.tmp 10) (.tmp 11) (iq ((s - 1) - a)) (iq s)) (iq (IntKind.i64.wrap (((s - 1) - a).tdiv s))) (by kernel_rfl) (fun w hT => run_quo (by omega) w) ?_
  refine cont_recast 12 (iq (IntKind.i64.wrap (((s - 1) - a).tdiv s))) (iq (((s - 1) - a) / s)) rfl (tdivI (by omega) (by omega) (by omega)) ?_
  refine bS [0] 7 1 [(13, iq (IntKind.i64.wrap (0 - (((s - 1) - a) / s))))] ?_
  refine cont_recast 13 (iq (IntKind.i64.wrap (0 - (((s - 1) - a) / s)))) (iq (0 - (((s - 1) - a) / s))) rfl (wrapI (by omega) (by omega)) ?_
  refine bS [0] 8 0 [(4, iq (0 - (((s - 1) - a) / s)))] ?_
  refine cont_done ?_
  refine then_normal ?_
  refine cont_ret ?_
  refine then_ret ?_
  refine ret_one (.inl rfl) rfl 0 (iq (0 - (((s - 1) - a) / s))) (by kernel_rfl) (by kernel_rfl) (fun w hT => ?_)
  exact ⟨ret_int (floor_neg (by omega)), hT.post rfl⟩
 replace c1_ := of_decide_eq_false c1_
 refine cont_false rfl ?_
 refine cont_skip ?_
 refine then_normal ?_
 refine cont_seq ?_
 refine cont_region 4 rfl ?_
 refine bS [0, 0] 2 2 [(14, iq a), (15, iq s)] ?_
 refine pl_step 3 1 rfl rfl ?_
 refine sem_step 16 (bopS .quo 3 (.tmp 14) (.tmp 15) (iq a) (iq s)) (iq (IntKind.i64.wrap (a.tdiv s))) (by kernel_rfl) (fun w hT => run_quo (by omega) w) ?_
 refine cont_recast 16 (iq (IntKind.i64.wrap (a.tdiv s))) (iq (a / s)) rfl (tdivI (by omega) (by omega) (by omega)) ?_
 refine bS [0] 4 0 [(4, iq (a / s))] ?_
 refine cont_done ?_
 refine then_normal ?_
 refine cont_ret ?_
 refine ret_one (.inl rfl) rfl 0 (iq (a / s)) (by kernel_rfl) (by kernel_rfl) (fun w hT => ?_)
 exact ⟨rfl, hT.post rfl⟩

theorem refFloor (a s : Int) (w : World) (ha : -20000000 ≤ a ∧ a ≤ 20000000) (hs : 1 ≤ s ∧ s ≤ 8) :
    Calls Try.prog 101 #[.int .i64 a, .int .i64 s] w fun e w' => e = .returned (.int .i64 (a / s)) ∧ Below w.heap.size w w' := by
 have hd := tdiv_range (a := a) (b := s) (m := 30000000) (by omega) (by omega) (by omega) (by omega)
 have hd2 := tdiv_mul_range (a := a) (b := s) (by omega)
 refine enter 17 [(0, iq a), (1, iq s)] [] Try.func101 rfl Try.ntmps101 rfl (by kernel_rfl) (Tab.start w) ?_
 refine cont_seq ?_
 refine cont_region 1 rfl ?_
 refine bS [0] 1 0 [(0, iq a), (1, iq s)] ?_
 refine cont_done ?_
 refine then_normal ?_
 refine cont_seq ?_
 refine cont_region 4 rfl ?_
 refine bS [0, 0] 2 2 [(0, iq a), (1, iq s), (6, iq a), (7, iq s)] ?_
 refine pl_step 3 1 rfl rfl ?_
 refine sem_step 8 (bopS .quo 3 (.tmp 6) (.tmp 7) (iq a) (iq s)) (iq (IntKind.i64.wrap (a.tdiv s))) (by kernel_rfl) (fun w hT => run_quo (by omega) w) ?_
 refine cont_recast 8 (iq (IntKind.i64.wrap (a.tdiv s))) (iq (a.tdiv s)) rfl (wrapI (by omega) (by omega)) ?_
 refine bS [0] 4 0 [(0, iq a), (1, iq s), (5, iq (a.tdiv s))] ?_
 refine cont_done ?_
 refine then_normal ?_
 refine cont_seq ?_
 refine cont_seq ?_
 refine cont_region 5 rfl ?_
 refine bS [0, 0, 0] 3 2 [(0, iq a), (5, iq (a.tdiv s)), (11, iq (IntKind.i64.wrap ((a.tdiv s) * s)))] ?_
 refine cont_recast 11 (iq (IntKind.i64.wrap ((a.tdiv s) * s))) (iq ((a.tdiv s) * s)) rfl (wrapI (by omega) (by omega)) ?_
 refine bS [0, 0] 5 0 [(5, iq (a.tdiv s)), (13, .bool (decide (((a.tdiv s) * s) > a)))] ?_
 refine cont_done ?_
 refine then_normal ?_
 refine cont_split 13 (decide (((a.tdiv s) * s) > a)) rfl (fun c1_ => ?_) (fun c1_ => ?_)
 ·
  replace c1_ := of_decide_eq_true c1_
  refine cont_true rfl ?_
  refine cont_region 3 rfl ?_
  refine bS [0, 0] 2 1 [(15, iq (IntKind.i64.wrap ((a.tdiv s) - 1)))] ?_
  refine cont_recast 15 (iq (IntKind.i64.wrap ((a.tdiv s) - 1))) (iq ((a.tdiv s) - 1)) rfl (wrapI (by omega) (by omega)) ?_
  refine bS [0] 3 0 [(5, iq ((a.tdiv s) - 1))] ?_
  refine cont_done ?_
  refine then_normal ?_
  refine cont_seq ?_
  refine cont_region 2 rfl ?_
  refine bS [0, 0] 2 0 [(4, iq ((a.tdiv s) - 1))] ?_
  refine cont_done ?_
  refine then_normal ?_
  refine cont_ret ?_
  refine ret_one (.inl rfl) rfl 0 (iq ((a.tdiv s) - 1)) (by kernel_rfl) (by kernel_rfl) (fun w hT => ?_)
  exact ⟨ret_int (by rw [← tdiv_floor (a := a) (b := s) (by omega), if_pos ‹_›]), hT.post rfl⟩
 replace c1_ := of_decide_eq_false c1_
 refine cont_false rfl ?_
 refine cont_skip ?_
 refine then_normal ?_
 refine cont_seq ?_
 refine cont_region 2 rfl ?_
 refine bS [0, 0] 2 0 [(4, iq (a.tdiv s))] ?_
 refine cont_done ?_
 refine then_normal ?_
 refine cont_ret ?_
 refine ret_one (.inl rfl) rfl 0 (iq (a.tdiv s)) (by kernel_rfl) (by kernel_rfl) (fun w hT => ?_)
 exact ⟨ret_int (by rw [← tdiv_floor (a := a) (b := s) (by omega), if_neg ‹_›]), hT.post rfl⟩

theorem refShows (W H : Int) (r n cap : Nat) (px : List Int) (X Y s al ca cb cc cd : Int) (x y : Int) (w : World) (hT0 : Tab w w [.gen (rdE (some ⟨r, 0, none⟩) r 0 n 1 (ivals .u32 px))]) (hok : ImgOk W H n px) (hs : 1 ≤ s ∧ s ≤ 8) (hX : -1000000 ≤ X ∧ X ≤ 1000000) (hY : -1000000 ≤ Y ∧ Y ≤ 1000000) (hx : -2000000 ≤ x ∧ x ≤ 2000000) (hy : -2000000 ≤ y ∧ y ≤ 2000000) :
    Calls Try.prog 73 #[.agg #[.bool true, .int .i64 W, .int .i64 H, .slice (some ⟨r, 0, none⟩) n cap, .int .i64 X, .int .i64 Y, .int .i64 s, .int .i64 al, .int .i64 ca, .int .i64 cb, .int .i64 cc, .int .i64 cd], .int .i64 x, .int .i64 y] w fun e w' => e = .returned (.tuple #[.int .i64 ((x - X) / s), .int .i64 ((y - Y) / s), .bool (pcolB W H X Y s ca cb cc cd x y)]) ∧ Below w.heap.size w w' := by
 have hw1 := hok.w1
 have hw2 := hok.w2
 have hh1 := hok.h1
 have hh2 := hok.h2
 have hdx := ediv_range (a := x - X) (b := s) (m := 4000000) (by omega) (by omega) (by omega) (by omega)
 have hdy := ediv_range (a := y - Y) (b := s) (m := 4000000) (by omega) (by omega) (by omega) (by omega)
 have hac := hok.atC_range ((x - X) / s) ((y - Y) / s)
 refine enter 47 [(0, .agg #[.bool true, iq W, iq H, .slice (pB r) n cap, iq X, iq Y, iq s, iq al, iq ca, iq cb, iq cc, iq cd]), (1, iq x), (2, iq y)] [.gen (rdE (pB r) r 0 n 1 (ivals .u32 px))] Try.func73 rfl Try.ntmps73 rfl (by kernel_rfl) hT0 ?_
 refine cont_seq ?_
 refine cont_region 4 rfl ?_
 refine batch1 [0, 0, 0, 0] 4 0 (fun b1 => [(1, iq x), (2, iq y), (3, .pointer (pB b1))]) (fun b1 => [.cells b1 [.bool true, iq W, iq H, .slice (pB r) n cap, iq X, iq Y, iq s, iq al, iq ca, iq cb, iq cc, iq cd] 93 true, .gen (rdE (pB r) r 0 n 1 (ivals .u32 px))]) rfl rfl [1, 2, 3] (fun _ => rfl) (fun b1 => by kernel_rfl) (fun b1 => by kernel_rfl) (fun b1 => ?_)
 refine cont_done ?_
 refine then_normal ?_
 refine cont_seq ?_
 refine cont_region 9 rfl ?_
 refine bS [0, 0, 0, 0, 0] 5 4 [(2, iq y), (3, .pointer (pB b1)), (17, iq (IntKind.i64.wrap (x - X)))] ?_
 refine cont_recast 17 (iq (IntKind.i64.wrap (x - X))) (iq (x - X)) rfl (wrapI (by omega) (by omega)) ?_
 refine bS [0, 0] 7 2 [(2, iq y), (3, .pointer (pB b1)), (17, iq (x - X)), (19, iq s)] ?_
 refine pl_step 8 1 rfl rfl ?_
 refine call_pure (d := 20) (iq ((x - X) / s)) (by kernel_rfl) (fun w hT => refFloor (x - X) s w (by omega) (by omega)) ?_
 refine bS [0] 9 0 [(2, iq y), (3, .pointer (pB b1)), (9, iq ((x - X) / s))] ?_
 refine cont_done ?_
 refine then_normal ?_
 refine cont_seq ?_
 refine cont_region 9 rfl ?_
 refine bS [0, 0, 0, 0, 0] 5 4 [(3, .pointer (pB b1)), (9, iq ((x - X) / s)), (25, iq (IntKind.i64.wrap (y - Y)))] ?_
 refine cont_recast 25 (iq (IntKind.i64.wrap (y - Y))) (iq (y - Y)) rfl (wrapI (by omega) (by omega)) ?_
 refine bS [0, 0] 7 2 [(3, .pointer (pB b1)), (9, iq ((x - X) / s)), (25, iq (y - Y)), (27, iq s)] ?_
 refine pl_step 8 1 rfl rfl ?_
 refine call_pure (d := 28) (iq ((y - Y) / s)) (by kernel_rfl) (fun w hT => refFloor (y - Y) s w (by omega) (by omega)) ?_
 refine bS [0] 9 0 [(3, .pointer (pB b1)), (9, iq ((x - X) / s)), (10, iq ((y - Y) / s))] ?_
 refine cont_done ?_
 refine then_normal ?_
 refine cont_seq ?_
 refine cont_region 10 rfl ?_
 refine bS [0, 0, 0, 0] 4 6 [(3, .pointer (pB b1)), (9, iq ((x - X) / s)), (10, iq ((y - Y) / s)), (31, .agg #[iq W, iq H, .slice (pB r) n cap]), (32, iq ((x - X) / s)), (33, iq ((y - Y) / s))] ?_
 refine pl_step 5 5 rfl rfl ?_
 refine call_pure (d := 34) (.tuple #[.int .u32 (atC W H px ((x - X) / s) ((y - Y) / s)), .bool (hasB 0 0 W H ((x - X) / s) ((y - Y) / s))]) (by kernel_rfl) (fun w hT => refAt W H r n cap px ((x - X) / s) ((y - Y) / s) w (hT.viewRo (.cons (i := 1) rfl Vw.rd .nil) rfl) hok) ?_
 refine bS [0, 0, 0, 0, 0] 10 0 [(3, .pointer (pB b1)), (9, iq ((x - X) / s)), (10, iq ((y - Y) / s)), (12, .bool (hasB 0 0 W H ((x - X) / s) ((y - Y) / s)))] ?_
 refine cont_done ?_
 refine then_normal ?_
 refine cont_seq ?_
 refine cont_region 13 rfl ?_
 refine bS [0, 0, 0, 0] 4 9 [(3, .pointer (pB b1)), (9, iq ((x - X) / s)), (10, iq ((y - Y) / s)), (37, iq ((x - X) / s)), (38, iq ((y - Y) / s)), (40, .bool (hasB 0 0 W H ((x - X) / s) ((y - Y) / s)))] ?_
 refine cont_split 40 (hasB 0 0 W H ((x - X) / s) ((y - Y) / s)) rfl (fun c2_ => ?_) (fun c2_ => ?_)
 ·
  refine bS [0, 0, 0, 0] 8 5 [(37, iq ((x - X) / s)), (38, iq ((y - Y) / s)), (40, .bool true), (42, .agg #[iq ca, iq cb, iq cc, iq cd]), (43, iq ((x - X) / s)), (44, iq ((y - Y) / s))] ?_
  refine cont_forget 0 rfl ?_
  refine pl_step 9 4 rfl rfl ?_
  refine call_pure (d := 45) (.bool (hasB ca cb cc cd ((x - X) / s) ((y - Y) / s))) (by kernel_rfl) (fun w hT => refHas ca cb cc cd ((x - X) / s) ((y - Y) / s) w) ?_
  refine bS [0, 0, 0, 0] 13 0 [(6, iq ((x - X) / s)), (7, iq ((y - Y) / s)), (8, .bool (hasB ca cb cc cd ((x - X) / s) ((y - Y) / s)))] ?_
  refine cont_done ?_
  refine then_normal ?_
  refine cont_ret ?_
  refine ret_three (.inl rfl) rfl 0 0 0 (iq ((x - X) / s)) (iq ((y - Y) / s)) (.bool (hasB ca cb cc cd ((x - X) / s) ((y - Y) / s))) (by kernel_rfl) (by kernel_rfl) (by kernel_rfl) (by kernel_rfl) (by kernel_rfl) (by kernel_rfl) (fun w hT => ?_)
  exact ⟨by simp [pcolB, *], hT.post rfl⟩
 refine bS [0, 0, 0, 0, 0, 0, 0, 0, 0] 13 0 [(6, iq ((x - X) / s)), (7, iq ((y - Y) / s)), (8, .bool false)] ?_
 refine cont_forget 0 rfl ?_
 refine cont_done ?_
 refine then_normal ?_
 refine cont_ret ?_
 refine ret_three (.inl rfl) rfl 0 0 0 (iq ((x - X) / s)) (iq ((y - Y) / s)) (.bool false) (by kernel_rfl) (by kernel_rfl) (by kernel_rfl) (by kernel_rfl) (by kernel_rfl) (by kernel_rfl) (fun w hT => ?_)
 exact ⟨by simp [pcolB, *], hT.post rfl⟩

theorem refColor5 (W H : Int) (r n cap : Nat) (px : List Int) (X Y s al ca cb cc cd : Int) (x y : Int) (w : World) (hT0 : Tab w w [.gen (rdE (some ⟨r, 0, none⟩) r 0 n 1 (ivals .u32 px))]) (hok : ImgOk W H n px) (hs : 1 ≤ s ∧ s ≤ 8) (hX : -1000000 ≤ X ∧ X ≤ 1000000) (hY : -1000000 ≤ Y ∧ Y ≤ 1000000) (hx : -2000000 ≤ x ∧ x ≤ 2000000) (hy : -2000000 ≤ y ∧ y ≤ 2000000) :
    Calls Try.prog 52 #[.agg #[.bool true, .int .i64 W, .int .i64 H, .slice (some ⟨r, 0, none⟩) n cap, .int .i64 X, .int .i64 Y, .int .i64 s, .int .i64 al, .int .i64 ca, .int .i64 cb, .int .i64 cc, .int .i64 cd], .int .i64 x, .int .i64 y] w fun e w' => e = .returned (.tuple #[.int .u32 (pcolC W H X Y s al ca cb cc cd px x y), .bool (pcolB W H X Y s ca cb cc cd x y)]) ∧ Below w.heap.size w w' := by
 have hw1 := hok.w1
 have hw2 := hok.w2
 have hh1 := hok.h1
 have hh2 := hok.h2
 have hdx := ediv_range (a := x - X) (b := s) (m := 4000000) (by omega) (by omega) (by omega) (by omega)
 have hdy := ediv_range (a := y - Y) (b := s) (m := 4000000) (by omega) (by omega) (by omega) (by omega)
 have hac := hok.atC_range ((x - X) / s) ((y - Y) / s)
 refine enter 35 [(0, .agg #[.bool true, iq W, iq H, .slice (pB r) n cap, iq X, iq Y, iq s, iq al, iq ca, iq cb, iq cc, iq cd]), (1, iq x), (2, iq y)] [.gen (rdE (pB r) r 0 n 1 (ivals .u32 px))] Try.func52 rfl Try.ntmps52 rfl (by kernel_rfl) hT0 ?_
 refine cont_seq ?_
 refine cont_region 3 rfl ?_
 refine batch1 [0, 0, 0] 3 0 (fun b1 => [(1, iq x), (2, iq y), (3, .pointer (pB b1))]) (fun b1 => [.cells b1 [.bool true, iq W, iq H, .slice (pB r) n cap, iq X, iq Y, iq s, iq al, iq ca, iq cb, iq cc, iq cd] 93 true, .gen (rdE (pB r) r 0 n 1 (ivals .u32 px))]) rfl rfl [1, 2, 3] (fun _ => rfl) (fun b1 => by kernel_rfl) (fun b1 => by kernel_rfl) (fun b1 => ?_)
 refine cont_done ?_
 refine then_normal ?_
 refine cont_seq ?_
 refine cont_region 11 rfl ?_
 refine bS [0, 0, 0] 3 8 [(3, .pointer (pB b1)), (14, .agg #[.bool true, iq W, iq H, .slice (pB r) n cap, iq X, iq Y, iq s, iq al, iq ca, iq cb, iq cc, iq cd]), (15, iq x), (16, iq y)] ?_
 refine pl_step 4 7 rfl rfl ?_
 refine call_pure (d := 17) (.tuple #[iq ((x - X) / s), iq ((y - Y) / s), .bool (pcolB W H X Y s ca cb cc cd x y)]) (by kernel_rfl) (fun w hT => refShows W H r n cap px X Y s al ca cb cc cd x y w (hT.viewRo (.cons (i := 1) rfl Vw.rd .nil) rfl) hok (by omega) (by omega) (by omega) (by omega) (by omega)) ?_
 refine bS [0, 0, 0, 0, 0, 0, 0] 11 0 [(3, .pointer (pB b1)), (8, iq ((x - X) / s)), (9, iq ((y - Y) / s)), (10, .bool (pcolB W H X Y s ca cb cc cd x y))] ?_
 refine cont_done ?_
 refine then_normal ?_
 refine cont_seq ?_
 refine cont_seq ?_
 refine cont_region 2 rfl ?_
 refine bS [0, 0] 2 0 [(3, .pointer (pB b1)), (8, iq ((x - X) / s)), (9, iq ((y - Y) / s)), (22, .bool (!(pcolB W H X Y s ca cb cc cd x y)))] ?_
 refine cont_done ?_
 refine then_normal ?_
 refine cont_split 22 (!(pcolB W H X Y s ca cb cc cd x y)) rfl (fun c2_ => ?_) (fun c2_ => ?_)
 ·
  replace c2_ : (pcolB W H X Y s ca cb cc cd x y) = false := by simpa using c2_
  refine cont_true rfl ?_
  refine cont_seq ?_
  refine cont_region 2 rfl ?_
  refine bS [0, 0] 2 0 [(6, .int .u32 0), (7, .bool false)] ?_
  refine cont_forget 0 rfl ?_
  refine cont_done ?_
  refine then_normal ?_
  refine cont_ret ?_
  refine then_ret ?_
  refine ret_two (.inl rfl) rfl 0 0 (.int .u32 0) (.bool false) (by kernel_rfl) (by kernel_rfl) (by kernel_rfl) (by kernel_rfl) (fun w hT => ?_)
  exact ⟨by simp [pcolC, *], hT.post rfl⟩
 replace c2_ : (pcolB W H X Y s ca cb cc cd x y) = true := by simpa using c2_
 refine cont_false rfl ?_
 refine cont_skip ?_
 refine then_normal ?_
 refine cont_seq ?_
 refine cont_region 10 rfl ?_
 refine bS [0, 0, 0, 0] 4 6 [(3, .pointer (pB b1)), (25, .agg #[iq W, iq H, .slice (pB r) n cap]), (26, iq ((x - X) / s)), (27, iq ((y - Y) / s))] ?_
 refine pl_step 5 5 rfl rfl ?_
 refine call_pure (d := 28) (.tuple #[.int .u32 (atC W H px ((x - X) / s) ((y - Y) / s)), .bool (hasB 0 0 W H ((x - X) / s) ((y - Y) / s))]) (by kernel_rfl) (fun w hT => refAt W H r n cap px ((x - X) / s) ((y - Y) / s) w (hT.viewRo (.cons (i := 1) rfl Vw.rd .nil) rfl) hok) ?_
 refine bS [0, 0, 0, 0, 0] 10 0 [(3, .pointer (pB b1)), (11, .int .u32 (atC W H px ((x - X) / s) ((y - Y) / s)))] ?_
 refine cont_done ?_
 refine then_normal ?_
 refine cont_seq ?_
 refine cont_region 6 rfl ?_
 refine bS [0, 0, 0] 3 3 [(31, .int .u32 (atC W H px ((x - X) / s) ((y - Y) / s))), (33, iq al)] ?_
 refine cont_forget 0 rfl ?_
 refine pl_step 4 2 rfl rfl ?_
 refine call_pure (d := 34) (.int .u32 (fadeC (atC W H px ((x - X) / s) ((y - Y) / s)) al)) (by kernel_rfl) (fun w hT => refFade (atC W H px ((x - X) / s) ((y - Y) / s)) al w (by omega) (by omega)) ?_
 refine bS [0, 0] 6 0 [(6, .int .u32 (fadeC (atC W H px ((x - X) / s) ((y - Y) / s)) al)), (7, .bool true)] ?_
 refine cont_done ?_
 refine then_normal ?_
 refine cont_ret ?_
 refine ret_two (.inl rfl) rfl 0 0 (.int .u32 (fadeC (atC W H px ((x - X) / s) ((y - Y) / s)) al)) (.bool true) (by kernel_rfl) (by kernel_rfl) (by kernel_rfl) (by kernel_rfl) (fun w hT => ?_)
 exact ⟨by simp [pcolC, *], hT.post rfl⟩

theorem layColor (m : Nat) (W H : Int) (r n cap : Nat) (px : List Int) (X Y s al ca cb cc cd : Int) (x y : Int) (w : World) (hI : ImgR 118 w m W H r n cap px) (hok : ImgOk W H n px) (hs : 1 ≤ s ∧ s ≤ 8) (hX : -1000000 ≤ X ∧ X ≤ 1000000) (hY : -1000000 ≤ Y ∧ Y ≤ 1000000) (hx : -2000000 ≤ x ∧ x ≤ 2000000) (hy : -2000000 ≤ y ∧ y ≤ 2000000) :
    Calls Try.prog 49 #[.agg #[.pointer (some ⟨m, 0, none⟩), .int .i64 X, .int .i64 Y, .int .i64 s, .int .i64 al, .int .i64 ca, .int .i64 cb, .int .i64 cc, .int .i64 cd], .int .i64 x, .int .i64 y] w fun e w' => e = .returned (.tuple #[.int .u32 (pcolC W H X Y s al ca cb cc cd px x y), .bool (pcolB W H X Y s ca cb cc cd x y)]) ∧ Below w.heap.size w w' := by
 have hcap := hI.cap
 have hw1 := hok.w1
 have hw2 := hok.w2
 have hh1 := hok.h1
 have hh2 := hok.h2
 have hdx := ediv_range (a := x - X) (b := s) (m := 4000000) (by omega) (by omega) (by omega) (by omega)
 have hdy := ediv_range (a := y - Y) (b := s) (m := 4000000) (by omega) (by omega) (by omega) (by omega)
 have hac := hok.atC_range ((x - X) / s) ((y - Y) / s)
 refine enter 43 [(0, .agg #[.pointer (pB m), iq X, iq Y, iq s, iq al, iq ca, iq cb, iq cc, iq cd]), (1, iq x), (2, iq y)] [.ro m [iq W, iq H, .slice (pB r) n cap] 118, .gen (rdE (pB r) r 0 n 1 (ivals .u32 px))] Try.func49 rfl Try.ntmps49 rfl (by kernel_rfl) hI.tab ?_
 refine cont_seq ?_
 refine cont_region 3 rfl ?_
 refine batch1 [0, 0, 0] 3 0 (fun b1 => [(1, iq x), (2, iq y), (3, .pointer (pB b1))]) (fun b1 => [.cells b1 [.pointer (pB m), iq X, iq Y, iq s, iq al, iq ca, iq cb, iq cc, iq cd] 106 true, .ro m [iq W, iq H, .slice (pB r) n cap] 118, .gen (rdE (pB r) r 0 n 1 (ivals .u32 px))]) rfl rfl [1, 2, 3] (fun _ => rfl) (fun b1 => by kernel_rfl) (fun b1 => by kernel_rfl) (fun b1 => ?_)
 refine cont_done ?_
 refine then_normal ?_
 refine cont_seq ?_
 refine cont_seq ?_
 refine cont_region 6 rfl ?_
 refine bS [0] 1 5 [(1, iq x), (2, iq y), (3, .pointer (pB b1)), (10, .agg #[.pointer (pB m), iq X, iq Y, iq s, iq al, iq ca, iq cb, iq cc, iq cd])] ?_
 refine pl_step 2 4 rfl rfl ?_
 refine call_pure (d := 11) (.agg #[iq ((shwR W H X Y s ca cb cc cd).x0), iq ((shwR W H X Y s ca cb cc cd).y0), iq ((shwR W H X Y s ca cb cc cd).x1), iq ((shwR W H X Y s ca cb cc cd).y1)]) (by kernel_rfl) (fun w hT => layBox m W H r n cap px X Y s al ca cb cc cd w ⟨hT.ok 1 _ rfl, hT.ok 2 _ rfl, by omega⟩ hok) ?_
 refine bS [0, 0] 4 2 [(1, iq x), (2, iq y), (3, .pointer (pB b1)), (11, .agg #[iq ((shwR W H X Y s ca cb cc cd).x0), iq ((shwR W H X Y s ca cb cc cd).y0), iq ((shwR W H X Y s ca cb cc cd).x1), iq ((shwR W H X Y s ca cb cc cd).y1)]), (12, iq x), (13, iq y)] ?_
 refine pl_step 5 1 rfl rfl ?_
 refine call_pure (d := 14) (.bool (hasB ((shwR W H X Y s ca cb cc cd).x0) ((shwR W H X Y s ca cb cc cd).y0) ((shwR W H X Y s ca cb cc cd).x1) ((shwR W H X Y s ca cb cc cd).y1) x y)) (by kernel_rfl) (fun w hT => rectHas ((shwR W H X Y s ca cb cc cd).x0) ((shwR W H X Y s ca cb cc cd).y0) ((shwR W H X Y s ca cb cc cd).x1) ((shwR W H X Y s ca cb cc cd).y1) x y w) ?_
 refine cont_recast 14 (.bool (hasB ((shwR W H X Y s ca cb cc cd).x0) ((shwR W H X Y s ca cb cc cd).y0) ((shwR W H X Y s ca cb cc cd).x1) ((shwR W H X Y s ca cb cc cd).y1) x y)) (.bool (pcolB W H X Y s ca cb cc cd x y)) rfl (congrArg (Value.bool) (pcol_box hs hX hY ⟨hw1, hw2⟩ ⟨hh1, hh2⟩)) ?_
 refine bS [0] 6 0 [(1, iq x), (2, iq y), (3, .pointer (pB b1)), (15, .bool (!(pcolB W H X Y s ca cb cc cd x y)))] ?_
 refine cont_done ?_
 refine then_normal ?_
 refine cont_split 15 (!(pcolB W H X Y s ca cb cc cd x y)) rfl (fun c2_ => ?_) (fun c2_ => ?_)
 ·
  replace c2_ : (pcolB W H X Y s ca cb cc cd x y) = false := by simpa using c2_
  refine cont_true rfl ?_
  refine cont_seq ?_
  refine cont_region 2 rfl ?_
  refine bS [0, 0] 2 0 [(6, .int .u32 0), (7, .bool false)] ?_
  refine cont_forget 0 rfl ?_
  refine cont_done ?_
  refine then_normal ?_
  refine cont_ret ?_
  refine then_ret ?_
  refine ret_two (.inl rfl) rfl 0 0 (.int .u32 0) (.bool false) (by kernel_rfl) (by kernel_rfl) (by kernel_rfl) (by kernel_rfl) (fun w hT => ?_)
  exact ⟨by simp [pcolC, *], hT.post rfl⟩
 replace c2_ : (pcolB W H X Y s ca cb cc cd x y) = true := by simpa using c2_
 refine cont_false rfl ?_
 refine cont_skip ?_
 refine then_normal ?_
 refine cont_seq ?_
 refine drawn_enter 24 [] rfl (by kernel_rfl) ?_
 refine takes 0 [] [(0, 0), (2, 0), (3, 0), (7, 0), (10, 0), (11, 0), (15, 0), (1, 0), (4, 0), (8, 0), (12, 0), (16, 0), (5, 0), (13, 0), (6, 0)] 9 [6, 13, 5, 16, 12, 8, 4, 1, 15, 11, 10, 7, 3, 2, 0] [(3, .pointer (pB b1)), (18, .pointer (pB m)), (23, iq (IntKind.i64.wrap (x - X))), (25, iq s), (27, iq y), (30, iq Y), (33, iq s)] (by kernel_rfl) (pok_then pok_body) (by kernel_rfl) rfl rfl (by kernel_rfl) (by kernel_rfl) ?_
 refine cont_recast 23 (iq (IntKind.i64.wrap (x - X))) (iq (x - X)) rfl (wrapI (by omega) (by omega)) ?_
 refine takes 0 [] [(14, 0)] 8 [14, 6, 13, 5, 16, 12, 8, 4, 1, 15, 11, 10, 7, 3, 2, 0] [(3, .pointer (pB b1)), (18, .pointer (pB m)), (23, iq (x - X)), (25, iq s), (31, iq (IntKind.i64.wrap (y - Y))), (33, iq s)] (by kernel_rfl) (pok_then pok_body) (by kernel_rfl) rfl rfl (by kernel_rfl) (by kernel_rfl) ?_
 refine cont_recast 31 (iq (IntKind.i64.wrap (y - Y))) (iq (y - Y)) rfl (wrapI (by omega) (by omega)) ?_
 refine drawn_one 9 7 rfl (by kernel_rfl) ?_
 refine call_pure (d := 26) (iq ((x - X) / s)) (by kernel_rfl) (fun w hT => payFloor (x - X) s w (by omega) (by omega)) ?_
 refine drawn_next 0 [] (by kernel_rfl) ?_
 refine drawn_one 17 6 rfl (by kernel_rfl) ?_
 refine call_pure (d := 34) (iq ((y - Y) / s)) (by kernel_rfl) (fun w hT => payFloor (y - Y) s w (by omega) (by omega)) ?_
 refine drawn_next 0 [] (by kernel_rfl) ?_
 refine drawn_one 18 5 rfl (by kernel_rfl) ?_
 refine call_pure (d := 35) (.tuple #[.int .u32 (atC W H px ((x - X) / s) ((y - Y) / s)), .bool (hasB 0 0 W H ((x - X) / s) ((y - Y) / s))]) (by kernel_rfl) (fun w hT => imgAt m W H r n cap px ((x - X) / s) ((y - Y) / s) w ⟨hT.ok 1 _ rfl, hT.ok 2 _ rfl, by omega⟩ hok) ?_
 refine drawn_next 0 [] (by kernel_rfl) ?_
 refine takes 0 [] [(19, 0), (20, 0), (21, 0), (22, 0), (23, 0)] 0 [23, 22, 21, 20, 19, 18, 17, 9, 14, 6, 13, 5, 16, 12, 8, 4, 1, 15, 11, 10, 7, 3, 2, 0] [(3, .pointer (pB b1)), (8, .int .u32 (atC W H px ((x - X) / s) ((y - Y) / s))), (9, .bool (hasB 0 0 W H ((x - X) / s) ((y - Y) / s)))] (by kernel_rfl) (pok_then pok_body) (by kernel_rfl) rfl rfl (by kernel_rfl) (by kernel_rfl) ?_
 refine drawn_done (by kernel_rfl) ?_
 refine then_normal ?_
 refine cont_seq ?_
 refine cont_region 7 rfl ?_
 refine bS [0, 0, 0] 3 4 [(9, .bool (hasB 0 0 W H ((x - X) / s) ((y - Y) / s))), (38, .int .u32 (atC W H px ((x - X) / s) ((y - Y) / s))), (40, iq al)] ?_
 refine cont_forget 0 rfl ?_
 refine pl_step 4 3 rfl rfl ?_
 refine call_pure (d := 41) (.int .u32 (fadeC (atC W H px ((x - X) / s) ((y - Y) / s)) al)) (by kernel_rfl) (fun w hT => colFade (atC W H px ((x - X) / s) ((y - Y) / s)) al w (by omega) (by omega)) ?_
 refine bS [0, 0, 0] 7 0 [(6, .int .u32 (fadeC (atC W H px ((x - X) / s) ((y - Y) / s)) al)), (7, .bool (hasB 0 0 W H ((x - X) / s) ((y - Y) / s)))] ?_
 refine cont_done ?_
 refine then_normal ?_
 refine cont_ret ?_
 refine ret_two (.inl rfl) rfl 0 0 (.int .u32 (fadeC (atC W H px ((x - X) / s) ((y - Y) / s)) al)) (.bool (hasB 0 0 W H ((x - X) / s) ((y - Y) / s))) (by kernel_rfl) (by kernel_rfl) (by kernel_rfl) (by kernel_rfl) (fun w hT => ?_)
 exact ⟨by rw [pcolB_in ‹_›]; simp [pcolC, *], hT.post rfl⟩

end Go.Proofs.Ytlfahohbkgdabaa

