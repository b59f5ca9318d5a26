/- Contracts of functions of the given program, printed by a program of this project. -/
import Derived.Test.YtommojgfkkoghaaL4bp1
import Derived.Test.YtommojgfkkoghaaProg
set_option linter.unusedVariables false
set_option linter.unusedSimpArgs false
namespace Go.Proofs.Ytommojgfkkoghaa
open Go Go.RowKit
set_option maxRecDepth 100000

theorem refSmall (a b c d : Int) (w : World) (ha : -9223372036854775808 ≤ a ∧ a ≤ 9223372036854775807) (hb : -9223372036854775808 ≤ b ∧ b ≤ 9223372036854775807) (hc : -9223372036854775808 ≤ c ∧ c ≤ 9223372036854775807) (hd : -9223372036854775808 ≤ d ∧ d ≤ 9223372036854775807) :
    Calls Try.prog 19 #[.agg #[.int .i64 a, .int .i64 b, .int .i64 c, .int .i64 d]] w fun e w' => e = .returned (.agg #[.int .i64 (aroundI a 24 - 4), .int .i64 (aroundI b 24 - 4), .int .i64 ((aroundI a 24 - 4) + aroundI c 13), .int .i64 ((aroundI b 24 - 4) + aroundI d 13)]) ∧ Below w.heap.size w w' := by
  refine enter 26 [(0, .agg #[.int .i64 a, .int .i64 b, .int .i64 c, .int .i64 d])] [] Try.func19 rfl Try.ntmps19 rfl (by kernel_rfl) (Tab.start w) ?_
  refine cont_seq ?_
  refine cont_region 2 rfl ?_
  refine batch2 [0, 0] 2 0 (fun b1 b2 => [(1, .pointer (some ⟨b1, 0, none⟩)), (2, .pointer (some ⟨b2, 0, none⟩))]) (fun b1 b2 => [.cells b2 [.int .i64 0, .int .i64 0, .int .i64 0, .int .i64 0] 32 true, .cells b1 [.int .i64 a, .int .i64 b, .int .i64 c, .int .i64 d] 32 true]) rfl rfl [1, 2] (fun _ _ => rfl) (fun b1 b2 => by kernel_rfl) (fun b1 b2 => by kernel_rfl) (fun b1 b2 => ?_)
  refine cont_done ?_
  refine then_normal ?_
  refine cont_seq ?_
  refine cont_region 5 rfl ?_
  refine batch0 [0, 1] 2 3 [(1, .pointer (some ⟨b1, 0, none⟩)), (2, .pointer (some ⟨b2, 0, none⟩)), (6, .int .i64 a)] [.cells b2 [.int .i64 0, .int .i64 0, .int .i64 0, .int .i64 0] 32 true, .cells b1 [.int .i64 a, .int .i64 b, .int .i64 c, .int .i64 d] 32 true] rfl rfl (by kernel_rfl) (by kernel_rfl) ?_
  refine pl_step 3 2 rfl rfl ?_
  refine call_pure (d := 7) (.int .i64 (aroundI a 24)) (by kernel_rfl) (fun w hT => refAround a 24 w (by omega) (by omega)) ?_
  have hq3_ := aroundI_range a (m := 24) (by omega)
  refine batch0 [0] 4 1 [(1, .pointer (some ⟨b1, 0, none⟩)), (2, .pointer (some ⟨b2, 0, none⟩)), (8, .int .i64 (IntKind.i64.wrap ((aroundI a 24) - 4)))] [.cells b2 [.int .i64 0, .int .i64 0, .int .i64 0, .int .i64 0] 32 true, .cells b1 [.int .i64 a, .int .i64 b, .int .i64 c, .int .i64 d] 32 true] rfl rfl (by kernel_rfl) (by kernel_rfl) ?_
  refine cont_recast 8 (.int .i64 (IntKind.i64.wrap ((aroundI a 24) - 4))) (.int .i64 ((aroundI a 24) - 4)) rfl (wrapI (by omega) (by omega)) ?_
  refine batch0 [0] 5 0 [(1, .pointer (some ⟨b1, 0, none⟩)), (2, .pointer (some ⟨b2, 0, none⟩)), (3, .int .i64 ((aroundI a 24) - 4))] [.cells b2 [.int .i64 0, .int .i64 0, .int .i64 0, .int .i64 0] 32 true, .cells b1 [.int .i64 a, .int .i64 b, .int .i64 c, .int .i64 d] 32 true] rfl rfl (by kernel_rfl) (by kernel_rfl) ?_
  refine cont_done ?_
  refine then_normal ?_
  refine cont_seq ?_
  refine cont_region 5 rfl ?_
  refine batch0 [0, 1] 2 3 [(1, .pointer (some ⟨b1, 0, none⟩)), (2, .pointer (some ⟨b2, 0, none⟩)), (3, .int .i64 ((aroundI a 24) - 4)), (10, .int .i64 b)] [.cells b2 [.int .i64 0, .int .i64 0, .int .i64 0, .int .i64 0] 32 true, .cells b1 [.int .i64 a, .int .i64 b, .int .i64 c, .int .i64 d] 32 true] rfl rfl (by kernel_rfl) (by kernel_rfl) ?_
  refine pl_step 3 2 rfl rfl ?_
  refine call_pure (d := 11) (.int .i64 (aroundI b 24)) (by kernel_rfl) (fun w hT => refAround b 24 w (by omega) (by omega)) ?_
  have hq4_ := aroundI_range b (m := 24) (by omega)
  refine batch0 [0] 4 1 [(1, .pointer (some ⟨b1, 0, none⟩)), (2, .pointer (some ⟨b2, 0, none⟩)), (3, .int .i64 ((aroundI a 24) - 4)), (12, .int .i64 (IntKind.i64.wrap ((aroundI b 24) - 4)))] [.cells b2 [.int .i64 0, .int .i64 0, .int .i64 0, .int .i64 0] 32 true, .cells b1 [.int .i64 a, .int .i64 b, .int .i64 c, .int .i64 d] 32 true] rfl rfl (by kernel_rfl) (by kernel_rfl) ?_
  refine cont_recast 12 (.int .i64 (IntKind.i64.wrap ((aroundI b 24) - 4))) (.int .i64 ((aroundI b 24) - 4)) rfl (wrapI (by omega) (by omega)) ?_
  refine batch0 [0] 5 0 [(1, .pointer (some ⟨b1, 0, none⟩)), (2, .pointer (some ⟨b2, 0, none⟩)), (3, .int .i64 ((aroundI a 24) - 4)), (4, .int .i64 ((aroundI b 24) - 4))] [.cells b2 [.int .i64 0, .int .i64 0, .int .i64 0, .int .i64 0] 32 true, .cells b1 [.int .i64 a, .int .i64 b, .int .i64 c, .int .i64 d] 32 true] rfl rfl (by kernel_rfl) (by kernel_rfl) ?_
  refine cont_done ?_
  refine then_normal ?_
  refine cont_seq ?_
  refine drawn_enter 14 [0] rfl (by kernel_rfl) ?_
  refine takes 0 [0] [(0, 0), (1, 0), (2, 0), (3, 0), (7, 0), (8, 0), (4, 1), (9, 1)] 6 [9, 4, 8, 7, 3, 2, 1, 0] [(2, .pointer (some ⟨b2, 0, none⟩)), (13, .int .i64 ((aroundI a 24) - 4)), (14, .int .i64 ((aroundI b 24) - 4)), (15, .int .i64 ((aroundI a 24) - 4)), (17, .int .i64 c), (20, .int .i64 ((aroundI b 24) - 4)), (22, .int .i64 d)] (by kernel_rfl) (by repeat' (first | exact pok_body | refine pok_then ?_ | refine pok_blk ?_)) (by kernel_rfl) rfl rfl (by kernel_rfl) (by kernel_rfl) ?_
  refine drawn_one 5 5 rfl (by kernel_rfl) ?_
  refine call_pure (d := 18) (.int .i64 (aroundI c 13)) (by kernel_rfl) (fun w hT => refAround c 13 w (by omega) (by omega)) ?_
  have hq5_ := aroundI_range c (m := 13) (by omega)
  refine drawn_next 0 [0] (by kernel_rfl) ?_
  refine takes 0 [0] [(6, 0)] 4 [6, 5, 9, 4, 8, 7, 3, 2, 1, 0] [(2, .pointer (some ⟨b2, 0, none⟩)), (13, .int .i64 ((aroundI a 24) - 4)), (14, .int .i64 ((aroundI b 24) - 4)), (19, .int .i64 (IntKind.i64.wrap (((aroundI a 24) - 4) + (aroundI c 13)))), (20, .int .i64 ((aroundI b 24) - 4)), (22, .int .i64 d)] (by kernel_rfl) (by repeat' (first | exact pok_body | refine pok_then ?_ | refine pok_blk ?_)) (by kernel_rfl) rfl rfl (by kernel_rfl) (by kernel_rfl) ?_
  refine cont_recast 19 (.int .i64 (IntKind.i64.wrap (((aroundI a 24) - 4) + (aroundI c 13)))) (.int .i64 (((aroundI a 24) - 4) + (aroundI c 13))) rfl (wrapI (by omega) (by omega)) ?_
  refine drawn_one 10 3 rfl (by kernel_rfl) ?_
  refine call_pure (d := 23) (.int .i64 (aroundI d 13)) (by kernel_rfl) (fun w hT => refAround d 13 w (by omega) (by omega)) ?_
  have hq6_ := aroundI_range d (m := 13) (by omega)
  refine drawn_next 0 [0] (by kernel_rfl) ?_
  refine takes 0 [0] [(11, 0)] 2 [11, 10, 6, 5, 9, 4, 8, 7, 3, 2, 1, 0] [(2, .pointer (some ⟨b2, 0, none⟩)), (13, .int .i64 ((aroundI a 24) - 4)), (14, .int .i64 ((aroundI b 24) - 4)), (19, .int .i64 (((aroundI a 24) - 4) + (aroundI c 13))), (24, .int .i64 (IntKind.i64.wrap (((aroundI b 24) - 4) + (aroundI d 13))))] (by kernel_rfl) (by repeat' (first | exact pok_body | refine pok_then ?_ | refine pok_blk ?_)) (by kernel_rfl) rfl rfl (by kernel_rfl) (by kernel_rfl) ?_
  refine cont_recast 24 (.int .i64 (IntKind.i64.wrap (((aroundI b 24) - 4) + (aroundI d 13)))) (.int .i64 (((aroundI b 24) - 4) + (aroundI d 13))) rfl (wrapI (by omega) (by omega)) ?_
  refine takes 0 [0] [(12, 0)] 1 [12, 11, 10, 6, 5, 9, 4, 8, 7, 3, 2, 1, 0] [(2, .pointer (some ⟨b2, 0, none⟩)), (25, .agg #[.int .i64 ((aroundI a 24) - 4), .int .i64 ((aroundI b 24) - 4), .int .i64 (((aroundI a 24) - 4) + (aroundI c 13)), .int .i64 (((aroundI b 24) - 4) + (aroundI d 13))])] (by kernel_rfl) (by repeat' (first | exact pok_body | refine pok_then ?_ | refine pok_blk ?_)) (by kernel_rfl) rfl rfl (by kernel_rfl) (by kernel_rfl) ?_
  refine drawn_one 13 0 rfl (by kernel_rfl) ?_
  refine one_step 0 [(2, .pointer (some ⟨b2, 0, none⟩))] [.cells b2 [.int .i64 ((aroundI a 24) - 4), .int .i64 ((aroundI b 24) - 4), .int .i64 (((aroundI a 24) - 4) + (aroundI c 13)), .int .i64 (((aroundI b 24) - 4) + (aroundI d 13))] 32 true, .cells b1 [.int .i64 a, .int .i64 b, .int .i64 c, .int .i64 d] 32 true] (by kernel_rfl) (by kernel_rfl) ?_
  refine drawn_next 0 [0] (by kernel_rfl) ?_
  refine drawn_done (by kernel_rfl) ?_
  refine then_normal ?_
  refine cont_ret ?_
  refine ret_one (.inl rfl) rfl 0 (.agg #[.int .i64 ((aroundI a 24) - 4), .int .i64 ((aroundI b 24) - 4), .int .i64 (((aroundI a 24) - 4) + (aroundI c 13)), .int .i64 (((aroundI b 24) - 4) + (aroundI d 13))]) (by kernel_rfl) (by kernel_rfl) (fun w hT => ?_)
  exact ⟨rfl, hT.post rfl⟩

theorem imgFar (n : Int) (w : World) :
    Calls Try.prog 51 #[.int .i64 n] w fun e w' => e = .returned (.int .i64 (farI n)) ∧ Below w.heap.size w w' := by
  refine enter 6 [(0, .int .i64 n)] [] Try.func51 rfl Try.ntmps51 rfl (by kernel_rfl) (Tab.start w) ?_
  refine cont_seq ?_
  refine cont_region 1 rfl ?_
  refine batch0 [0] 1 0 [(0, .int .i64 n)] [] rfl rfl (by kernel_rfl) (by kernel_rfl) ?_
  refine cont_done ?_
  refine then_normal ?_
  refine cont_seq ?_
  refine cont_region 4 rfl ?_
  refine batch0 [0, 0, 0, 0] 4 0 [(2, .int .i64 (mn (mx n (-1048576)) 1048576))] [] rfl rfl (by kernel_rfl) (by kernel_rfl) ?_
  refine cont_done ?_
  refine then_normal ?_
  refine cont_ret ?_
  refine ret_one (.inl rfl) rfl 0 (.int .i64 (mn (mx n (-1048576)) 1048576)) (by kernel_rfl) (by kernel_rfl) (fun w hT => ?_)
  exact ⟨rfl, hT.post rfl⟩

theorem imgCopy (m : Nat) (W H : Int) (r n cap : Nat) (px : List Int) (m' : Nat) (W' H' : Int) (r' n' cap' : Nat) (px' : List Int) (a b c d dx dy : Int) (w : World) (hT0 : Tab w w [.ro m [.int .i64 W, .int .i64 H, .slice (some ⟨r, 0, none⟩) n cap] 84, .gen (rowE (some ⟨r, 0, none⟩) r n cap 28 1 (ivals .u32 px) false), .ro m' [.int .i64 W', .int .i64 H', .slice (some ⟨r', 0, none⟩) n' cap'] 84, .gen (rdE (some ⟨r', 0, none⟩) r' 0 n' 1 (ivals .u32 px'))]) (hok : ImgOk W H n px) (hok' : ImgOk W' H' n' px') (hcap' : n' ≤ cap') (hcap : n ≤ cap) :
    Calls Try.prog 25 #[.pointer (some ⟨m, 0, none⟩), .pointer (some ⟨m', 0, none⟩), .agg #[.int .i64 a, .int .i64 b, .int .i64 c, .int .i64 d], .int .i64 dx, .int .i64 dy] w fun e w' => e = .returned (.int .i64 (areaI (copyR a b c d W' H' (farI dx) (farI dy) W H).x0 (copyR a b c d W' H' (farI dx) (farI dy) W H).y0 (copyR a b c d W' H' (farI dx) (farI dy) W H).x1 (copyR a b c d W' H' (farI dx) (farI dy) W H).y1)) ∧ Tab w w' [.ro m [.int .i64 W, .int .i64 H, .slice (some ⟨r, 0, none⟩) n cap] 84, .gen (rowE (some ⟨r, 0, none⟩) r n cap 28 1 (ivals .u32 (copyP W px W' px' (copyR a b c d W' H' (farI dx) (farI dy) W H).x0 (copyR a b c d W' H' (farI dx) (farI dy) W H).y0 (copyR a b c d W' H' (farI dx) (farI dy) W H).x1 (copyR a b c d W' H' (farI dx) (farI dy) W H).y1 (farI dx) (farI dy))) false), .ro m' [.int .i64 W', .int .i64 H', .slice (some ⟨r', 0, none⟩) n' cap'] 84, .gen (rdE (some ⟨r', 0, none⟩) r' 0 n' 1 (ivals .u32 px'))] := by
  have hw1 := hok.w1
  have hw2 := hok.w2
  have hh1 := hok.h1
  have hh2 := hok.h2
  have hnum := hok.num
  have hlen := hok.len
  have hle := hok.le
  have hlen' := hok'.len
  have hw1' := hok'.w1
  have hw2' := hok'.w2
  have hh1' := hok'.h1
  have hh2' := hok'.h2
  have hle' := hok'.le
  have hfx := farI_range dx
  have hfy := farI_range dy
  refine enter 77 [(0, .pointer (some ⟨m, 0, none⟩)), (1, .pointer (some ⟨m', 0, none⟩)), (2, .agg #[.int .i64 a, .int .i64 b, .int .i64 c, .int .i64 d]), (3, .int .i64 dx), (4, .int .i64 dy)] [.ro m [.int .i64 W, .int .i64 H, .slice (some ⟨r, 0, none⟩) n cap] 84, .gen (rowE (some ⟨r, 0, none⟩) r n cap 28 1 (ivals .u32 px) false), .ro m' [.int .i64 W', .int .i64 H', .slice (some ⟨r', 0, none⟩) n' cap'] 84, .gen (rdE (some ⟨r', 0, none⟩) r' 0 n' 1 (ivals .u32 px'))] Try.func25 rfl Try.ntmps25 rfl (by kernel_rfl) hT0 ?_
  refine cont_seq ?_
  refine cont_region 2 rfl ?_
  refine batch1 [0, 0] 2 0 (fun b1 => [(0, .pointer (some ⟨m, 0, none⟩)), (1, .pointer (some ⟨m', 0, none⟩)), (3, .int .i64 dx), (4, .int .i64 dy), (7, .pointer (some ⟨b1, 0, none⟩))]) (fun b1 => [.cells b1 [.int .i64 a, .int .i64 b, .int .i64 c, .int .i64 d] 32 true, .ro m [.int .i64 W, .int .i64 H, .slice (some ⟨r, 0, none⟩) n cap] 84, .gen (rowE (some ⟨r, 0, none⟩) r n cap 28 1 (ivals .u32 px) false), .ro m' [.int .i64 W', .int .i64 H', .slice (some ⟨r', 0, none⟩) n' cap'] 84, .gen (rdE (some ⟨r', 0, none⟩) r' 0 n' 1 (ivals .u32 px'))]) rfl rfl [0, 1, 3, 4, 7] (fun _ => rfl) (fun b1 => by kernel_rfl) (fun b1 => by kernel_rfl) (fun b1 => ?_)
  refine cont_done ?_
  refine then_normal ?_
  refine cont_seq ?_
  refine cont_region 1 rfl ?_
  refine batch0 [0] 1 0 [(0, .pointer (some ⟨m, 0, none⟩)), (1, .pointer (some ⟨m', 0, none⟩)), (3, .int .i64 dx), (4, .int .i64 dy), (7, .pointer (some ⟨b1, 0, none⟩)), (11, .func (.func 51) #[] #[])] [.cells b1 [.int .i64 a, .int .i64 b, .int .i64 c, .int .i64 d] 32 true, .ro m [.int .i64 W, .int .i64 H, .slice (some ⟨r, 0, none⟩) n cap] 84, .gen (rowE (some ⟨r, 0, none⟩) r n cap 28 1 (ivals .u32 px) false), .ro m' [.int .i64 W', .int .i64 H', .slice (some ⟨r', 0, none⟩) n' cap'] 84, .gen (rdE (some ⟨r', 0, none⟩) r' 0 n' 1 (ivals .u32 px'))] rfl rfl (by kernel_rfl) (by kernel_rfl) ?_
  refine cont_done ?_
  refine then_normal ?_
  refine cont_seq ?_
  refine cont_region 8 rfl ?_
  refine batch0 [0, 0] 2 6 [(0, .pointer (some ⟨m, 0, none⟩)), (1, .pointer (some ⟨m', 0, none⟩)), (4, .int .i64 dy), (7, .pointer (some ⟨b1, 0, none⟩)), (11, .func (.func 51) #[] #[]), (15, .func (.func 51) #[] #[]), (16, .int .i64 dx)] [.cells b1 [.int .i64 a, .int .i64 b, .int .i64 c, .int .i64 d] 32 true, .ro m [.int .i64 W, .int .i64 H, .slice (some ⟨r, 0, none⟩) n cap] 84, .gen (rowE (some ⟨r, 0, none⟩) r n cap 28 1 (ivals .u32 px) false), .ro m' [.int .i64 W', .int .i64 H', .slice (some ⟨r', 0, none⟩) n' cap'] 84, .gen (rdE (some ⟨r', 0, none⟩) r' 0 n' 1 (ivals .u32 px'))] rfl rfl (by kernel_rfl) (by kernel_rfl) ?_
  refine pl_step 3 5 rfl rfl ?_
  refine call_pure (d := 17) (.int .i64 (farI dx)) (by kernel_rfl) (fun w hT => imgFar dx w) ?_
  refine batch0 [0, 0] 5 3 [(0, .pointer (some ⟨m, 0, none⟩)), (1, .pointer (some ⟨m', 0, none⟩)), (7, .pointer (some ⟨b1, 0, none⟩)), (17, .int .i64 (farI dx)), (18, .func (.func 51) #[] #[]), (19, .int .i64 dy)] [.cells b1 [.int .i64 a, .int .i64 b, .int .i64 c, .int .i64 d] 32 true, .ro m [.int .i64 W, .int .i64 H, .slice (some ⟨r, 0, none⟩) n cap] 84, .gen (rowE (some ⟨r, 0, none⟩) r n cap 28 1 (ivals .u32 px) false), .ro m' [.int .i64 W', .int .i64 H', .slice (some ⟨r', 0, none⟩) n' cap'] 84, .gen (rdE (some ⟨r', 0, none⟩) r' 0 n' 1 (ivals .u32 px'))] rfl rfl (by kernel_rfl) (by kernel_rfl) ?_
  refine pl_step 6 2 rfl rfl ?_
  refine call_pure (d := 20) (.int .i64 (farI dy)) (by kernel_rfl) (fun w hT => imgFar dy w) ?_
  refine batch0 [0, 0] 8 0 [(0, .pointer (some ⟨m, 0, none⟩)), (1, .pointer (some ⟨m', 0, none⟩)), (3, .int .i64 (farI dx)), (4, .int .i64 (farI dy)), (7, .pointer (some ⟨b1, 0, none⟩))] [.cells b1 [.int .i64 a, .int .i64 b, .int .i64 c, .int .i64 d] 32 true, .ro m [.int .i64 W, .int .i64 H, .slice (some ⟨r, 0, none⟩) n cap] 84, .gen (rowE (some ⟨r, 0, none⟩) r n cap 28 1 (ivals .u32 px) false), .ro m' [.int .i64 W', .int .i64 H', .slice (some ⟨r', 0, none⟩) n' cap'] 84, .gen (rdE (some ⟨r', 0, none⟩) r' 0 n' 1 (ivals .u32 px'))] rfl rfl (by kernel_rfl) (by kernel_rfl) ?_
  refine cont_done ?_
  refine then_normal ?_
  refine cont_seq ?_
  refine drawn_enter 19 [] rfl (by kernel_rfl) ?_
  refine takes 0 [] [(0, 0), (2, 0), (4, 0), (8, 0), (10, 0), (14, 0), (1, 0)] 12 [1, 14, 10, 8, 4, 2, 0] [(0, .pointer (some ⟨m, 0, none⟩)), (1, .pointer (some ⟨m', 0, none⟩)), (3, .int .i64 (farI dx)), (4, .int .i64 (farI dy)), (7, .pointer (some ⟨b1, 0, none⟩)), (22, .int .i64 (IntKind.i64.wrap (0 - (farI dx)))), (23, .int .i64 (farI dy)), (25, .pointer (some ⟨m, 0, none⟩)), (29, .int .i64 (farI dx)), (31, .pointer (some ⟨m, 0, none⟩)), (35, .int .i64 (farI dy))] (by kernel_rfl) (by repeat' (first | exact pok_body | refine pok_then ?_ | refine pok_blk ?_)) (by kernel_rfl) rfl rfl (by kernel_rfl) (by kernel_rfl) ?_
  refine cont_recast 22 (.int .i64 (IntKind.i64.wrap (0 - (farI dx)))) (.int .i64 (0 - (farI dx))) rfl (wrapI (by omega) (by omega)) ?_
  refine takes 0 [] [(3, 0)] 11 [3, 1, 14, 10, 8, 4, 2, 0] [(0, .pointer (some ⟨m, 0, none⟩)), (1, .pointer (some ⟨m', 0, none⟩)), (3, .int .i64 (farI dx)), (4, .int .i64 (farI dy)), (7, .pointer (some ⟨b1, 0, none⟩)), (22, .int .i64 (0 - (farI dx))), (24, .int .i64 (IntKind.i64.wrap (0 - (farI dy)))), (25, .pointer (some ⟨m, 0, none⟩)), (29, .int .i64 (farI dx)), (31, .pointer (some ⟨m, 0, none⟩)), (35, .int .i64 (farI dy))] (by kernel_rfl) (by repeat' (first | exact pok_body | refine pok_then ?_ | refine pok_blk ?_)) (by kernel_rfl) rfl rfl (by kernel_rfl) (by kernel_rfl) ?_
  refine cont_recast 24 (.int .i64 (IntKind.i64.wrap (0 - (farI dy)))) (.int .i64 (0 - (farI dy))) rfl (wrapI (by omega) (by omega)) ?_
  refine takes 0 [] [(5, 0), (11, 0), (6, 0), (12, 0), (7, 1), (13, 1), (9, 0)] 4 [9, 13, 7, 12, 6, 11, 5, 3, 1, 14, 10, 8, 4, 2, 0] [(0, .pointer (some ⟨m, 0, none⟩)), (1, .pointer (some ⟨m', 0, none⟩)), (3, .int .i64 (farI dx)), (4, .int .i64 (farI dy)), (7, .pointer (some ⟨b1, 0, none⟩)), (22, .int .i64 (0 - (farI dx))), (24, .int .i64 (0 - (farI dy))), (30, .int .i64 (IntKind.i64.wrap (W - (farI dx)))), (34, .int .i64 H), (35, .int .i64 (farI dy))] (by kernel_rfl) (by repeat' (first | exact pok_body | refine pok_then ?_ | refine pok_blk ?_)) (by kernel_rfl) rfl rfl (by kernel_rfl) (by kernel_rfl) ?_
  refine cont_recast 30 (.int .i64 (IntKind.i64.wrap (W - (farI dx)))) (.int .i64 (W - (farI dx))) rfl (wrapI (by omega) (by omega)) ?_
  refine takes 0 [] [(15, 0)] 3 [15, 9, 13, 7, 12, 6, 11, 5, 3, 1, 14, 10, 8, 4, 2, 0] [(0, .pointer (some ⟨m, 0, none⟩)), (1, .pointer (some ⟨m', 0, none⟩)), (3, .int .i64 (farI dx)), (4, .int .i64 (farI dy)), (7, .pointer (some ⟨b1, 0, none⟩)), (22, .int .i64 (0 - (farI dx))), (24, .int .i64 (0 - (farI dy))), (30, .int .i64 (W - (farI dx))), (36, .int .i64 (IntKind.i64.wrap (H - (farI dy))))] (by kernel_rfl) (by repeat' (first | exact pok_body | refine pok_then ?_ | refine pok_blk ?_)) (by kernel_rfl) rfl rfl (by kernel_rfl) (by kernel_rfl) ?_
  refine cont_recast 36 (.int .i64 (IntKind.i64.wrap (H - (farI dy)))) (.int .i64 (H - (farI dy))) rfl (wrapI (by omega) (by omega)) ?_
  refine takes 0 [] [(16, 0)] 2 [16, 15, 9, 13, 7, 12, 6, 11, 5, 3, 1, 14, 10, 8, 4, 2, 0] [(0, .pointer (some ⟨m, 0, none⟩)), (1, .pointer (some ⟨m', 0, none⟩)), (3, .int .i64 (farI dx)), (4, .int .i64 (farI dy)), (7, .pointer (some ⟨b1, 0, none⟩)), (37, .agg #[.int .i64 (0 - (farI dx)), .int .i64 (0 - (farI dy)), .int .i64 (W - (farI dx)), .int .i64 (H - (farI dy))])] (by kernel_rfl) (by repeat' (first | exact pok_body | refine pok_then ?_ | refine pok_blk ?_)) (by kernel_rfl) rfl rfl (by kernel_rfl) (by kernel_rfl) ?_
  refine drawn_one 17 1 rfl (by kernel_rfl) ?_
  refine one_step1 0 (fun b2 => [(0, .pointer (some ⟨m, 0, none⟩)), (1, .pointer (some ⟨m', 0, none⟩)), (3, .int .i64 (farI dx)), (4, .int .i64 (farI dy)), (7, .pointer (some ⟨b1, 0, none⟩)), (12, .pointer (some ⟨b2, 0, none⟩)), (37, .agg #[.int .i64 (0 - (farI dx)), .int .i64 (0 - (farI dy)), .int .i64 (W - (farI dx)), .int .i64 (H - (farI dy))])]) (fun b2 => [.cells b2 [.int .i64 0, .int .i64 0, .int .i64 0, .int .i64 0] 32 true, .cells b1 [.int .i64 a, .int .i64 b, .int .i64 c, .int .i64 d] 32 true, .ro m [.int .i64 W, .int .i64 H, .slice (some ⟨r, 0, none⟩) n cap] 84, .gen (rowE (some ⟨r, 0, none⟩) r n cap 28 1 (ivals .u32 px) false), .ro m' [.int .i64 W', .int .i64 H', .slice (some ⟨r', 0, none⟩) n' cap'] 84, .gen (rdE (some ⟨r', 0, none⟩) r' 0 n' 1 (ivals .u32 px'))]) (fun b2 => by kernel_rfl) (fun b2 => by kernel_rfl) (fun b2 => ?_)
  refine drawn_next 1 [] (by kernel_rfl) ?_
  refine drawn_one 18 0 rfl (by kernel_rfl) ?_
  refine one_step 0 [(0, .pointer (some ⟨m, 0, none⟩)), (1, .pointer (some ⟨m', 0, none⟩)), (3, .int .i64 (farI dx)), (4, .int .i64 (farI dy)), (7, .pointer (some ⟨b1, 0, none⟩)), (12, .pointer (some ⟨b2, 0, none⟩))] [.cells b2 [.int .i64 (0 - (farI dx)), .int .i64 (0 - (farI dy)), .int .i64 (W - (farI dx)), .int .i64 (H - (farI dy))] 32 true, .cells b1 [.int .i64 a, .int .i64 b, .int .i64 c, .int .i64 d] 32 true, .ro m [.int .i64 W, .int .i64 H, .slice (some ⟨r, 0, none⟩) n cap] 84, .gen (rowE (some ⟨r, 0, none⟩) r n cap 28 1 (ivals .u32 px) false), .ro m' [.int .i64 W', .int .i64 H', .slice (some ⟨r', 0, none⟩) n' cap'] 84, .gen (rdE (some ⟨r', 0, none⟩) r' 0 n' 1 (ivals .u32 px'))] (by kernel_rfl) (by kernel_rfl) ?_
  refine drawn_next 1 [] (by kernel_rfl) ?_
  refine drawn_done (by kernel_rfl) ?_
  refine then_normal ?_
  refine cont_seq ?_
  refine drawn_enter 7 [1] rfl (by kernel_rfl) ?_
  refine takes 0 [1] [(1, 0), (4, 0)] 5 [4, 1] [(0, .pointer (some ⟨m, 0, none⟩)), (1, .pointer (some ⟨m', 0, none⟩)), (3, .int .i64 (farI dx)), (4, .int .i64 (farI dy)), (7, .pointer (some ⟨b1, 0, none⟩)), (39, .pointer (some ⟨m', 0, none⟩)), (42, .agg #[.int .i64 (0 - (farI dx)), .int .i64 (0 - (farI dy)), .int .i64 (W - (farI dx)), .int .i64 (H - (farI dy))])] (by kernel_rfl) (by repeat' (first | exact pok_body | refine pok_then ?_ | refine pok_blk ?_)) (by kernel_rfl) rfl rfl (by kernel_rfl) (by kernel_rfl) ?_
  refine drawn_two 0 2 4 rfl (by kernel_rfl) ?_ ?_
  ·
    refine one_step 1 [(0, .pointer (some ⟨m, 0, none⟩)), (1, .pointer (some ⟨m', 0, none⟩)), (3, .int .i64 (farI dx)), (4, .int .i64 (farI dy)), (7, .pointer (some ⟨b1, 0, none⟩)), (38, .agg #[.int .i64 a, .int .i64 b, .int .i64 c, .int .i64 d]), (39, .pointer (some ⟨m', 0, none⟩)), (42, .agg #[.int .i64 (0 - (farI dx)), .int .i64 (0 - (farI dy)), .int .i64 (W - (farI dx)), .int .i64 (H - (farI dy))])] [.cells b2 [.int .i64 (0 - (farI dx)), .int .i64 (0 - (farI dy)), .int .i64 (W - (farI dx)), .int .i64 (H - (farI dy))] 32 true, .cells b1 [.int .i64 a, .int .i64 b, .int .i64 c, .int .i64 d] 32 true, .ro m [.int .i64 W, .int .i64 H, .slice (some ⟨r, 0, none⟩) n cap] 84, .gen (rowE (some ⟨r, 0, none⟩) r n cap 28 1 (ivals .u32 px) false), .ro m' [.int .i64 W', .int .i64 H', .slice (some ⟨r', 0, none⟩) n' cap'] 84, .gen (rdE (some ⟨r', 0, none⟩) r' 0 n' 1 (ivals .u32 px'))] (by kernel_rfl) (by kernel_rfl) ?_
    refine drawn_next 0 [1] (by kernel_rfl) ?_
    refine drawn_one 2 3 rfl (by kernel_rfl) ?_
    refine call_pure (d := 40) (.agg #[.int .i64 0, .int .i64 0, .int .i64 W', .int .i64 H']) (by kernel_rfl) (fun w hT => imgBox m' W' H' r' n' cap' px'  w ⟨hT.ok 4 _ rfl, hT.ok 5 _ rfl, by omega⟩ hok') ?_
    refine drawn_next 0 [1] (by kernel_rfl) ?_
    refine drawn_one 3 2 rfl (by kernel_rfl) ?_
    refine call_pure (d := 41) (.agg #[.int .i64 ((cutR a b c d 0 0 W' H').x0), .int .i64 ((cutR a b c d 0 0 W' H').y0), .int .i64 ((cutR a b c d 0 0 W' H').x1), .int .i64 ((cutR a b c d 0 0 W' H').y1)]) (by kernel_rfl) (fun w hT => rectCut a b c d 0 0 W' H' w) ?_
    refine drawn_next 0 [1] (by kernel_rfl) ?_
    refine drawn_one 5 1 rfl (by kernel_rfl) ?_
    refine call_pure (d := 43) (.agg #[.int .i64 ((cutR ((cutR a b c d 0 0 W' H').x0) ((cutR a b c d 0 0 W' H').y0) ((cutR a b c d 0 0 W' H').x1) ((cutR a b c d 0 0 W' H').y1) (0 - (farI dx)) (0 - (farI dy)) (W - (farI dx)) (H - (farI dy))).x0), .int .i64 ((cutR ((cutR a b c d 0 0 W' H').x0) ((cutR a b c d 0 0 W' H').y0) ((cutR a b c d 0 0 W' H').x1) ((cutR a b c d 0 0 W' H').y1) (0 - (farI dx)) (0 - (farI dy)) (W - (farI dx)) (H - (farI dy))).y0), .int .i64 ((cutR ((cutR a b c d 0 0 W' H').x0) ((cutR a b c d 0 0 W' H').y0) ((cutR a b c d 0 0 W' H').x1) ((cutR a b c d 0 0 W' H').y1) (0 - (farI dx)) (0 - (farI dy)) (W - (farI dx)) (H - (farI dy))).x1), .int .i64 ((cutR ((cutR a b c d 0 0 W' H').x0) ((cutR a b c d 0 0 W' H').y0) ((cutR a b c d 0 0 W' H').x1) ((cutR a b c d 0 0 W' H').y1) (0 - (farI dx)) (0 - (farI dy)) (W - (farI dx)) (H - (farI dy))).y1)]) (by kernel_rfl) (fun w hT => rectCut ((cutR a b c d 0 0 W' H').x0) ((cutR a b c d 0 0 W' H').y0) ((cutR a b c d 0 0 W' H').x1) ((cutR a b c d 0 0 W' H').y1) (0 - (farI dx)) (0 - (farI dy)) (W - (farI dx)) (H - (farI dy)) w) ?_
    obtain ⟨R, hR⟩ : ∃ R : Rect, R = copyR a b c d W' H' (farI dx) (farI dy) W H := ⟨_, rfl⟩
    have hcs := copyR_in a b c d W' H' (farI dx) (farI dy) W H hR hw1 hh1 ⟨hok'.w1, hok'.w2⟩ ⟨hok'.h1, hok'.h2⟩
    refine cont_recast 43 (.agg #[.int .i64 ((cutR ((cutR a b c d 0 0 W' H').x0) ((cutR a b c d 0 0 W' H').y0) ((cutR a b c d 0 0 W' H').x1) ((cutR a b c d 0 0 W' H').y1) (0 - (farI dx)) (0 - (farI dy)) (W - (farI dx)) (H - (farI dy))).x0), .int .i64 ((cutR ((cutR a b c d 0 0 W' H').x0) ((cutR a b c d 0 0 W' H').y0) ((cutR a b c d 0 0 W' H').x1) ((cutR a b c d 0 0 W' H').y1) (0 - (farI dx)) (0 - (farI dy)) (W - (farI dx)) (H - (farI dy))).y0), .int .i64 ((cutR ((cutR a b c d 0 0 W' H').x0) ((cutR a b c d 0 0 W' H').y0) ((cutR a b c d 0 0 W' H').x1) ((cutR a b c d 0 0 W' H').y1) (0 - (farI dx)) (0 - (farI dy)) (W - (farI dx)) (H - (farI dy))).x1), .int .i64 ((cutR ((cutR a b c d 0 0 W' H').x0) ((cutR a b c d 0 0 W' H').y0) ((cutR a b c d 0 0 W' H').x1) ((cutR a b c d 0 0 W' H').y1) (0 - (farI dx)) (0 - (farI dy)) (W - (farI dx)) (H - (farI dy))).y1)]) (.agg #[.int .i64 R.x0, .int .i64 R.y0, .int .i64 R.x1, .int .i64 R.y1]) rfl (by rw [hR]; rfl) ?_
    refine drawn_next 0 [1] (by kernel_rfl) ?_
    refine drawn_one 6 0 rfl (by kernel_rfl) ?_
    refine one_step 1 [(0, .pointer (some ⟨m, 0, none⟩)), (1, .pointer (some ⟨m', 0, none⟩)), (3, .int .i64 (farI dx)), (4, .int .i64 (farI dy)), (7, .pointer (some ⟨b1, 0, none⟩))] [.cells b2 [.int .i64 (0 - (farI dx)), .int .i64 (0 - (farI dy)), .int .i64 (W - (farI dx)), .int .i64 (H - (farI dy))] 32 true, .cells b1 [.int .i64 R.x0, .int .i64 R.y0, .int .i64 R.x1, .int .i64 R.y1] 32 true, .ro m [.int .i64 W, .int .i64 H, .slice (some ⟨r, 0, none⟩) n cap] 84, .gen (rowE (some ⟨r, 0, none⟩) r n cap 28 1 (ivals .u32 px) false), .ro m' [.int .i64 W', .int .i64 H', .slice (some ⟨r', 0, none⟩) n' cap'] 84, .gen (rdE (some ⟨r', 0, none⟩) r' 0 n' 1 (ivals .u32 px'))] (by kernel_rfl) (by kernel_rfl) ?_
    refine drawn_next 0 [1] (by kernel_rfl) ?_
    refine drawn_done (by kernel_rfl) ?_
    refine then_normal ?_
    refine cont_seq ?_
    refine cont_region 3 rfl ?_
    refine batch0 [0] 1 2 [(0, .pointer (some ⟨m, 0, none⟩)), (3, .int .i64 (farI dx)), (4, .int .i64 (farI dy)), (7, .pointer (some ⟨b1, 0, none⟩)), (44, .pointer (some ⟨m', 0, none⟩))] [.cells b2 [.int .i64 (0 - (farI dx)), .int .i64 (0 - (farI dy)), .int .i64 (W - (farI dx)), .int .i64 (H - (farI dy))] 32 true, .cells b1 [.int .i64 R.x0, .int .i64 R.y0, .int .i64 R.x1, .int .i64 R.y1] 32 true, .ro m [.int .i64 W, .int .i64 H, .slice (some ⟨r, 0, none⟩) n cap] 84, .gen (rowE (some ⟨r, 0, none⟩) r n cap 28 1 (ivals .u32 px) false), .ro m' [.int .i64 W', .int .i64 H', .slice (some ⟨r', 0, none⟩) n' cap'] 84, .gen (rdE (some ⟨r', 0, none⟩) r' 0 n' 1 (ivals .u32 px'))] rfl rfl (by kernel_rfl) (by kernel_rfl) ?_
    refine cont_forget 0 rfl ?_
    refine pl_step 2 1 rfl rfl ?_
    refine call_gen (d := 45) (α := Nat × Nat × Nat) (fun x_ => .pointer (some ⟨x_.1, 0, none⟩)) (fun x_ => [.cells x_.1 [.int .i64 W', .int .i64 H', .slice (some ⟨x_.2.1, 0, none⟩) n' x_.2.2] 84 true, .gen (rowE (some ⟨x_.2.1, 0, none⟩) x_.2.1 n' x_.2.2 28 1 (ivals .u32 px') true), .cells b1 [.int .i64 R.x0, .int .i64 R.y0, .int .i64 R.x1, .int .i64 R.y1] 32 true, .ro m [.int .i64 W, .int .i64 H, .slice (some ⟨r, 0, none⟩) n cap] 84, .gen (rowE (some ⟨r, 0, none⟩) r n cap 28 1 (ivals .u32 px) false), .ro m' [.int .i64 W', .int .i64 H', .slice (some ⟨r', 0, none⟩) n' cap'] 84, .gen (rdE (some ⟨r', 0, none⟩) r' 0 n' 1 (ivals .u32 px'))]) (fun _ => True) (by kernel_rfl) (fun w hT => (imgClone m' W' H' r' n' cap' px' w ⟨hT.ok 3 _ rfl, hT.ok 4 _ rfl, by omega⟩ hok').mono fun e w' ⟨b_, g_, c_, he_, hi_⟩ => ⟨(b_, g_, c_), he_, trivial, hT.addImg hi_⟩) ?_
    rintro ⟨cb3, cg3, cc3⟩ -
    refine cont_norm [(0, .pointer (some ⟨m, 0, none⟩)), (3, .int .i64 (farI dx)), (4, .int .i64 (farI dy)), (7, .pointer (some ⟨b1, 0, none⟩)), (44, .pointer (some ⟨m', 0, none⟩)), (45, .pointer (some ⟨cb3, 0, none⟩))] [.cells cb3 [.int .i64 W', .int .i64 H', .slice (some ⟨cg3, 0, none⟩) n' cc3] 84 true, .gen (rowE (some ⟨cg3, 0, none⟩) cg3 n' cc3 28 1 (ivals .u32 px') true), .cells b1 [.int .i64 R.x0, .int .i64 R.y0, .int .i64 R.x1, .int .i64 R.y1] 32 true, .ro m [.int .i64 W, .int .i64 H, .slice (some ⟨r, 0, none⟩) n cap] 84, .gen (rowE (some ⟨r, 0, none⟩) r n cap 28 1 (ivals .u32 px) false), .ro m' [.int .i64 W', .int .i64 H', .slice (some ⟨r', 0, none⟩) n' cap'] 84, .gen (rdE (some ⟨r', 0, none⟩) r' 0 n' 1 (ivals .u32 px'))] (by kernel_rfl) rfl ?_
    refine batch0 [0] 3 0 [(0, .pointer (some ⟨m, 0, none⟩)), (3, .int .i64 (farI dx)), (4, .int .i64 (farI dy)), (7, .pointer (some ⟨b1, 0, none⟩)), (13, .pointer (some ⟨cb3, 0, none⟩))] [.cells cb3 [.int .i64 W', .int .i64 H', .slice (some ⟨cg3, 0, none⟩) n' cc3] 84 true, .gen (rowE (some ⟨cg3, 0, none⟩) cg3 n' cc3 28 1 (ivals .u32 px') true), .cells b1 [.int .i64 R.x0, .int .i64 R.y0, .int .i64 R.x1, .int .i64 R.y1] 32 true, .ro m [.int .i64 W, .int .i64 H, .slice (some ⟨r, 0, none⟩) n cap] 84, .gen (rowE (some ⟨r, 0, none⟩) r n cap 28 1 (ivals .u32 px) false), .ro m' [.int .i64 W', .int .i64 H', .slice (some ⟨r', 0, none⟩) n' cap'] 84, .gen (rdE (some ⟨r', 0, none⟩) r' 0 n' 1 (ivals .u32 px'))] rfl rfl (by kernel_rfl) (by kernel_rfl) ?_
    refine cont_done ?_
    refine then_normal ?_
    refine cont_seq ?_
    refine cont_seq ?_
    refine cont_region 3 rfl ?_
    refine batch0 [0, 2, 0] 3 0 [(0, .pointer (some ⟨m, 0, none⟩)), (3, .int .i64 (farI dx)), (4, .int .i64 (farI dy)), (7, .pointer (some ⟨b1, 0, none⟩)), (13, .pointer (some ⟨cb3, 0, none⟩)), (14, .int .i64 R.y0)] [.cells cb3 [.int .i64 W', .int .i64 H', .slice (some ⟨cg3, 0, none⟩) n' cc3] 84 true, .gen (rowE (some ⟨cg3, 0, none⟩) cg3 n' cc3 28 1 (ivals .u32 px') true), .cells b1 [.int .i64 R.x0, .int .i64 R.y0, .int .i64 R.x1, .int .i64 R.y1] 32 true, .ro m [.int .i64 W, .int .i64 H, .slice (some ⟨r, 0, none⟩) n cap] 84, .gen (rowE (some ⟨r, 0, none⟩) r n cap 28 1 (ivals .u32 px) false), .ro m' [.int .i64 W', .int .i64 H', .slice (some ⟨r', 0, none⟩) n' cap'] 84, .gen (rdE (some ⟨r', 0, none⟩) r' 0 n' 1 (ivals .u32 px'))] rfl rfl (by kernel_rfl) (by kernel_rfl) ?_
    refine cont_done ?_
    refine then_normal ?_
    refine cont_block ?_
    refine cont_rowEq 4 (px) (copyP W px W' px' R.x0 R.y0 R.x1 R.y0 (farI dx) (farI dy)) rfl ((copyP_none _ _ _ _ _ _ _ _ _ _ (by omega)).symm) ?_
    refine cont_loop (α := Int) (fun x_ : Int => R.y0 ≤ x_ ∧ x_ ≤ R.y1) (fun x_ : Int => [(0, .pointer (some ⟨m, 0, none⟩)), (3, .int .i64 (farI dx)), (4, .int .i64 (farI dy)), (7, .pointer (some ⟨b1, 0, none⟩)), (13, .pointer (some ⟨cb3, 0, none⟩)), (14, .int .i64 x_)]) (fun x_ : Int => [.cells cb3 [.int .i64 W', .int .i64 H', .slice (some ⟨cg3, 0, none⟩) n' cc3] 84 true, .gen (rowE (some ⟨cg3, 0, none⟩) cg3 n' cc3 28 1 (ivals .u32 px') true), .cells b1 [.int .i64 R.x0, .int .i64 R.y0, .int .i64 R.x1, .int .i64 R.y1] 32 true, .ro m [.int .i64 W, .int .i64 H, .slice (some ⟨r, 0, none⟩) n cap] 84, .gen (rowE (some ⟨r, 0, none⟩) r n cap 28 1 (ivals .u32 (copyP W px W' px' R.x0 R.y0 R.x1 x_ (farI dx) (farI dy))) false), .ro m' [.int .i64 W', .int .i64 H', .slice (some ⟨r', 0, none⟩) n' cap'] 84, .gen (rdE (some ⟨r', 0, none⟩) r' 0 n' 1 (ivals .u32 px'))]) (fun x_ : Int => (R.y1 - x_).toNat) R.y0 (⟨by omega, by omega⟩) (by kernel_rfl) (by kernel_rfl) ?_
    rintro y hinv4_
    replace hinv4_ : R.y0 ≤ y ∧ y ≤ R.y1 := hinv4_
    refine cont_norm [(0, .pointer (some ⟨m, 0, none⟩)), (3, .int .i64 (farI dx)), (4, .int .i64 (farI dy)), (7, .pointer (some ⟨b1, 0, none⟩)), (13, .pointer (some ⟨cb3, 0, none⟩)), (14, .int .i64 y)] [.cells cb3 [.int .i64 W', .int .i64 H', .slice (some ⟨cg3, 0, none⟩) n' cc3] 84 true, .gen (rowE (some ⟨cg3, 0, none⟩) cg3 n' cc3 28 1 (ivals .u32 px') true), .cells b1 [.int .i64 R.x0, .int .i64 R.y0, .int .i64 R.x1, .int .i64 R.y1] 32 true, .ro m [.int .i64 W, .int .i64 H, .slice (some ⟨r, 0, none⟩) n cap] 84, .gen (rowE (some ⟨r, 0, none⟩) r n cap 28 1 (ivals .u32 (copyP W px W' px' R.x0 R.y0 R.x1 y (farI dx) (farI dy))) false), .ro m' [.int .i64 W', .int .i64 H', .slice (some ⟨r', 0, none⟩) n' cap'] 84, .gen (rdE (some ⟨r', 0, none⟩) r' 0 n' 1 (ivals .u32 px'))] (by kernel_rfl) rfl ?_
    obtain ⟨hy0, hy1⟩ := hinv4_
    have hpa : y < R.y1 → 0 ≤ (y + farI dy) * W ∧ (y + farI dy) * W ≤ 65536 ∧ (y + farI dy) * W + (W - 1) < n := fun h => hok.place (x := W - 1) (y := y + farI dy) (by omega) (by omega) (by omega) (by omega)
    have hpb : y < R.y1 → 0 ≤ y * W' ∧ y * W' ≤ 65536 ∧ y * W' + (W' - 1) < n' := fun h => hok'.place (x := W' - 1) (y := y) (by omega) (by omega) (by omega) (by omega)
    refine cont_seq ?_
    refine cont_seq ?_
    refine cont_region 4 rfl ?_
    refine batch0 [0, 0, 2, 0] 4 0 [(0, .pointer (some ⟨m, 0, none⟩)), (3, .int .i64 (farI dx)), (4, .int .i64 (farI dy)), (7, .pointer (some ⟨b1, 0, none⟩)), (13, .pointer (some ⟨cb3, 0, none⟩)), (14, .int .i64 y), (51, .bool (decide (y < R.y1)))] [.cells cb3 [.int .i64 W', .int .i64 H', .slice (some ⟨cg3, 0, none⟩) n' cc3] 84 true, .gen (rowE (some ⟨cg3, 0, none⟩) cg3 n' cc3 28 1 (ivals .u32 px') true), .cells b1 [.int .i64 R.x0, .int .i64 R.y0, .int .i64 R.x1, .int .i64 R.y1] 32 true, .ro m [.int .i64 W, .int .i64 H, .slice (some ⟨r, 0, none⟩) n cap] 84, .gen (rowE (some ⟨r, 0, none⟩) r n cap 28 1 (ivals .u32 (copyP W px W' px' R.x0 R.y0 R.x1 y (farI dx) (farI dy))) false), .ro m' [.int .i64 W', .int .i64 H', .slice (some ⟨r', 0, none⟩) n' cap'] 84, .gen (rdE (some ⟨r', 0, none⟩) r' 0 n' 1 (ivals .u32 px'))] rfl rfl (by kernel_rfl) (by kernel_rfl) ?_
    refine cont_done ?_
    refine then_normal ?_
    refine cont_split 51 (decide (y < R.y1)) rfl (fun c5_ => ?_) (fun c5_ => ?_)
    ·
      replace c5_ := of_decide_eq_true c5_
      refine cont_true rfl ?_
      refine cont_skip ?_
      refine then_normal ?_
      refine cont_seq ?_
      refine cont_block ?_
      refine drawn_enter 21 [4] rfl (by kernel_rfl) ?_
      refine takes 0 [4] [(0, 0), (1, 0), (2, 0), (4, 0), (6, 0), (8, 0), (10, 0), (13, 0), (14, 0), (15, 0), (17, 0), (3, 0)] 9 [3, 17, 15, 14, 13, 10, 8, 6, 4, 2, 1, 0] [(0, .pointer (some ⟨m, 0, none⟩)), (3, .int .i64 (farI dx)), (4, .int .i64 (farI dy)), (7, .pointer (some ⟨b1, 0, none⟩)), (13, .pointer (some ⟨cb3, 0, none⟩)), (14, .int .i64 y), (54, .pointer (some ⟨m, 0, none⟩)), (57, .int .i64 (IntKind.i64.wrap (y + (farI dy)))), (58, .pointer (some ⟨b1, 0, none⟩)), (60, .int .i64 (farI dx)), (62, .pointer (some ⟨b1, 2, none⟩)), (64, .int .i64 (farI dx)), (67, .pointer (some ⟨cb3, 0, none⟩)), (68, .int .i64 y), (69, .pointer (some ⟨b1, 0, none⟩)), (71, .pointer (some ⟨b1, 2, none⟩))] (by kernel_rfl) (by repeat' (first | exact pok_body | refine pok_then ?_ | refine pok_blk ?_)) (by kernel_rfl) rfl rfl (by kernel_rfl) (by kernel_rfl) ?_
      refine cont_recast 57 (.int .i64 (IntKind.i64.wrap (y + (farI dy)))) (.int .i64 (y + (farI dy))) rfl (wrapI (by omega) (by omega)) ?_
      refine takes 0 [4] [(5, 2), (9, 2), (16, 2), (18, 2), (7, 0)] 4 [7, 18, 16, 9, 5, 3, 17, 15, 14, 13, 10, 8, 6, 4, 2, 1, 0] [(0, .pointer (some ⟨m, 0, none⟩)), (3, .int .i64 (farI dx)), (4, .int .i64 (farI dy)), (7, .pointer (some ⟨b1, 0, none⟩)), (13, .pointer (some ⟨cb3, 0, none⟩)), (14, .int .i64 y), (54, .pointer (some ⟨m, 0, none⟩)), (57, .int .i64 (y + (farI dy))), (61, .int .i64 (IntKind.i64.wrap (R.x0 + (farI dx)))), (63, .int .i64 R.x1), (64, .int .i64 (farI dx)), (67, .pointer (some ⟨cb3, 0, none⟩)), (68, .int .i64 y), (70, .int .i64 R.x0), (72, .int .i64 R.x1)] (by kernel_rfl) (by repeat' (first | exact pok_body | refine pok_then ?_ | refine pok_blk ?_)) (by kernel_rfl) rfl rfl (by kernel_rfl) (by kernel_rfl) ?_
      refine cont_recast 61 (.int .i64 (IntKind.i64.wrap (R.x0 + (farI dx)))) (.int .i64 (R.x0 + (farI dx))) rfl (wrapI (by omega) (by omega)) ?_
      refine takes 0 [4] [(11, 0)] 3 [11, 7, 18, 16, 9, 5, 3, 17, 15, 14, 13, 10, 8, 6, 4, 2, 1, 0] [(0, .pointer (some ⟨m, 0, none⟩)), (3, .int .i64 (farI dx)), (4, .int .i64 (farI dy)), (7, .pointer (some ⟨b1, 0, none⟩)), (13, .pointer (some ⟨cb3, 0, none⟩)), (14, .int .i64 y), (54, .pointer (some ⟨m, 0, none⟩)), (57, .int .i64 (y + (farI dy))), (61, .int .i64 (R.x0 + (farI dx))), (65, .int .i64 (IntKind.i64.wrap (R.x1 + (farI dx)))), (67, .pointer (some ⟨cb3, 0, none⟩)), (68, .int .i64 y), (70, .int .i64 R.x0), (72, .int .i64 R.x1)] (by kernel_rfl) (by repeat' (first | exact pok_body | refine pok_then ?_ | refine pok_blk ?_)) (by kernel_rfl) rfl rfl (by kernel_rfl) (by kernel_rfl) ?_
      refine cont_recast 65 (.int .i64 (IntKind.i64.wrap (R.x1 + (farI dx)))) (.int .i64 (R.x1 + (farI dx))) rfl (wrapI (by omega) (by omega)) ?_
      refine drawn_one 12 2 rfl (by kernel_rfl) ?_
      refine call_pure (d := 66) (.slice (sliceA r 0 (Int.toNat ((y + (farI dy)) * W + (R.x0 + (farI dx)))) cap 1) (Int.toNat ((y + (farI dy)) * W + (R.x1 + (farI dx))) - Int.toNat ((y + (farI dy)) * W + (R.x0 + (farI dx)))) (cap - Int.toNat ((y + (farI dy)) * W + (R.x0 + (farI dx))))) (by kernel_rfl) (fun w hT => imgRow m W H r n cap (copyP W px W' px' R.x0 R.y0 R.x1 y (farI dx) (farI dy)) (y + (farI dy)) (R.x0 + (farI dx)) (R.x1 + (farI dx)) w ⟨hT.ok 3 _ rfl, Row.rd (hT.ok 4 _ rfl), Row.capLe (hT.ok 4 _ rfl)⟩ (hok.copyP hok' _ _ _ _ _ _) (by omega)) ?_
      refine drawn_next 0 [4] (by kernel_rfl) ?_
      refine drawn_one 19 1 rfl (by kernel_rfl) ?_
      refine call_pure (d := 73) (.slice (sliceA cg3 0 (Int.toNat (y * W' + R.x0)) cc3 1) (Int.toNat (y * W' + R.x1) - Int.toNat (y * W' + R.x0)) (cc3 - Int.toNat (y * W' + R.x0))) (by kernel_rfl) (fun w hT => imgRow cb3 W' H' cg3 n' cc3 px' y R.x0 R.x1 w ⟨hT.ok 0 _ rfl, Row.rd (hT.ok 1 _ rfl), Row.capLe (hT.ok 1 _ rfl)⟩ hok' (by omega)) ?_
      refine drawn_next 0 [4] (by kernel_rfl) ?_
      refine drawn_one 20 0 rfl (by kernel_rfl) ?_
      refine sem_stepW 74 (Builtin.copy_ #[35, 35] 3 #[.slice (sliceA r 0 (Int.toNat ((y + (farI dy)) * W + (R.x0 + (farI dx)))) cap 1) (Int.toNat ((y + (farI dy)) * W + (R.x1 + (farI dx))) - Int.toNat ((y + (farI dy)) * W + (R.x0 + (farI dx)))) (cap - Int.toNat ((y + (farI dy)) * W + (R.x0 + (farI dx)))), .slice (sliceA cg3 0 (Int.toNat (y * W' + R.x0)) cc3 1) (Int.toNat (y * W' + R.x1) - Int.toNat (y * W' + R.x0)) (cc3 - Int.toNat (y * W' + R.x0))]) (fun _ => .int .i64 ((min (Int.toNat (y * W' + R.x1) - Int.toNat (y * W' + R.x0)) (Int.toNat ((y + (farI dy)) * W + (R.x1 + (farI dx))) - Int.toNat ((y + (farI dy)) * W + (R.x0 + (farI dx)))) : Nat) : Int)) (fun _ => [.cells cb3 [.int .i64 W', .int .i64 H', .slice (some ⟨cg3, 0, none⟩) n' cc3] 84 true, .gen (rowE (some ⟨cg3, 0, none⟩) cg3 n' cc3 28 1 (ivals .u32 px') true), .cells b1 [.int .i64 R.x0, .int .i64 R.y0, .int .i64 R.x1, .int .i64 R.y1] 32 true, .ro m [.int .i64 W, .int .i64 H, .slice (some ⟨r, 0, none⟩) n cap] 84, .gen (rowE (some ⟨r, 0, none⟩) r n cap 28 1 (ivals .u32 (copyP W px W' px' R.x0 R.y0 R.x1 (y + 1) (farI dx) (farI dy))) false), .ro m' [.int .i64 W', .int .i64 H', .slice (some ⟨r', 0, none⟩) n' cap'] 84, .gen (rdE (some ⟨r', 0, none⟩) r' 0 n' 1 (ivals .u32 px'))]) (fun _ => True) (by kernel_rfl) (fun w hT => copy_row (o := 0 + (Int.toNat ((y + (farI dy)) * W + (R.x0 + (farI dx)))) * 1) hT (i := 4) rfl (by kernel_rfl) (by kernel_rfl) (fun h_ => sliceA_pos (by omega)) (by omega) (Row.sub (hT.ok 1 _ rfl) (by omega)) (copyP_row hok hok' (by omega) (by omega) (by omega) (by omega) (by omega) (by omega) (by omega) (by omega) (by omega) (by omega) (by omega) rfl (by omega) (by omega))) (fun _ _ => ?_)
      refine drawn_next 0 [4] (by kernel_rfl) ?_
      refine drawn_done (by kernel_rfl) ?_
      refine blk_normal ?_
      refine then_normal ?_
      refine cont_region 3 rfl ?_
      refine batch0 [0, 0] 2 1 [(0, .pointer (some ⟨m, 0, none⟩)), (3, .int .i64 (farI dx)), (4, .int .i64 (farI dy)), (7, .pointer (some ⟨b1, 0, none⟩)), (13, .pointer (some ⟨cb3, 0, none⟩)), (53, .int .i64 (IntKind.i64.wrap (y + 1)))] [.cells cb3 [.int .i64 W', .int .i64 H', .slice (some ⟨cg3, 0, none⟩) n' cc3] 84 true, .gen (rowE (some ⟨cg3, 0, none⟩) cg3 n' cc3 28 1 (ivals .u32 px') true), .cells b1 [.int .i64 R.x0, .int .i64 R.y0, .int .i64 R.x1, .int .i64 R.y1] 32 true, .ro m [.int .i64 W, .int .i64 H, .slice (some ⟨r, 0, none⟩) n cap] 84, .gen (rowE (some ⟨r, 0, none⟩) r n cap 28 1 (ivals .u32 (copyP W px W' px' R.x0 R.y0 R.x1 (y + 1) (farI dx) (farI dy))) false), .ro m' [.int .i64 W', .int .i64 H', .slice (some ⟨r', 0, none⟩) n' cap'] 84, .gen (rdE (some ⟨r', 0, none⟩) r' 0 n' 1 (ivals .u32 px'))] rfl rfl (by kernel_rfl) (by kernel_rfl) ?_
      refine cont_recast 53 (.int .i64 (IntKind.i64.wrap (y + 1))) (.int .i64 (y + 1)) rfl (wrapI (by omega) (by omega)) ?_
      refine batch0 [0] 3 0 [(0, .pointer (some ⟨m, 0, none⟩)), (3, .int .i64 (farI dx)), (4, .int .i64 (farI dy)), (7, .pointer (some ⟨b1, 0, none⟩)), (13, .pointer (some ⟨cb3, 0, none⟩)), (14, .int .i64 (y + 1))] [.cells cb3 [.int .i64 W', .int .i64 H', .slice (some ⟨cg3, 0, none⟩) n' cc3] 84 true, .gen (rowE (some ⟨cg3, 0, none⟩) cg3 n' cc3 28 1 (ivals .u32 px') true), .cells b1 [.int .i64 R.x0, .int .i64 R.y0, .int .i64 R.x1, .int .i64 R.y1] 32 true, .ro m [.int .i64 W, .int .i64 H, .slice (some ⟨r, 0, none⟩) n cap] 84, .gen (rowE (some ⟨r, 0, none⟩) r n cap 28 1 (ivals .u32 (copyP W px W' px' R.x0 R.y0 R.x1 (y + 1) (farI dx) (farI dy))) false), .ro m' [.int .i64 W', .int .i64 H', .slice (some ⟨r', 0, none⟩) n' cap'] 84, .gen (rdE (some ⟨r', 0, none⟩) r' 0 n' 1 (ivals .u32 px'))] rfl rfl (by kernel_rfl) (by kernel_rfl) ?_
      refine cont_done ?_
      refine then_normal ?_
      refine cont_again (y + 1) (show R.y0 ≤ (y + 1) ∧ (y + 1) ≤ R.y1 from ⟨by omega, by omega⟩) (show (R.y1 - (y + 1)).toNat < (R.y1 - y).toNat from by omega) (by kernel_rfl) (by kernel_rfl)
    replace c5_ := of_decide_eq_false c5_
    refine cont_false rfl ?_
    refine cont_exit ?_
    refine then_exit ?_
    refine then_exit ?_
    refine blk_exit ?_
    refine then_normal ?_
    refine cont_seq ?_
    refine cont_region 3 rfl ?_
    refine batch0 [2] 1 2 [(75, .agg #[.int .i64 R.x0, .int .i64 R.y0, .int .i64 R.x1, .int .i64 R.y1])] [.cells cb3 [.int .i64 W', .int .i64 H', .slice (some ⟨cg3, 0, none⟩) n' cc3] 84 true, .gen (rowE (some ⟨cg3, 0, none⟩) cg3 n' cc3 28 1 (ivals .u32 px') true), .cells b1 [.int .i64 R.x0, .int .i64 R.y0, .int .i64 R.x1, .int .i64 R.y1] 32 true, .ro m [.int .i64 W, .int .i64 H, .slice (some ⟨r, 0, none⟩) n cap] 84, .gen (rowE (some ⟨r, 0, none⟩) r n cap 28 1 (ivals .u32 (copyP W px W' px' R.x0 R.y0 R.x1 y (farI dx) (farI dy))) false), .ro m' [.int .i64 W', .int .i64 H', .slice (some ⟨r', 0, none⟩) n' cap'] 84, .gen (rdE (some ⟨r', 0, none⟩) r' 0 n' 1 (ivals .u32 px'))] rfl rfl (by kernel_rfl) (by kernel_rfl) ?_
    refine cont_forget 0 rfl ?_
    refine cont_forget 1 rfl ?_
    refine pl_step 2 1 rfl rfl ?_
    refine call_pure (d := 76) (.int .i64 (areaI R.x0 R.y0 R.x1 R.y1)) (by kernel_rfl) (fun w hT => rectArea R.x0 R.y0 R.x1 R.y1 w (by omega) (by omega) (by omega) (by omega)) ?_
    refine batch0 [0] 3 0 [(10, .int .i64 (areaI R.x0 R.y0 R.x1 R.y1))] [.gen (rowE (some ⟨cg3, 0, none⟩) cg3 n' cc3 28 1 (ivals .u32 px') true), .ro m [.int .i64 W, .int .i64 H, .slice (some ⟨r, 0, none⟩) n cap] 84, .gen (rowE (some ⟨r, 0, none⟩) r n cap 28 1 (ivals .u32 (copyP W px W' px' R.x0 R.y0 R.x1 y (farI dx) (farI dy))) false), .ro m' [.int .i64 W', .int .i64 H', .slice (some ⟨r', 0, none⟩) n' cap'] 84, .gen (rdE (some ⟨r', 0, none⟩) r' 0 n' 1 (ivals .u32 px'))] rfl rfl (by kernel_rfl) (by kernel_rfl) ?_
    refine cont_done ?_
    refine then_normal ?_
    refine cont_ret ?_
    refine ret_one (.inl rfl) rfl 0 (.int .i64 (areaI R.x0 R.y0 R.x1 R.y1)) (by kernel_rfl) (by kernel_rfl) (fun w hT => ?_)
    replace hT := hT.erase 0 (fun e h hw => by cases h; first | rfl | cases hw)
    rw [show y = R.y1 by omega, hR] at hT
    exact ⟨by rw [hR], hT⟩
  refine call_pure (d := 40) (.agg #[.int .i64 0, .int .i64 0, .int .i64 W', .int .i64 H']) (by kernel_rfl) (fun w hT => imgBox m' W' H' r' n' cap' px'  w ⟨hT.ok 4 _ rfl, hT.ok 5 _ rfl, by omega⟩ hok') ?_
  refine drawn_next 0 [1] (by kernel_rfl) ?_
  refine drawn_one 0 3 rfl (by kernel_rfl) ?_
  refine one_step 1 [(0, .pointer (some ⟨m, 0, none⟩)), (1, .pointer (some ⟨m', 0, none⟩)), (3, .int .i64 (farI dx)), (4, .int .i64 (farI dy)), (7, .pointer (some ⟨b1, 0, none⟩)), (38, .agg #[.int .i64 a, .int .i64 b, .int .i64 c, .int .i64 d]), (40, .agg #[.int .i64 0, .int .i64 0, .int .i64 W', .int .i64 H']), (42, .agg #[.int .i64 (0 - (farI dx)), .int .i64 (0 - (farI dy)), .int .i64 (W - (farI dx)), .int .i64 (H - (farI dy))])] [.cells b2 [.int .i64 (0 - (farI dx)), .int .i64 (0 - (farI dy)), .int .i64 (W - (farI dx)), .int .i64 (H - (farI dy))] 32 true, .cells b1 [.int .i64 a, .int .i64 b, .int .i64 c, .int .i64 d] 32 true, .ro m [.int .i64 W, .int .i64 H, .slice (some ⟨r, 0, none⟩) n cap] 84, .gen (rowE (some ⟨r, 0, none⟩) r n cap 28 1 (ivals .u32 px) false), .ro m' [.int .i64 W', .int .i64 H', .slice (some ⟨r', 0, none⟩) n' cap'] 84, .gen (rdE (some ⟨r', 0, none⟩) r' 0 n' 1 (ivals .u32 px'))] (by kernel_rfl) (by kernel_rfl) ?_
  refine drawn_next 0 [1] (by kernel_rfl) ?_
  refine drawn_one 3 2 rfl (by kernel_rfl) ?_
  refine call_pure (d := 41) (.agg #[.int .i64 ((cutR a b c d 0 0 W' H').x0), .int .i64 ((cutR a b c d 0 0 W' H').y0), .int .i64 ((cutR a b c d 0 0 W' H').x1), .int .i64 ((cutR a b c d 0 0 W' H').y1)]) (by kernel_rfl) (fun w hT => rectCut a b c d 0 0 W' H' w) ?_
  refine drawn_next 0 [1] (by kernel_rfl) ?_
  refine drawn_one 5 1 rfl (by kernel_rfl) ?_
  refine call_pure (d := 43) (.agg #[.int .i64 ((cutR ((cutR a b c d 0 0 W' H').x0) ((cutR a b c d 0 0 W' H').y0) ((cutR a b c d 0 0 W' H').x1) ((cutR a b c d 0 0 W' H').y1) (0 - (farI dx)) (0 - (farI dy)) (W - (farI dx)) (H - (farI dy))).x0), .int .i64 ((cutR ((cutR a b c d 0 0 W' H').x0) ((cutR a b c d 0 0 W' H').y0) ((cutR a b c d 0 0 W' H').x1) ((cutR a b c d 0 0 W' H').y1) (0 - (farI dx)) (0 - (farI dy)) (W - (farI dx)) (H - (farI dy))).y0), .int .i64 ((cutR ((cutR a b c d 0 0 W' H').x0) ((cutR a b c d 0 0 W' H').y0) ((cutR a b c d 0 0 W' H').x1) ((cutR a b c d 0 0 W' H').y1) (0 - (farI dx)) (0 - (farI dy)) (W - (farI dx)) (H - (farI dy))).x1), .int .i64 ((cutR ((cutR a b c d 0 0 W' H').x0) ((cutR a b c d 0 0 W' H').y0) ((cutR a b c d 0 0 W' H').x1) ((cutR a b c d 0 0 W' H').y1) (0 - (farI dx)) (0 - (farI dy)) (W - (farI dx)) (H - (farI dy))).y1)]) (by kernel_rfl) (fun w hT => rectCut ((cutR a b c d 0 0 W' H').x0) ((cutR a b c d 0 0 W' H').y0) ((cutR a b c d 0 0 W' H').x1) ((cutR a b c d 0 0 W' H').y1) (0 - (farI dx)) (0 - (farI dy)) (W - (farI dx)) (H - (farI dy)) w) ?_
  obtain ⟨R, hR⟩ : ∃ R : Rect, R = copyR a b c d W' H' (farI dx) (farI dy) W H := ⟨_, rfl⟩
  have hcs := copyR_in a b c d W' H' (farI dx) (farI dy) W H hR hw1 hh1 ⟨hok'.w1, hok'.w2⟩ ⟨hok'.h1, hok'.h2⟩
  refine cont_recast 43 (.agg #[.int .i64 ((cutR ((cutR a b c d 0 0 W' H').x0) ((cutR a b c d 0 0 W' H').y0) ((cutR a b c d 0 0 W' H').x1) ((cutR a b c d 0 0 W' H').y1) (0 - (farI dx)) (0 - (farI dy)) (W - (farI dx)) (H - (farI dy))).x0), .int .i64 ((cutR ((cutR a b c d 0 0 W' H').x0) ((cutR a b c d 0 0 W' H').y0) ((cutR a b c d 0 0 W' H').x1) ((cutR a b c d 0 0 W' H').y1) (0 - (farI dx)) (0 - (farI dy)) (W - (farI dx)) (H - (farI dy))).y0), .int .i64 ((cutR ((cutR a b c d 0 0 W' H').x0) ((cutR a b c d 0 0 W' H').y0) ((cutR a b c d 0 0 W' H').x1) ((cutR a b c d 0 0 W' H').y1) (0 - (farI dx)) (0 - (farI dy)) (W - (farI dx)) (H - (farI dy))).x1), .int .i64 ((cutR ((cutR a b c d 0 0 W' H').x0) ((cutR a b c d 0 0 W' H').y0) ((cutR a b c d 0 0 W' H').x1) ((cutR a b c d 0 0 W' H').y1) (0 - (farI dx)) (0 - (farI dy)) (W - (farI dx)) (H - (farI dy))).y1)]) (.agg #[.int .i64 R.x0, .int .i64 R.y0, .int .i64 R.x1, .int .i64 R.y1]) rfl (by rw [hR]; rfl) ?_
  refine drawn_next 0 [1] (by kernel_rfl) ?_
  refine drawn_one 6 0 rfl (by kernel_rfl) ?_
  refine one_step 1 [(0, .pointer (some ⟨m, 0, none⟩)), (1, .pointer (some ⟨m', 0, none⟩)), (3, .int .i64 (farI dx)), (4, .int .i64 (farI dy)), (7, .pointer (some ⟨b1, 0, none⟩))] [.cells b2 [.int .i64 (0 - (farI dx)), .int .i64 (0 - (farI dy)), .int .i64 (W - (farI dx)), .int .i64 (H - (farI dy))] 32 true, .cells b1 [.int .i64 R.x0, .int .i64 R.y0, .int .i64 R.x1, .int .i64 R.y1] 32 true, .ro m [.int .i64 W, .int .i64 H, .slice (some ⟨r, 0, none⟩) n cap] 84, .gen (rowE (some ⟨r, 0, none⟩) r n cap 28 1 (ivals .u32 px) false), .ro m' [.int .i64 W', .int .i64 H', .slice (some ⟨r', 0, none⟩) n' cap'] 84, .gen (rdE (some ⟨r', 0, none⟩) r' 0 n' 1 (ivals .u32 px'))] (by kernel_rfl) (by kernel_rfl) ?_
  refine drawn_next 0 [1] (by kernel_rfl) ?_
  refine drawn_done (by kernel_rfl) ?_
  refine then_normal ?_
  refine cont_seq ?_
  refine cont_region 3 rfl ?_
  refine batch0 [0] 1 2 [(0, .pointer (some ⟨m, 0, none⟩)), (3, .int .i64 (farI dx)), (4, .int .i64 (farI dy)), (7, .pointer (some ⟨b1, 0, none⟩)), (44, .pointer (some ⟨m', 0, none⟩))] [.cells b2 [.int .i64 (0 - (farI dx)), .int .i64 (0 - (farI dy)), .int .i64 (W - (farI dx)), .int .i64 (H - (farI dy))] 32 true, .cells b1 [.int .i64 R.x0, .int .i64 R.y0, .int .i64 R.x1, .int .i64 R.y1] 32 true, .ro m [.int .i64 W, .int .i64 H, .slice (some ⟨r, 0, none⟩) n cap] 84, .gen (rowE (some ⟨r, 0, none⟩) r n cap 28 1 (ivals .u32 px) false), .ro m' [.int .i64 W', .int .i64 H', .slice (some ⟨r', 0, none⟩) n' cap'] 84, .gen (rdE (some ⟨r', 0, none⟩) r' 0 n' 1 (ivals .u32 px'))] rfl rfl (by kernel_rfl) (by kernel_rfl) ?_
  refine cont_forget 0 rfl ?_
  refine pl_step 2 1 rfl rfl ?_
  refine call_gen (d := 45) (α := Nat × Nat × Nat) (fun x_ => .pointer (some ⟨x_.1, 0, none⟩)) (fun x_ => [.cells x_.1 [.int .i64 W', .int .i64 H', .slice (some ⟨x_.2.1, 0, none⟩) n' x_.2.2] 84 true, .gen (rowE (some ⟨x_.2.1, 0, none⟩) x_.2.1 n' x_.2.2 28 1 (ivals .u32 px') true), .cells b1 [.int .i64 R.x0, .int .i64 R.y0, .int .i64 R.x1, .int .i64 R.y1] 32 true, .ro m [.int .i64 W, .int .i64 H, .slice (some ⟨r, 0, none⟩) n cap] 84, .gen (rowE (some ⟨r, 0, none⟩) r n cap 28 1 (ivals .u32 px) false), .ro m' [.int .i64 W', .int .i64 H', .slice (some ⟨r', 0, none⟩) n' cap'] 84, .gen (rdE (some ⟨r', 0, none⟩) r' 0 n' 1 (ivals .u32 px'))]) (fun _ => True) (by kernel_rfl) (fun w hT => (imgClone m' W' H' r' n' cap' px' w ⟨hT.ok 3 _ rfl, hT.ok 4 _ rfl, by omega⟩ hok').mono fun e w' ⟨b_, g_, c_, he_, hi_⟩ => ⟨(b_, g_, c_), he_, trivial, hT.addImg hi_⟩) ?_
  rintro ⟨cb6, cg6, cc6⟩ -
  refine cont_norm [(0, .pointer (some ⟨m, 0, none⟩)), (3, .int .i64 (farI dx)), (4, .int .i64 (farI dy)), (7, .pointer (some ⟨b1, 0, none⟩)), (44, .pointer (some ⟨m', 0, none⟩)), (45, .pointer (some ⟨cb6, 0, none⟩))] [.cells cb6 [.int .i64 W', .int .i64 H', .slice (some ⟨cg6, 0, none⟩) n' cc6] 84 true, .gen (rowE (some ⟨cg6, 0, none⟩) cg6 n' cc6 28 1 (ivals .u32 px') true), .cells b1 [.int .i64 R.x0, .int .i64 R.y0, .int .i64 R.x1, .int .i64 R.y1] 32 true, .ro m [.int .i64 W, .int .i64 H, .slice (some ⟨r, 0, none⟩) n cap] 84, .gen (rowE (some ⟨r, 0, none⟩) r n cap 28 1 (ivals .u32 px) false), .ro m' [.int .i64 W', .int .i64 H', .slice (some ⟨r', 0, none⟩) n' cap'] 84, .gen (rdE (some ⟨r', 0, none⟩) r' 0 n' 1 (ivals .u32 px'))] (by kernel_rfl) rfl ?_
  refine batch0 [0] 3 0 [(0, .pointer (some ⟨m, 0, none⟩)), (3, .int .i64 (farI dx)), (4, .int .i64 (farI dy)), (7, .pointer (some ⟨b1, 0, none⟩)), (13, .pointer (some ⟨cb6, 0, none⟩))] [.cells cb6 [.int .i64 W', .int .i64 H', .slice (some ⟨cg6, 0, none⟩) n' cc6] 84 true, .gen (rowE (some ⟨cg6, 0, none⟩) cg6 n' cc6 28 1 (ivals .u32 px') true), .cells b1 [.int .i64 R.x0, .int .i64 R.y0, .int .i64 R.x1, .int .i64 R.y1] 32 true, .ro m [.int .i64 W, .int .i64 H, .slice (some ⟨r, 0, none⟩) n cap] 84, .gen (rowE (some ⟨r, 0, none⟩) r n cap 28 1 (ivals .u32 px) false), .ro m' [.int .i64 W', .int .i64 H', .slice (some ⟨r', 0, none⟩) n' cap'] 84, .gen (rdE (some ⟨r', 0, none⟩) r' 0 n' 1 (ivals .u32 px'))] rfl rfl (by kernel_rfl) (by kernel_rfl) ?_
  refine cont_done ?_
  refine then_normal ?_
  refine cont_seq ?_
  refine cont_seq ?_
  refine cont_region 3 rfl ?_
  refine batch0 [0, 2, 0] 3 0 [(0, .pointer (some ⟨m, 0, none⟩)), (3, .int .i64 (farI dx)), (4, .int .i64 (farI dy)), (7, .pointer (some ⟨b1, 0, none⟩)), (13, .pointer (some ⟨cb6, 0, none⟩)), (14, .int .i64 R.y0)] [.cells cb6 [.int .i64 W', .int .i64 H', .slice (some ⟨cg6, 0, none⟩) n' cc6] 84 true, .gen (rowE (some ⟨cg6, 0, none⟩) cg6 n' cc6 28 1 (ivals .u32 px') true), .cells b1 [.int .i64 R.x0, .int .i64 R.y0, .int .i64 R.x1, .int .i64 R.y1] 32 true, .ro m [.int .i64 W, .int .i64 H, .slice (some ⟨r, 0, none⟩) n cap] 84, .gen (rowE (some ⟨r, 0, none⟩) r n cap 28 1 (ivals .u32 px) false), .ro m' [.int .i64 W', .int .i64 H', .slice (some ⟨r', 0, none⟩) n' cap'] 84, .gen (rdE (some ⟨r', 0, none⟩) r' 0 n' 1 (ivals .u32 px'))] rfl rfl (by kernel_rfl) (by kernel_rfl) ?_
  refine cont_done ?_
  refine then_normal ?_
  refine cont_block ?_
  refine cont_rowEq 4 (px) (copyP W px W' px' R.x0 R.y0 R.x1 R.y0 (farI dx) (farI dy)) rfl ((copyP_none _ _ _ _ _ _ _ _ _ _ (by omega)).symm) ?_
  refine cont_loop (α := Int) (fun x_ : Int => R.y0 ≤ x_ ∧ x_ ≤ R.y1) (fun x_ : Int => [(0, .pointer (some ⟨m, 0, none⟩)), (3, .int .i64 (farI dx)), (4, .int .i64 (farI dy)), (7, .pointer (some ⟨b1, 0, none⟩)), (13, .pointer (some ⟨cb6, 0, none⟩)), (14, .int .i64 x_)]) (fun x_ : Int => [.cells cb6 [.int .i64 W', .int .i64 H', .slice (some ⟨cg6, 0, none⟩) n' cc6] 84 true, .gen (rowE (some ⟨cg6, 0, none⟩) cg6 n' cc6 28 1 (ivals .u32 px') true), .cells b1 [.int .i64 R.x0, .int .i64 R.y0, .int .i64 R.x1, .int .i64 R.y1] 32 true, .ro m [.int .i64 W, .int .i64 H, .slice (some ⟨r, 0, none⟩) n cap] 84, .gen (rowE (some ⟨r, 0, none⟩) r n cap 28 1 (ivals .u32 (copyP W px W' px' R.x0 R.y0 R.x1 x_ (farI dx) (farI dy))) false), .ro m' [.int .i64 W', .int .i64 H', .slice (some ⟨r', 0, none⟩) n' cap'] 84, .gen (rdE (some ⟨r', 0, none⟩) r' 0 n' 1 (ivals .u32 px'))]) (fun x_ : Int => (R.y1 - x_).toNat) R.y0 (⟨by omega, by omega⟩) (by kernel_rfl) (by kernel_rfl) ?_
  rintro y hinv7_
  replace hinv7_ : R.y0 ≤ y ∧ y ≤ R.y1 := hinv7_
  refine cont_norm [(0, .pointer (some ⟨m, 0, none⟩)), (3, .int .i64 (farI dx)), (4, .int .i64 (farI dy)), (7, .pointer (some ⟨b1, 0, none⟩)), (13, .pointer (some ⟨cb6, 0, none⟩)), (14, .int .i64 y)] [.cells cb6 [.int .i64 W', .int .i64 H', .slice (some ⟨cg6, 0, none⟩) n' cc6] 84 true, .gen (rowE (some ⟨cg6, 0, none⟩) cg6 n' cc6 28 1 (ivals .u32 px') true), .cells b1 [.int .i64 R.x0, .int .i64 R.y0, .int .i64 R.x1, .int .i64 R.y1] 32 true, .ro m [.int .i64 W, .int .i64 H, .slice (some ⟨r, 0, none⟩) n cap] 84, .gen (rowE (some ⟨r, 0, none⟩) r n cap 28 1 (ivals .u32 (copyP W px W' px' R.x0 R.y0 R.x1 y (farI dx) (farI dy))) false), .ro m' [.int .i64 W', .int .i64 H', .slice (some ⟨r', 0, none⟩) n' cap'] 84, .gen (rdE (some ⟨r', 0, none⟩) r' 0 n' 1 (ivals .u32 px'))] (by kernel_rfl) rfl ?_
  obtain ⟨hy0, hy1⟩ := hinv7_
  have hpa : y < R.y1 → 0 ≤ (y + farI dy) * W ∧ (y + farI dy) * W ≤ 65536 ∧ (y + farI dy) * W + (W - 1) < n := fun h => hok.place (x := W - 1) (y := y + farI dy) (by omega) (by omega) (by omega) (by omega)
  have hpb : y < R.y1 → 0 ≤ y * W' ∧ y * W' ≤ 65536 ∧ y * W' + (W' - 1) < n' := fun h => hok'.place (x := W' - 1) (y := y) (by omega) (by omega) (by omega) (by omega)
  refine cont_seq ?_
  refine cont_seq ?_
  refine cont_region 4 rfl ?_
  refine batch0 [0, 0, 2, 0] 4 0 [(0, .pointer (some ⟨m, 0, none⟩)), (3, .int .i64 (farI dx)), (4, .int .i64 (farI dy)), (7, .pointer (some ⟨b1, 0, none⟩)), (13, .pointer (some ⟨cb6, 0, none⟩)), (14, .int .i64 y), (51, .bool (decide (y < R.y1)))] [.cells cb6 [.int .i64 W', .int .i64 H', .slice (some ⟨cg6, 0, none⟩) n' cc6] 84 true, .gen (rowE (some ⟨cg6, 0, none⟩) cg6 n' cc6 28 1 (ivals .u32 px') true), .cells b1 [.int .i64 R.x0, .int .i64 R.y0, .int .i64 R.x1, .int .i64 R.y1] 32 true, .ro m [.int .i64 W, .int .i64 H, .slice (some ⟨r, 0, none⟩) n cap] 84, .gen (rowE (some ⟨r, 0, none⟩) r n cap 28 1 (ivals .u32 (copyP W px W' px' R.x0 R.y0 R.x1 y (farI dx) (farI dy))) false), .ro m' [.int .i64 W', .int .i64 H', .slice (some ⟨r', 0, none⟩) n' cap'] 84, .gen (rdE (some ⟨r', 0, none⟩) r' 0 n' 1 (ivals .u32 px'))] rfl rfl (by kernel_rfl) (by kernel_rfl) ?_
  refine cont_done ?_
  refine then_normal ?_
  refine cont_split 51 (decide (y < R.y1)) rfl (fun c8_ => ?_) (fun c8_ => ?_)
  ·
    replace c8_ := of_decide_eq_true c8_
    refine cont_true rfl ?_
    refine cont_skip ?_
    refine then_normal ?_
    refine cont_seq ?_
    refine cont_block ?_
    refine drawn_enter 21 [4] rfl (by kernel_rfl) ?_
    refine takes 0 [4] [(0, 0), (1, 0), (2, 0), (4, 0), (6, 0), (8, 0), (10, 0), (13, 0), (14, 0), (15, 0), (17, 0), (3, 0)] 9 [3, 17, 15, 14, 13, 10, 8, 6, 4, 2, 1, 0] [(0, .pointer (some ⟨m, 0, none⟩)), (3, .int .i64 (farI dx)), (4, .int .i64 (farI dy)), (7, .pointer (some ⟨b1, 0, none⟩)), (13, .pointer (some ⟨cb6, 0, none⟩)), (14, .int .i64 y), (54, .pointer (some ⟨m, 0, none⟩)), (57, .int .i64 (IntKind.i64.wrap (y + (farI dy)))), (58, .pointer (some ⟨b1, 0, none⟩)), (60, .int .i64 (farI dx)), (62, .pointer (some ⟨b1, 2, none⟩)), (64, .int .i64 (farI dx)), (67, .pointer (some ⟨cb6, 0, none⟩)), (68, .int .i64 y), (69, .pointer (some ⟨b1, 0, none⟩)), (71, .pointer (some ⟨b1, 2, none⟩))] (by kernel_rfl) (by repeat' (first | exact pok_body | refine pok_then ?_ | refine pok_blk ?_)) (by kernel_rfl) rfl rfl (by kernel_rfl) (by kernel_rfl) ?_
    refine cont_recast 57 (.int .i64 (IntKind.i64.wrap (y + (farI dy)))) (.int .i64 (y + (farI dy))) rfl (wrapI (by omega) (by omega)) ?_
    refine takes 0 [4] [(5, 2), (9, 2), (16, 2), (18, 2), (7, 0)] 4 [7, 18, 16, 9, 5, 3, 17, 15, 14, 13, 10, 8, 6, 4, 2, 1, 0] [(0, .pointer (some ⟨m, 0, none⟩)), (3, .int .i64 (farI dx)), (4, .int .i64 (farI dy)), (7, .pointer (some ⟨b1, 0, none⟩)), (13, .pointer (some ⟨cb6, 0, none⟩)), (14, .int .i64 y), (54, .pointer (some ⟨m, 0, none⟩)), (57, .int .i64 (y + (farI dy))), (61, .int .i64 (IntKind.i64.wrap (R.x0 + (farI dx)))), (63, .int .i64 R.x1), (64, .int .i64 (farI dx)), (67, .pointer (some ⟨cb6, 0, none⟩)), (68, .int .i64 y), (70, .int .i64 R.x0), (72, .int .i64 R.x1)] (by kernel_rfl) (by repeat' (first | exact pok_body | refine pok_then ?_ | refine pok_blk ?_)) (by kernel_rfl) rfl rfl (by kernel_rfl) (by kernel_rfl) ?_
    refine cont_recast 61 (.int .i64 (IntKind.i64.wrap (R.x0 + (farI dx)))) (.int .i64 (R.x0 + (farI dx))) rfl (wrapI (by omega) (by omega)) ?_
    refine takes 0 [4] [(11, 0)] 3 [11, 7, 18, 16, 9, 5, 3, 17, 15, 14, 13, 10, 8, 6, 4, 2, 1, 0] [(0, .pointer (some ⟨m, 0, none⟩)), (3, .int .i64 (farI dx)), (4, .int .i64 (farI dy)), (7, .pointer (some ⟨b1, 0, none⟩)), (13, .pointer (some ⟨cb6, 0, none⟩)), (14, .int .i64 y), (54, .pointer (some ⟨m, 0, none⟩)), (57, .int .i64 (y + (farI dy))), (61, .int .i64 (R.x0 + (farI dx))), (65, .int .i64 (IntKind.i64.wrap (R.x1 + (farI dx)))), (67, .pointer (some ⟨cb6, 0, none⟩)), (68, .int .i64 y), (70, .int .i64 R.x0), (72, .int .i64 R.x1)] (by kernel_rfl) (by repeat' (first | exact pok_body | refine pok_then ?_ | refine pok_blk ?_)) (by kernel_rfl) rfl rfl (by kernel_rfl) (by kernel_rfl) ?_
    refine cont_recast 65 (.int .i64 (IntKind.i64.wrap (R.x1 + (farI dx)))) (.int .i64 (R.x1 + (farI dx))) rfl (wrapI (by omega) (by omega)) ?_
    refine drawn_one 12 2 rfl (by kernel_rfl) ?_
    refine call_pure (d := 66) (.slice (sliceA r 0 (Int.toNat ((y + (farI dy)) * W + (R.x0 + (farI dx)))) cap 1) (Int.toNat ((y + (farI dy)) * W + (R.x1 + (farI dx))) - Int.toNat ((y + (farI dy)) * W + (R.x0 + (farI dx)))) (cap - Int.toNat ((y + (farI dy)) * W + (R.x0 + (farI dx))))) (by kernel_rfl) (fun w hT => imgRow m W H r n cap (copyP W px W' px' R.x0 R.y0 R.x1 y (farI dx) (farI dy)) (y + (farI dy)) (R.x0 + (farI dx)) (R.x1 + (farI dx)) w ⟨hT.ok 3 _ rfl, Row.rd (hT.ok 4 _ rfl), Row.capLe (hT.ok 4 _ rfl)⟩ (hok.copyP hok' _ _ _ _ _ _) (by omega)) ?_
    refine drawn_next 0 [4] (by kernel_rfl) ?_
    refine drawn_one 19 1 rfl (by kernel_rfl) ?_
    refine call_pure (d := 73) (.slice (sliceA cg6 0 (Int.toNat (y * W' + R.x0)) cc6 1) (Int.toNat (y * W' + R.x1) - Int.toNat (y * W' + R.x0)) (cc6 - Int.toNat (y * W' + R.x0))) (by kernel_rfl) (fun w hT => imgRow cb6 W' H' cg6 n' cc6 px' y R.x0 R.x1 w ⟨hT.ok 0 _ rfl, Row.rd (hT.ok 1 _ rfl), Row.capLe (hT.ok 1 _ rfl)⟩ hok' (by omega)) ?_
    refine drawn_next 0 [4] (by kernel_rfl) ?_
    refine drawn_one 20 0 rfl (by kernel_rfl) ?_
    refine sem_stepW 74 (Builtin.copy_ #[35, 35] 3 #[.slice (sliceA r 0 (Int.toNat ((y + (farI dy)) * W + (R.x0 + (farI dx)))) cap 1) (Int.toNat ((y + (farI dy)) * W + (R.x1 + (farI dx))) - Int.toNat ((y + (farI dy)) * W + (R.x0 + (farI dx)))) (cap - Int.toNat ((y + (farI dy)) * W + (R.x0 + (farI dx)))), .slice (sliceA cg6 0 (Int.toNat (y * W' + R.x0)) cc6 1) (Int.toNat (y * W' + R.x1) - Int.toNat (y * W' + R.x0)) (cc6 - Int.toNat (y * W' + R.x0))]) (fun _ => .int .i64 ((min (Int.toNat (y * W' + R.x1) - Int.toNat (y * W' + R.x0)) (Int.toNat ((y + (farI dy)) * W + (R.x1 + (farI dx))) - Int.toNat ((y + (farI dy)) * W + (R.x0 + (farI dx)))) : Nat) : Int)) (fun _ => [.cells cb6 [.int .i64 W', .int .i64 H', .slice (some ⟨cg6, 0, none⟩) n' cc6] 84 true, .gen (rowE (some ⟨cg6, 0, none⟩) cg6 n' cc6 28 1 (ivals .u32 px') true), .cells b1 [.int .i64 R.x0, .int .i64 R.y0, .int .i64 R.x1, .int .i64 R.y1] 32 true, .ro m [.int .i64 W, .int .i64 H, .slice (some ⟨r, 0, none⟩) n cap] 84, .gen (rowE (some ⟨r, 0, none⟩) r n cap 28 1 (ivals .u32 (copyP W px W' px' R.x0 R.y0 R.x1 (y + 1) (farI dx) (farI dy))) false), .ro m' [.int .i64 W', .int .i64 H', .slice (some ⟨r', 0, none⟩) n' cap'] 84, .gen (rdE (some ⟨r', 0, none⟩) r' 0 n' 1 (ivals .u32 px'))]) (fun _ => True) (by kernel_rfl) (fun w hT => copy_row (o := 0 + (Int.toNat ((y + (farI dy)) * W + (R.x0 + (farI dx)))) * 1) hT (i := 4) rfl (by kernel_rfl) (by kernel_rfl) (fun h_ => sliceA_pos (by omega)) (by omega) (Row.sub (hT.ok 1 _ rfl) (by omega)) (copyP_row hok hok' (by omega) (by omega) (by omega) (by omega) (by omega) (by omega) (by omega) (by omega) (by omega) (by omega) (by omega) rfl (by omega) (by omega))) (fun _ _ => ?_)
    refine drawn_next 0 [4] (by kernel_rfl) ?_
    refine drawn_done (by kernel_rfl) ?_
    refine blk_normal ?_
    refine then_normal ?_
    refine cont_region 3 rfl ?_
    refine batch0 [0, 0] 2 1 [(0, .pointer (some ⟨m, 0, none⟩)), (3, .int .i64 (farI dx)), (4, .int .i64 (farI dy)), (7, .pointer (some ⟨b1, 0, none⟩)), (13, .pointer (some ⟨cb6, 0, none⟩)), (53, .int .i64 (IntKind.i64.wrap (y + 1)))] [.cells cb6 [.int .i64 W', .int .i64 H', .slice (some ⟨cg6, 0, none⟩) n' cc6] 84 true, .gen (rowE (some ⟨cg6, 0, none⟩) cg6 n' cc6 28 1 (ivals .u32 px') true), .cells b1 [.int .i64 R.x0, .int .i64 R.y0, .int .i64 R.x1, .int .i64 R.y1] 32 true, .ro m [.int .i64 W, .int .i64 H, .slice (some ⟨r, 0, none⟩) n cap] 84, .gen (rowE (some ⟨r, 0, none⟩) r n cap 28 1 (ivals .u32 (copyP W px W' px' R.x0 R.y0 R.x1 (y + 1) (farI dx) (farI dy))) false), .ro m' [.int .i64 W', .int .i64 H', .slice (some ⟨r', 0, none⟩) n' cap'] 84, .gen (rdE (some ⟨r', 0, none⟩) r' 0 n' 1 (ivals .u32 px'))] rfl rfl (by kernel_rfl) (by kernel_rfl) ?_
    refine cont_recast 53 (.int .i64 (IntKind.i64.wrap (y + 1))) (.int .i64 (y + 1)) rfl (wrapI (by omega) (by omega)) ?_
    refine batch0 [0] 3 0 [(0, .pointer (some ⟨m, 0, none⟩)), (3, .int .i64 (farI dx)), (4, .int .i64 (farI dy)), (7, .pointer (some ⟨b1, 0, none⟩)), (13, .pointer (some ⟨cb6, 0, none⟩)), (14, .int .i64 (y + 1))] [.cells cb6 [.int .i64 W', .int .i64 H', .slice (some ⟨cg6, 0, none⟩) n' cc6] 84 true, .gen (rowE (some ⟨cg6, 0, none⟩) cg6 n' cc6 28 1 (ivals .u32 px') true), .cells b1 [.int .i64 R.x0, .int .i64 R.y0, .int .i64 R.x1, .int .i64 R.y1] 32 true, .ro m [.int .i64 W, .int .i64 H, .slice (some ⟨r, 0, none⟩) n cap] 84, .gen (rowE (some ⟨r, 0, none⟩) r n cap 28 1 (ivals .u32 (copyP W px W' px' R.x0 R.y0 R.x1 (y + 1) (farI dx) (farI dy))) false), .ro m' [.int .i64 W', .int .i64 H', .slice (some ⟨r', 0, none⟩) n' cap'] 84, .gen (rdE (some ⟨r', 0, none⟩) r' 0 n' 1 (ivals .u32 px'))] rfl rfl (by kernel_rfl) (by kernel_rfl) ?_
    refine cont_done ?_
    refine then_normal ?_
    refine cont_again (y + 1) (show R.y0 ≤ (y + 1) ∧ (y + 1) ≤ R.y1 from ⟨by omega, by omega⟩) (show (R.y1 - (y + 1)).toNat < (R.y1 - y).toNat from by omega) (by kernel_rfl) (by kernel_rfl)
  replace c8_ := of_decide_eq_false c8_
  refine cont_false rfl ?_
  refine cont_exit ?_
  refine then_exit ?_
  refine then_exit ?_
  refine blk_exit ?_
  refine then_normal ?_
  refine cont_seq ?_
  refine cont_region 3 rfl ?_
  refine batch0 [2] 1 2 [(75, .agg #[.int .i64 R.x0, .int .i64 R.y0, .int .i64 R.x1, .int .i64 R.y1])] [.cells cb6 [.int .i64 W', .int .i64 H', .slice (some ⟨cg6, 0, none⟩) n' cc6] 84 true, .gen (rowE (some ⟨cg6, 0, none⟩) cg6 n' cc6 28 1 (ivals .u32 px') true), .cells b1 [.int .i64 R.x0, .int .i64 R.y0, .int .i64 R.x1, .int .i64 R.y1] 32 true, .ro m [.int .i64 W, .int .i64 H, .slice (some ⟨r, 0, none⟩) n cap] 84, .gen (rowE (some ⟨r, 0, none⟩) r n cap 28 1 (ivals .u32 (copyP W px W' px' R.x0 R.y0 R.x1 y (farI dx) (farI dy))) false), .ro m' [.int .i64 W', .int .i64 H', .slice (some ⟨r', 0, none⟩) n' cap'] 84, .gen (rdE (some ⟨r', 0, none⟩) r' 0 n' 1 (ivals .u32 px'))] rfl rfl (by kernel_rfl) (by kernel_rfl) ?_
  refine cont_forget 0 rfl ?_
  refine cont_forget 1 rfl ?_
  refine pl_step 2 1 rfl rfl ?_
  refine call_pure (d := 76) (.int .i64 (areaI R.x0 R.y0 R.x1 R.y1)) (by kernel_rfl) (fun w hT => rectArea R.x0 R.y0 R.x1 R.y1 w (by omega) (by omega) (by omega) (by omega)) ?_
  refine batch0 [0] 3 0 [(10, .int .i64 (areaI R.x0 R.y0 R.x1 R.y1))] [.gen (rowE (some ⟨cg6, 0, none⟩) cg6 n' cc6 28 1 (ivals .u32 px') true), .ro m [.int .i64 W, .int .i64 H, .slice (some ⟨r, 0, none⟩) n cap] 84, .gen (rowE (some ⟨r, 0, none⟩) r n cap 28 1 (ivals .u32 (copyP W px W' px' R.x0 R.y0 R.x1 y (farI dx) (farI dy))) false), .ro m' [.int .i64 W', .int .i64 H', .slice (some ⟨r', 0, none⟩) n' cap'] 84, .gen (rdE (some ⟨r', 0, none⟩) r' 0 n' 1 (ivals .u32 px'))] rfl rfl (by kernel_rfl) (by kernel_rfl) ?_
  refine cont_done ?_
  refine then_normal ?_
  refine cont_ret ?_
  refine ret_one (.inl rfl) rfl 0 (.int .i64 (areaI R.x0 R.y0 R.x1 R.y1)) (by kernel_rfl) (by kernel_rfl) (fun w hT => ?_)
  replace hT := hT.erase 0 (fun e h hw => by cases h; first | rfl | cases hw)
  rw [show y = R.y1 by omega, hR] at hT
  exact ⟨by rw [hR], hT⟩

end Go.Proofs.Ytommojgfkkoghaa
