/- Texts of this proof's own, put together: what each holds is told ahead of it. -/
import Derived.Test.YtommojgfkkoghaaPiG4
import Derived.Test.YtommojgfkkoghaaProg
import Derived.Test.YtommojgfkkoghaaPiG0
import Derived.Test.YtommojgfkkoghaaRows
import Derived.ProofKit
import Derived.OpenShut
import Derived.Carry
import Derived.ChangeSame
import Derived.ChangeSlices
import Derived.Deep.Slices
import Derived.Deep.Fields
import Derived.Lib.SmallJoins
/- Contracts of functions of the given program, printed by a program of this project. -/
set_option linter.unusedVariables false
set_option linter.unusedSimpArgs false
namespace Go.Proofs.Ytommojgfkkoghaa
open Go Go.RowKit
set_option maxRecDepth 100000
set_option maxHeartbeats 8000000

theorem refCopy4 (W H : Int) (r n cap : Nat) (px : List Int) (W' H' : Int) (r' n' cap' : Nat) (px' : List Int) (a b c d dx dy : Int) (w : World) (hT0 : Tab w w [.gen (rdE (some ⟨r, 0, none⟩) r 0 n 1 (ivals .u32 px)), .gen (rdE (some ⟨r', 0, none⟩) r' 0 n' 1 (ivals .u32 px'))]) (hok : ImgOk W H n px) (hok' : ImgOk W' H' n' px') :
    Calls Try.prog 40 #[.agg #[.int .i64 W, .int .i64 H, .slice (some ⟨r, 0, none⟩) n cap], .agg #[.int .i64 W', .int .i64 H', .slice (some ⟨r', 0, none⟩) n' cap'], .agg #[.int .i64 a, .int .i64 b, .int .i64 c, .int .i64 d], .int .i64 dx, .int .i64 dy] w fun e w' => ∃ g cp : Nat, e = .returned (.tuple #[.agg #[.int .i64 W, .int .i64 H, .slice (some ⟨g, 0, none⟩) n cp], .int .i64 (cntG (cpB W W' H' a b c d (farI dx) (farI dy)) n)]) ∧ Tab w w' [.gen (rowE (some ⟨g, 0, none⟩) g n cp 28 1 (ivals .u32 (cpL W px W' H' px' a b c d (farI dx) (farI dy))) true)] := by
  have hw1 := hok.w1
  have hw2 := hok.w2
  have hh1 := hok.h1
  have hh2 := hok.h2
  have hnum := hok.num
  have hlen := hok.len
  have hle := hok.le
  refine enter 76 [(0, .agg #[.int .i64 W, .int .i64 H, .slice (some ⟨r, 0, none⟩) n cap]), (1, .agg #[.int .i64 W', .int .i64 H', .slice (some ⟨r', 0, none⟩) n' cap']), (2, .agg #[.int .i64 a, .int .i64 b, .int .i64 c, .int .i64 d]), (3, .int .i64 dx), (4, .int .i64 dy)] [.gen (rdE (some ⟨r, 0, none⟩) r 0 n 1 (ivals .u32 px)), .gen (rdE (some ⟨r', 0, none⟩) r' 0 n' 1 (ivals .u32 px'))] Try.func40 rfl Try.ntmps40 rfl (by kernel_rfl) hT0 ?_
  refine cont_seq ?_
  refine cont_region 5 rfl ?_
  refine batch3 [0, 0, 0] 3 2 (fun b1 b2 b3 => [(3, .int .i64 dx), (4, .int .i64 dy), (5, .pointer (some ⟨b1, 0, none⟩)), (6, .pointer (some ⟨b2, 0, none⟩)), (7, .pointer (some ⟨b3, 0, none⟩))]) (fun b1 b2 b3 => [.cells b3 [.int .i64 a, .int .i64 b, .int .i64 c, .int .i64 d] 32 true, .cells b2 [.int .i64 W', .int .i64 H', .slice (some ⟨r', 0, none⟩) n' cap'] 37 true, .cells b1 [.int .i64 W, .int .i64 H, .slice (some ⟨r, 0, none⟩) n cap] 37 true, .gen (rdE (some ⟨r, 0, none⟩) r 0 n 1 (ivals .u32 px)), .gen (rdE (some ⟨r', 0, none⟩) r' 0 n' 1 (ivals .u32 px'))]) rfl rfl [3, 4, 5, 6, 7] (fun _ _ _ => rfl) (fun b1 b2 b3 => by kernel_rfl) (fun b1 b2 b3 => by kernel_rfl) (fun b1 b2 b3 => ?_)
  refine batch1 [0, 0] 5 0 (fun b5 => [(3, .int .i64 dx), (4, .int .i64 dy), (5, .pointer (some ⟨b1, 0, none⟩)), (6, .pointer (some ⟨b2, 0, none⟩)), (7, .pointer (some ⟨b3, 0, none⟩)), (10, .pointer (some ⟨b5, 0, none⟩))]) (fun b5 => [.cells b5 [.int .i64 0, .int .i64 0, .slice none 0 0] 37 true, .cells b3 [.int .i64 a, .int .i64 b, .int .i64 c, .int .i64 d] 32 true, .cells b2 [.int .i64 W', .int .i64 H', .slice (some ⟨r', 0, none⟩) n' cap'] 37 true, .cells b1 [.int .i64 W, .int .i64 H, .slice (some ⟨r, 0, none⟩) n cap] 37 true, .gen (rdE (some ⟨r, 0, none⟩) r 0 n 1 (ivals .u32 px)), .gen (rdE (some ⟨r', 0, none⟩) r' 0 n' 1 (ivals .u32 px'))]) rfl rfl [3, 4, 5, 6, 7, 10] (fun _ => rfl) (fun b5 => by kernel_rfl) (fun b5 => by kernel_rfl) (fun b5 => ?_)
  refine cont_done ?_
  refine then_normal ?_
  refine cont_seq ?_
  refine cont_region 4 rfl ?_
  refine bS [0, 0, 0, 0] 4 0 [(3, .int .i64 (mn (mx dx (-1048576)) 1048576)), (4, .int .i64 dy), (5, .pointer (some ⟨b1, 0, none⟩)), (6, .pointer (some ⟨b2, 0, none⟩)), (7, .pointer (some ⟨b3, 0, none⟩)), (10, .pointer (some ⟨b5, 0, none⟩))] ?_
  refine cont_done ?_
  refine then_normal ?_
  refine cont_seq ?_
  refine cont_region 4 rfl ?_
  refine cont_recast 3 (.int .i64 (mn (mx dx (-1048576)) 1048576)) (.int .i64 (farI dx)) rfl (congrArg (Value.int .i64) rfl) ?_
  obtain ⟨hfdx0, hfdx1⟩ := farI_range dx
  refine bS [0, 0, 0, 0] 4 0 [(3, .int .i64 (farI dx)), (4, .int .i64 (mn (mx dy (-1048576)) 1048576)), (5, .pointer (some ⟨b1, 0, none⟩)), (6, .pointer (some ⟨b2, 0, none⟩)), (7, .pointer (some ⟨b3, 0, none⟩)), (10, .pointer (some ⟨b5, 0, none⟩))] ?_
  refine cont_done ?_
  refine then_normal ?_
  refine cont_seq ?_
  refine cont_region 1 rfl ?_
  refine cont_recast 4 (.int .i64 (mn (mx dy (-1048576)) 1048576)) (.int .i64 (farI dy)) rfl (congrArg (Value.int .i64) rfl) ?_
  obtain ⟨hfdy0, hfdy1⟩ := farI_range dy
  refine bS [0] 1 0 [(3, .int .i64 (farI dx)), (4, .int .i64 (farI dy)), (5, .pointer (some ⟨b1, 0, none⟩)), (6, .pointer (some ⟨b2, 0, none⟩)), (7, .pointer (some ⟨b3, 0, none⟩)), (10, .pointer (some ⟨b5, 0, none⟩)), (12, .slice none 0 0)] ?_
  refine cont_done ?_
  refine then_normal ?_
  refine cont_seq ?_
  refine cont_region 1 rfl ?_
  refine bS [0] 1 0 [(3, .int .i64 (farI dx)), (4, .int .i64 (farI dy)), (5, .pointer (some ⟨b1, 0, none⟩)), (6, .pointer (some ⟨b2, 0, none⟩)), (7, .pointer (some ⟨b3, 0, none⟩)), (10, .pointer (some ⟨b5, 0, none⟩)), (12, .slice none 0 0), (13, .int .i64 0)] ?_
  refine cont_done ?_
  refine then_normal ?_
  refine cont_seq ?_
  refine cont_seq ?_
  refine cont_region 1 rfl ?_
  refine bS [0] 1 0 [(3, .int .i64 (farI dx)), (4, .int .i64 (farI dy)), (5, .pointer (some ⟨b1, 0, none⟩)), (6, .pointer (some ⟨b2, 0, none⟩)), (7, .pointer (some ⟨b3, 0, none⟩)), (10, .pointer (some ⟨b5, 0, none⟩)), (12, .slice none 0 0), (13, .int .i64 0), (14, .int .i64 0)] ?_
  refine cont_done ?_
  refine then_normal ?_
  refine cont_block ?_
  refine cont_nilrow 28 1 ?_
  refine cont_norm [(3, .int .i64 (farI dx)), (4, .int .i64 (farI dy)), (5, .pointer (some ⟨b1, 0, none⟩)), (6, .pointer (some ⟨b2, 0, none⟩)), (7, .pointer (some ⟨b3, 0, none⟩)), (10, .pointer (some ⟨b5, 0, none⟩)), (12, .slice none 0 0), (13, .int .i64 0), (14, .int .i64 0)] [.gen (rowE (none) 0 0 0 28 1 (ivals .u32 []) true), .cells b5 [.int .i64 0, .int .i64 0, .slice none 0 0] 37 true, .cells b3 [.int .i64 a, .int .i64 b, .int .i64 c, .int .i64 d] 32 true, .cells b2 [.int .i64 W', .int .i64 H', .slice (some ⟨r', 0, none⟩) n' cap'] 37 true, .cells b1 [.int .i64 W, .int .i64 H, .slice (some ⟨r, 0, none⟩) n cap] 37 true, .gen (rdE (some ⟨r, 0, none⟩) r 0 n 1 (ivals .u32 px)), .gen (rdE (some ⟨r', 0, none⟩) r' 0 n' 1 (ivals .u32 px'))] (by kernel_rfl) rfl ?_
  refine cont_rowEq (k := .u32) 0 ([]) ((cpL W px W' H' px' a b c d (farI dx) (farI dy)).take 0) rfl (by simp) ?_
  refine cont_recast 13 (.int .i64 0) (.int .i64 (cntG (cpB W W' H' a b c d (farI dx) (farI dy)) 0)) rfl (congrArg (Value.int .i64) rfl) ?_
  refine cont_loop (α := Nat × Option Addr × Nat × Nat) (fun x_ : Nat × Option Addr × Nat × Nat => x_.1 ≤ n) (fun x_ : Nat × Option Addr × Nat × Nat => [(3, .int .i64 (farI dx)), (4, .int .i64 (farI dy)), (5, .pointer (some ⟨b1, 0, none⟩)), (6, .pointer (some ⟨b2, 0, none⟩)), (7, .pointer (some ⟨b3, 0, none⟩)), (10, .pointer (some ⟨b5, 0, none⟩)), (12, .slice x_.2.1 x_.1 x_.2.2.2), (13, .int .i64 (cntG (cpB W W' H' a b c d (farI dx) (farI dy)) x_.1)), (14, .int .i64 (x_.1 : Int))]) (fun x_ : Nat × Option Addr × Nat × Nat => [.gen (rowE (x_.2.1) x_.2.2.1 x_.1 x_.2.2.2 28 1 (ivals .u32 ((cpL W px W' H' px' a b c d (farI dx) (farI dy)).take x_.1)) true), .cells b5 [.int .i64 0, .int .i64 0, .slice none 0 0] 37 true, .cells b3 [.int .i64 a, .int .i64 b, .int .i64 c, .int .i64 d] 32 true, .cells b2 [.int .i64 W', .int .i64 H', .slice (some ⟨r', 0, none⟩) n' cap'] 37 true, .cells b1 [.int .i64 W, .int .i64 H, .slice (some ⟨r, 0, none⟩) n cap] 37 true, .gen (rdE (some ⟨r, 0, none⟩) r 0 n 1 (ivals .u32 px)), .gen (rdE (some ⟨r', 0, none⟩) r' 0 n' 1 (ivals .u32 px'))]) (fun x_ : Nat × Option Addr × Nat × Nat => n - x_.1) (0, none, 0, 0) (show (0) ≤ n from (by omega)) (by kernel_rfl) (by kernel_rfl) ?_
  rintro ⟨i, A, g, cp⟩ hinv7_
  replace hinv7_ : i ≤ n := hinv7_
  refine cont_norm [(3, .int .i64 (farI dx)), (4, .int .i64 (farI dy)), (5, .pointer (some ⟨b1, 0, none⟩)), (6, .pointer (some ⟨b2, 0, none⟩)), (7, .pointer (some ⟨b3, 0, none⟩)), (10, .pointer (some ⟨b5, 0, none⟩)), (12, .slice A i cp), (13, .int .i64 (cntG (cpB W W' H' a b c d (farI dx) (farI dy)) i)), (14, .int .i64 (i : Int))] [.gen (rowE (A) g i cp 28 1 (ivals .u32 ((cpL W px W' H' px' a b c d (farI dx) (farI dy)).take i)) true), .cells b5 [.int .i64 0, .int .i64 0, .slice none 0 0] 37 true, .cells b3 [.int .i64 a, .int .i64 b, .int .i64 c, .int .i64 d] 32 true, .cells b2 [.int .i64 W', .int .i64 H', .slice (some ⟨r', 0, none⟩) n' cap'] 37 true, .cells b1 [.int .i64 W, .int .i64 H, .slice (some ⟨r, 0, none⟩) n cap] 37 true, .gen (rdE (some ⟨r, 0, none⟩) r 0 n 1 (ivals .u32 px)), .gen (rdE (some ⟨r', 0, none⟩) r' 0 n' 1 (ivals .u32 px'))] (by kernel_rfl) rfl ?_
  have hi := hinv7_
  have hem := emod_range i hw1
  have hcr := cntG_rng (cpB W W' H' a b c d (farI dx) (farI dy)) i
  refine cont_seq ?_
  refine cont_seq ?_
  refine cont_region 5 rfl ?_
  refine bS [0, 0, 4, 0, 0] 5 0 [(3, .int .i64 (farI dx)), (4, .int .i64 (farI dy)), (5, .pointer (some ⟨b1, 0, none⟩)), (6, .pointer (some ⟨b2, 0, none⟩)), (7, .pointer (some ⟨b3, 0, none⟩)), (10, .pointer (some ⟨b5, 0, none⟩)), (12, .slice A i cp), (13, .int .i64 (cntG (cpB W W' H' a b c d (farI dx) (farI dy)) i)), (14, .int .i64 (i : Int)), (29, .bool (decide ((i : Int) < (n : Int))))] ?_
  refine cont_done ?_
  refine then_normal ?_
  refine cont_split 29 (decide ((i : Int) < (n : Int))) rfl (fun c8_ => ?_) (fun c8_ => ?_)
  ·
    replace c8_ := of_decide_eq_true c8_
    refine cont_true rfl ?_
    refine cont_skip ?_
    refine then_normal ?_
    refine cont_seq ?_
    refine cont_block ?_
    refine cont_seq ?_
    refine cont_region 7 rfl ?_
    refine bS [0, 0, 4] 3 4 [(3, .int .i64 (farI dx)), (4, .int .i64 (farI dy)), (5, .pointer (some ⟨b1, 0, none⟩)), (6, .pointer (some ⟨b2, 0, none⟩)), (7, .pointer (some ⟨b3, 0, none⟩)), (10, .pointer (some ⟨b5, 0, none⟩)), (12, .slice A i cp), (13, .int .i64 (cntG (cpB W W' H' a b c d (farI dx) (farI dy)) i)), (14, .int .i64 (i : Int)), (32, .int .i64 (i : Int)), (34, .int .i64 W)] ?_
    refine pl_step 4 3 rfl rfl ?_
    refine sem_step 35 (bopS .rem 3 (.tmp 32) (.tmp 34) (.int .i64 (i : Int)) (.int .i64 W)) (.int .i64 ((i : Int).tmod W)) (by kernel_rfl) (fun w hT => run_rem (by omega) w) ?_
    refine cont_recast 35 (.int .i64 ((i : Int).tmod W)) (.int .i64 ((i : Int) % W)) rfl (tmodI (by omega)) ?_
    refine bS [0, 0] 6 1 [(3, .int .i64 (farI dx)), (4, .int .i64 (farI dy)), (5, .pointer (some ⟨b1, 0, none⟩)), (6, .pointer (some ⟨b2, 0, none⟩)), (7, .pointer (some ⟨b3, 0, none⟩)), (10, .pointer (some ⟨b5, 0, none⟩)), (12, .slice A i cp), (13, .int .i64 (cntG (cpB W W' H' a b c d (farI dx) (farI dy)) i)), (14, .int .i64 (i : Int)), (37, .int .i64 (IntKind.i64.wrap (((i : Int) % W) - (farI dx))))] ?_
    refine cont_recast 37 (.int .i64 (IntKind.i64.wrap (((i : Int) % W) - (farI dx)))) (.int .i64 (((i : Int) % W) - (farI dx))) rfl (wrapI (by omega) (by omega)) ?_
    refine bS [0] 7 0 [(3, .int .i64 (farI dx)), (4, .int .i64 (farI dy)), (5, .pointer (some ⟨b1, 0, none⟩)), (6, .pointer (some ⟨b2, 0, none⟩)), (7, .pointer (some ⟨b3, 0, none⟩)), (10, .pointer (some ⟨b5, 0, none⟩)), (12, .slice A i cp), (13, .int .i64 (cntG (cpB W W' H' a b c d (farI dx) (farI dy)) i)), (14, .int .i64 (i : Int)), (15, .int .i64 (((i : Int) % W) - (farI dx)))] ?_
    refine cont_done ?_
    refine then_normal ?_
    refine cont_seq ?_
    refine cont_region 7 rfl ?_
    refine bS [0, 0, 4] 3 4 [(3, .int .i64 (farI dx)), (4, .int .i64 (farI dy)), (5, .pointer (some ⟨b1, 0, none⟩)), (6, .pointer (some ⟨b2, 0, none⟩)), (7, .pointer (some ⟨b3, 0, none⟩)), (10, .pointer (some ⟨b5, 0, none⟩)), (12, .slice A i cp), (13, .int .i64 (cntG (cpB W W' H' a b c d (farI dx) (farI dy)) i)), (14, .int .i64 (i : Int)), (15, .int .i64 (((i : Int) % W) - (farI dx))), (38, .int .i64 (i : Int)), (40, .int .i64 W)] ?_
    refine pl_step 4 3 rfl rfl ?_
    refine sem_step 41 (bopS .quo 3 (.tmp 38) (.tmp 40) (.int .i64 (i : Int)) (.int .i64 W)) (.int .i64 (IntKind.i64.wrap ((i : Int).tdiv W))) (by kernel_rfl) (fun w hT => run_quo (by omega) w) ?_
    refine cont_recast 41 (.int .i64 (IntKind.i64.wrap ((i : Int).tdiv W))) (.int .i64 ((i : Int) / W)) rfl (tdivI (by omega) (by omega) (by omega)) ?_
    refine bS [0, 0] 6 1 [(3, .int .i64 (farI dx)), (4, .int .i64 (farI dy)), (5, .pointer (some ⟨b1, 0, none⟩)), (6, .pointer (some ⟨b2, 0, none⟩)), (7, .pointer (some ⟨b3, 0, none⟩)), (10, .pointer (some ⟨b5, 0, none⟩)), (12, .slice A i cp), (13, .int .i64 (cntG (cpB W W' H' a b c d (farI dx) (farI dy)) i)), (14, .int .i64 (i : Int)), (15, .int .i64 (((i : Int) % W) - (farI dx))), (43, .int .i64 (IntKind.i64.wrap (((i : Int) / W) - (farI dy))))] ?_
    refine cont_recast 43 (.int .i64 (IntKind.i64.wrap (((i : Int) / W) - (farI dy)))) (.int .i64 (((i : Int) / W) - (farI dy))) rfl (wrapI (by omega) (by omega)) ?_
    refine bS [0] 7 0 [(3, .int .i64 (farI dx)), (4, .int .i64 (farI dy)), (5, .pointer (some ⟨b1, 0, none⟩)), (6, .pointer (some ⟨b2, 0, none⟩)), (7, .pointer (some ⟨b3, 0, none⟩)), (10, .pointer (some ⟨b5, 0, none⟩)), (12, .slice A i cp), (13, .int .i64 (cntG (cpB W W' H' a b c d (farI dx) (farI dy)) i)), (14, .int .i64 (i : Int)), (15, .int .i64 (((i : Int) % W) - (farI dx))), (16, .int .i64 (((i : Int) / W) - (farI dy)))] ?_
    refine cont_done ?_
    refine then_normal ?_
    refine cont_seq ?_
    refine cont_region 9 rfl ?_
    refine bS [3, 0, 0] 3 6 [(3, .int .i64 (farI dx)), (4, .int .i64 (farI dy)), (5, .pointer (some ⟨b1, 0, none⟩)), (6, .pointer (some ⟨b2, 0, none⟩)), (7, .pointer (some ⟨b3, 0, none⟩)), (10, .pointer (some ⟨b5, 0, none⟩)), (12, .slice A i cp), (13, .int .i64 (cntG (cpB W W' H' a b c d (farI dx) (farI dy)) i)), (14, .int .i64 (i : Int)), (15, .int .i64 (((i : Int) % W) - (farI dx))), (16, .int .i64 (((i : Int) / W) - (farI dy))), (45, .agg #[.int .i64 W', .int .i64 H', .slice (some ⟨r', 0, none⟩) n' cap']), (46, .int .i64 (((i : Int) % W) - (farI dx))), (47, .int .i64 (((i : Int) / W) - (farI dy)))] ?_
    refine pl_step 4 5 rfl rfl ?_
    refine call_pure (d := 48) (.tuple #[.int .u32 (atC W' H' px' (((i : Int) % W) - (farI dx)) (((i : Int) / W) - (farI dy))), .bool (hasB 0 0 W' H' (((i : Int) % W) - (farI dx)) (((i : Int) / W) - (farI dy)))]) (by kernel_rfl) (fun w hT => refAt W' H' r' n' cap' px' (((i : Int) % W) - (farI dx)) (((i : Int) / W) - (farI dy)) w (hT.viewRo (.cons (i := 6) rfl Vw.rd .nil) rfl) hok') ?_
    refine bS [0, 0, 0, 0, 0] 9 0 [(3, .int .i64 (farI dx)), (4, .int .i64 (farI dy)), (5, .pointer (some ⟨b1, 0, none⟩)), (6, .pointer (some ⟨b2, 0, none⟩)), (7, .pointer (some ⟨b3, 0, none⟩)), (10, .pointer (some ⟨b5, 0, none⟩)), (12, .slice A i cp), (13, .int .i64 (cntG (cpB W W' H' a b c d (farI dx) (farI dy)) i)), (14, .int .i64 (i : Int)), (15, .int .i64 (((i : Int) % W) - (farI dx))), (16, .int .i64 (((i : Int) / W) - (farI dy))), (17, .int .u32 (atC W' H' px' (((i : Int) % W) - (farI dx)) (((i : Int) / W) - (farI dy)))), (18, .bool (hasB 0 0 W' H' (((i : Int) % W) - (farI dx)) (((i : Int) / W) - (farI dy))))] ?_
    refine cont_done ?_
    refine then_normal ?_
    refine cont_seq ?_
    refine cont_region 7 rfl ?_
    refine bS [0, 0] 2 5 [(3, .int .i64 (farI dx)), (4, .int .i64 (farI dy)), (5, .pointer (some ⟨b1, 0, none⟩)), (6, .pointer (some ⟨b2, 0, none⟩)), (7, .pointer (some ⟨b3, 0, none⟩)), (10, .pointer (some ⟨b5, 0, none⟩)), (12, .slice A i cp), (13, .int .i64 (cntG (cpB W W' H' a b c d (farI dx) (farI dy)) i)), (14, .int .i64 (i : Int)), (15, .int .i64 (((i : Int) % W) - (farI dx))), (16, .int .i64 (((i : Int) / W) - (farI dy))), (17, .int .u32 (atC W' H' px' (((i : Int) % W) - (farI dx)) (((i : Int) / W) - (farI dy)))), (52, .bool (hasB 0 0 W' H' (((i : Int) % W) - (farI dx)) (((i : Int) / W) - (farI dy))))] ?_
    refine cont_split 52 (hasB 0 0 W' H' (((i : Int) % W) - (farI dx)) (((i : Int) / W) - (farI dy))) rfl (fun c9_ => ?_) (fun c9_ => ?_)
    ·
      refine bS [2, 0, 0] 5 2 [(3, .int .i64 (farI dx)), (4, .int .i64 (farI dy)), (5, .pointer (some ⟨b1, 0, none⟩)), (6, .pointer (some ⟨b2, 0, none⟩)), (7, .pointer (some ⟨b3, 0, none⟩)), (10, .pointer (some ⟨b5, 0, none⟩)), (12, .slice A i cp), (13, .int .i64 (cntG (cpB W W' H' a b c d (farI dx) (farI dy)) i)), (14, .int .i64 (i : Int)), (17, .int .u32 (atC W' H' px' (((i : Int) % W) - (farI dx)) (((i : Int) / W) - (farI dy)))), (52, .bool true), (53, .agg #[.int .i64 a, .int .i64 b, .int .i64 c, .int .i64 d]), (54, .int .i64 (((i : Int) % W) - (farI dx))), (55, .int .i64 (((i : Int) / W) - (farI dy)))] ?_
      refine pl_step 6 1 rfl rfl ?_
      refine call_pure (d := 56) (.bool (hasB a b c d (((i : Int) % W) - (farI dx)) (((i : Int) / W) - (farI dy)))) (by kernel_rfl) (fun w hT => refHas a b c d (((i : Int) % W) - (farI dx)) (((i : Int) / W) - (farI dy)) w) ?_
      refine bS [0] 7 0 [(3, .int .i64 (farI dx)), (4, .int .i64 (farI dy)), (5, .pointer (some ⟨b1, 0, none⟩)), (6, .pointer (some ⟨b2, 0, none⟩)), (7, .pointer (some ⟨b3, 0, none⟩)), (10, .pointer (some ⟨b5, 0, none⟩)), (12, .slice A i cp), (13, .int .i64 (cntG (cpB W W' H' a b c d (farI dx) (farI dy)) i)), (14, .int .i64 (i : Int)), (17, .int .u32 (atC W' H' px' (((i : Int) % W) - (farI dx)) (((i : Int) / W) - (farI dy)))), (53, .agg #[.int .i64 a, .int .i64 b, .int .i64 c, .int .i64 d]), (54, .int .i64 (((i : Int) % W) - (farI dx))), (55, .int .i64 (((i : Int) / W) - (farI dy))), (56, .bool (hasB a b c d (((i : Int) % W) - (farI dx)) (((i : Int) / W) - (farI dy)))), (57, .bool (hasB a b c d (((i : Int) % W) - (farI dx)) (((i : Int) / W) - (farI dy))))] ?_
      refine cont_done ?_
      refine then_normal ?_
      refine cont_split 57 (hasB a b c d (((i : Int) % W) - (farI dx)) (((i : Int) / W) - (farI dy))) rfl (fun c10_ => ?_) (fun c10_ => ?_)
      ·
        refine cont_recast 56 (.bool (hasB a b c d (((i : Int) % W) - (farI dx)) (((i : Int) / W) - (farI dy)))) (.bool true) rfl (congrArg Value.bool c10_) ?_
        have hB_ : cpB W W' H' a b c d (farI dx) (farI dy) i = true := by unfold cpB; rw [show hasB 0 0 W' H' ((i : Int) % W - farI dx) ((i : Int) / W - farI dy) = true from c9_, Bool.true_and]; exact c10_
        refine cont_true rfl ?_
        refine cont_seq ?_
        refine cont_region 5 rfl ?_
        refine batch1 [0, 0, 0] 3 2 (fun b11 => [(3, .int .i64 (farI dx)), (4, .int .i64 (farI dy)), (5, .pointer (some ⟨b1, 0, none⟩)), (6, .pointer (some ⟨b2, 0, none⟩)), (7, .pointer (some ⟨b3, 0, none⟩)), (10, .pointer (some ⟨b5, 0, none⟩)), (13, .int .i64 (cntG (cpB W W' H' a b c d (farI dx) (farI dy)) i)), (14, .int .i64 (i : Int)), (53, .agg #[.int .i64 a, .int .i64 b, .int .i64 c, .int .i64 d]), (54, .int .i64 (((i : Int) % W) - (farI dx))), (55, .int .i64 (((i : Int) / W) - (farI dy))), (56, .bool true), (58, .slice A i cp), (60, .slice (some ⟨b11, 0, none⟩) 1 1)]) (fun b11 => [.cells b11 [.int .u32 (atC W' H' px' (((i : Int) % W) - (farI dx)) (((i : Int) / W) - (farI dy)))] 28 true, .gen (rowE (A) g i cp 28 1 (ivals .u32 ((cpL W px W' H' px' a b c d (farI dx) (farI dy)).take i)) true), .cells b5 [.int .i64 0, .int .i64 0, .slice none 0 0] 37 true, .cells b3 [.int .i64 a, .int .i64 b, .int .i64 c, .int .i64 d] 32 true, .cells b2 [.int .i64 W', .int .i64 H', .slice (some ⟨r', 0, none⟩) n' cap'] 37 true, .cells b1 [.int .i64 W, .int .i64 H, .slice (some ⟨r, 0, none⟩) n cap] 37 true, .gen (rdE (some ⟨r, 0, none⟩) r 0 n 1 (ivals .u32 px)), .gen (rdE (some ⟨r', 0, none⟩) r' 0 n' 1 (ivals .u32 px'))]) rfl rfl [3, 4, 5, 6, 7, 10, 13, 14, 53, 54, 55, 56, 58, 60] (fun _ => rfl) (fun b11 => by kernel_rfl) (fun b11 => by kernel_rfl) (fun b11 => ?_)
        refine pl_step 4 1 rfl rfl ?_
        refine sem_stepW (α := Option Addr × Nat × Nat) 61 (Builtin.append_ #[35, 35] 35 #[.slice A i cp, .slice (some ⟨b11, 0, none⟩) 1 1]) (fun x_ => .slice x_.1 (i + 1) x_.2.2) (fun x_ => [.cells b11 [.int .u32 (atC W' H' px' (((i : Int) % W) - (farI dx)) (((i : Int) / W) - (farI dy)))] 28 true, .gen (rowE (x_.1) x_.2.1 (i + 1) x_.2.2 28 1 (ivals .u32 (((cpL W px W' H' px' a b c d (farI dx) (farI dy)).take i) ++ [atC W' H' px' (((i : Int) % W) - (farI dx)) (((i : Int) / W) - (farI dy))])) true), .cells b5 [.int .i64 0, .int .i64 0, .slice none 0 0] 37 true, .cells b3 [.int .i64 a, .int .i64 b, .int .i64 c, .int .i64 d] 32 true, .cells b2 [.int .i64 W', .int .i64 H', .slice (some ⟨r', 0, none⟩) n' cap'] 37 true, .cells b1 [.int .i64 W, .int .i64 H, .slice (some ⟨r, 0, none⟩) n cap] 37 true, .gen (rdE (some ⟨r, 0, none⟩) r 0 n 1 (ivals .u32 px)), .gen (rdE (some ⟨r', 0, none⟩) r' 0 n' 1 (ivals .u32 px'))]) (fun _ => True) (by kernel_rfl) (fun w hT => append_own (n' := (i + 1)) (z := .int .u32 0) hT (i := 1) (bytes := 4) rfl (by kernel_rfl) (by kernel_rfl) rfl (by decide) (by decide) (Rd.ofCells (vals := ivals .u32 [atC W' H' px' (((i : Int) % W) - (farI dx)) (((i : Int) / W) - (farI dy))]) (hT.ok 0 _ rfl) rfl rfl) (ivals_one .u32 [atC W' H' px' (((i : Int) % W) - (farI dx)) (((i : Int) / W) - (farI dy))]) (by omega) (ivals_append .u32 ((cpL W px W' H' px' a b c d (farI dx) (farI dy)).take i) [atC W' H' px' (((i : Int) % W) - (farI dx)) (((i : Int) / W) - (farI dy))]) rfl) ?_
        rintro ⟨A12, g12, cp12⟩ -
        refine cont_norm [(3, .int .i64 (farI dx)), (4, .int .i64 (farI dy)), (5, .pointer (some ⟨b1, 0, none⟩)), (6, .pointer (some ⟨b2, 0, none⟩)), (7, .pointer (some ⟨b3, 0, none⟩)), (10, .pointer (some ⟨b5, 0, none⟩)), (13, .int .i64 (cntG (cpB W W' H' a b c d (farI dx) (farI dy)) i)), (14, .int .i64 (i : Int)), (53, .agg #[.int .i64 a, .int .i64 b, .int .i64 c, .int .i64 d]), (54, .int .i64 (((i : Int) % W) - (farI dx))), (55, .int .i64 (((i : Int) / W) - (farI dy))), (56, .bool true), (58, .slice A i cp), (60, .slice (some ⟨b11, 0, none⟩) 1 1), (61, .slice A12 (i + 1) cp12)] [.cells b11 [.int .u32 (atC W' H' px' (((i : Int) % W) - (farI dx)) (((i : Int) / W) - (farI dy)))] 28 true, .gen (rowE (A12) g12 (i + 1) cp12 28 1 (ivals .u32 (((cpL W px W' H' px' a b c d (farI dx) (farI dy)).take i) ++ [atC W' H' px' (((i : Int) % W) - (farI dx)) (((i : Int) / W) - (farI dy))])) true), .cells b5 [.int .i64 0, .int .i64 0, .slice none 0 0] 37 true, .cells b3 [.int .i64 a, .int .i64 b, .int .i64 c, .int .i64 d] 32 true, .cells b2 [.int .i64 W', .int .i64 H', .slice (some ⟨r', 0, none⟩) n' cap'] 37 true, .cells b1 [.int .i64 W, .int .i64 H, .slice (some ⟨r, 0, none⟩) n cap] 37 true, .gen (rdE (some ⟨r, 0, none⟩) r 0 n 1 (ivals .u32 px)), .gen (rdE (some ⟨r', 0, none⟩) r' 0 n' 1 (ivals .u32 px'))] (by kernel_rfl) rfl ?_
        refine cont_fact (F := (0 < (i + 1) → (A12 : Option Addr) = some ⟨g12, 0, none⟩) ∧ (((cpL W px W' H' px' a b c d (farI dx) (farI dy)).take i) ++ [atC W' H' px' (((i : Int) % W) - (farI dx)) (((i : Int) / W) - (farI dy))]).length = (i + 1) ∧ (i + 1) ≤ cp12 ∧ cp12 ≤ maxLen) (fun w hT => Row.facts (hT.ok 1 _ rfl)) (fun hr13_ => ?_)
        obtain ⟨hr13_a, hr13_l, hr13_c, hr13_m⟩ := hr13_
        unfold maxLen at hr13_m
        refine bS [0] 5 0 [(3, .int .i64 (farI dx)), (4, .int .i64 (farI dy)), (5, .pointer (some ⟨b1, 0, none⟩)), (6, .pointer (some ⟨b2, 0, none⟩)), (7, .pointer (some ⟨b3, 0, none⟩)), (10, .pointer (some ⟨b5, 0, none⟩)), (12, .slice A12 (i + 1) cp12), (13, .int .i64 (cntG (cpB W W' H' a b c d (farI dx) (farI dy)) i)), (14, .int .i64 (i : Int)), (53, .agg #[.int .i64 a, .int .i64 b, .int .i64 c, .int .i64 d]), (54, .int .i64 (((i : Int) % W) - (farI dx))), (55, .int .i64 (((i : Int) / W) - (farI dy))), (56, .bool true)] ?_
        refine cont_forget 0 rfl ?_
        refine cont_done ?_
        refine then_normal ?_
        refine cont_region 3 rfl ?_
        refine bS [0, 0] 2 1 [(3, .int .i64 (farI dx)), (4, .int .i64 (farI dy)), (5, .pointer (some ⟨b1, 0, none⟩)), (6, .pointer (some ⟨b2, 0, none⟩)), (7, .pointer (some ⟨b3, 0, none⟩)), (10, .pointer (some ⟨b5, 0, none⟩)), (12, .slice A12 (i + 1) cp12), (14, .int .i64 (i : Int)), (53, .agg #[.int .i64 a, .int .i64 b, .int .i64 c, .int .i64 d]), (54, .int .i64 (((i : Int) % W) - (farI dx))), (55, .int .i64 (((i : Int) / W) - (farI dy))), (56, .bool true), (63, .int .i64 (IntKind.i64.wrap ((cntG (cpB W W' H' a b c d (farI dx) (farI dy)) i) + 1)))] ?_
        refine cont_recast 63 (.int .i64 (IntKind.i64.wrap ((cntG (cpB W W' H' a b c d (farI dx) (farI dy)) i) + 1))) (.int .i64 ((cntG (cpB W W' H' a b c d (farI dx) (farI dy)) i) + 1)) rfl (wrapI (by omega) (by omega)) ?_
        refine bS [0] 3 0 [(3, .int .i64 (farI dx)), (4, .int .i64 (farI dy)), (5, .pointer (some ⟨b1, 0, none⟩)), (6, .pointer (some ⟨b2, 0, none⟩)), (7, .pointer (some ⟨b3, 0, none⟩)), (10, .pointer (some ⟨b5, 0, none⟩)), (12, .slice A12 (i + 1) cp12), (13, .int .i64 ((cntG (cpB W W' H' a b c d (farI dx) (farI dy)) i) + 1)), (14, .int .i64 (i : Int)), (53, .agg #[.int .i64 a, .int .i64 b, .int .i64 c, .int .i64 d]), (54, .int .i64 (((i : Int) % W) - (farI dx))), (55, .int .i64 (((i : Int) / W) - (farI dy))), (56, .bool true)] ?_
        refine cont_done ?_
        refine blk_normal ?_
        refine then_normal ?_
        refine cont_region 3 rfl ?_
        refine bS [0, 0] 2 1 [(3, .int .i64 (farI dx)), (4, .int .i64 (farI dy)), (5, .pointer (some ⟨b1, 0, none⟩)), (6, .pointer (some ⟨b2, 0, none⟩)), (7, .pointer (some ⟨b3, 0, none⟩)), (10, .pointer (some ⟨b5, 0, none⟩)), (12, .slice A12 (i + 1) cp12), (13, .int .i64 ((cntG (cpB W W' H' a b c d (farI dx) (farI dy)) i) + 1)), (31, .int .i64 (IntKind.i64.wrap ((i : Int) + 1))), (53, .agg #[.int .i64 a, .int .i64 b, .int .i64 c, .int .i64 d]), (54, .int .i64 (((i : Int) % W) - (farI dx))), (55, .int .i64 (((i : Int) / W) - (farI dy))), (56, .bool true)] ?_
        refine cont_recast 31 (.int .i64 (IntKind.i64.wrap ((i : Int) + 1))) (.int .i64 ((i : Int) + 1)) rfl (wrapI (by omega) (by omega)) ?_
        refine bS [0] 3 0 [(3, .int .i64 (farI dx)), (4, .int .i64 (farI dy)), (5, .pointer (some ⟨b1, 0, none⟩)), (6, .pointer (some ⟨b2, 0, none⟩)), (7, .pointer (some ⟨b3, 0, none⟩)), (10, .pointer (some ⟨b5, 0, none⟩)), (12, .slice A12 (i + 1) cp12), (13, .int .i64 ((cntG (cpB W W' H' a b c d (farI dx) (farI dy)) i) + 1)), (14, .int .i64 ((i : Int) + 1)), (53, .agg #[.int .i64 a, .int .i64 b, .int .i64 c, .int .i64 d]), (54, .int .i64 (((i : Int) % W) - (farI dx))), (55, .int .i64 (((i : Int) / W) - (farI dy))), (56, .bool true)] ?_
        refine cont_done ?_
        refine then_normal ?_
        refine cont_rowEq (k := .u32) 0 (((cpL W px W' H' px' a b c d (farI dx) (farI dy)).take i) ++ [atC W' H' px' (((i : Int) % W) - (farI dx)) (((i : Int) / W) - (farI dy))]) ((cpL W px W' H' px' a b c d (farI dx) (farI dy)).take (i + 1)) rfl (cpL_yes (by omega) hB_) ?_
        refine cont_recast 13 (.int .i64 ((cntG (cpB W W' H' a b c d (farI dx) (farI dy)) i) + 1)) (.int .i64 (cntG (cpB W W' H' a b c d (farI dx) (farI dy)) (i + 1))) rfl (congrArg (Value.int .i64) (by show _ = cntG _ i + _; rw [hB_]; rfl)) ?_
        refine cont_again (i + 1, A12, g12, cp12) (show (i + 1) ≤ n from (by omega)) (show n - (i + 1) < n - i from by omega) (by kernel_rfl) (by kernel_rfl)
      refine cont_recast 56 (.bool (hasB a b c d (((i : Int) % W) - (farI dx)) (((i : Int) / W) - (farI dy)))) (.bool false) rfl (congrArg Value.bool c10_) ?_
      have hB_ : cpB W W' H' a b c d (farI dx) (farI dy) i = false := by unfold cpB; rw [show hasB 0 0 W' H' ((i : Int) % W - farI dx) ((i : Int) / W - farI dy) = true from c9_, Bool.true_and]; exact c10_
      refine cont_false rfl ?_
      refine cont_region 9 rfl ?_
      refine bS [0, 0, 4, 0] 4 5 [(3, .int .i64 (farI dx)), (4, .int .i64 (farI dy)), (5, .pointer (some ⟨b1, 0, none⟩)), (6, .pointer (some ⟨b2, 0, none⟩)), (7, .pointer (some ⟨b3, 0, none⟩)), (10, .pointer (some ⟨b5, 0, none⟩)), (13, .int .i64 (cntG (cpB W W' H' a b c d (farI dx) (farI dy)) i)), (14, .int .i64 (i : Int)), (53, .agg #[.int .i64 a, .int .i64 b, .int .i64 c, .int .i64 d]), (54, .int .i64 (((i : Int) % W) - (farI dx))), (55, .int .i64 (((i : Int) / W) - (farI dy))), (56, .bool false), (64, .slice A i cp), (66, .slice (some ⟨r, 0, none⟩) n cap), (67, .int .i64 (i : Int))] ?_
      refine pl_step 5 4 rfl rfl ?_
      refine sem_step 68 (Instr.indexAt 35 (.slice (some ⟨r, 0, none⟩) n cap) (.int .i64 (i : Int))) (.pointer (some ⟨r, i, none⟩)) (by kernel_rfl) (fun w hT => run_indexAt (e := 28) (sz := 1) _ (by kernel_rfl) (by kernel_rfl) (by omega) (by omega) (by omega) w) ?_
      refine pl_step 6 3 rfl rfl ?_
      refine sem_step 69 (Instr.loadAt 28 (.pointer (some ⟨r, i, none⟩))) (.int .u32 (px.getD i 0)) (by kernel_rfl) (fun w hT => run_load1 (by kernel_rfl) (Rd.cell0 (hT.ok 5 _ rfl) (i) _ (ivals_get (by omega)))) ?_
      refine batch1 [0] 7 2 (fun b14 => [(3, .int .i64 (farI dx)), (4, .int .i64 (farI dy)), (5, .pointer (some ⟨b1, 0, none⟩)), (6, .pointer (some ⟨b2, 0, none⟩)), (7, .pointer (some ⟨b3, 0, none⟩)), (10, .pointer (some ⟨b5, 0, none⟩)), (13, .int .i64 (cntG (cpB W W' H' a b c d (farI dx) (farI dy)) i)), (14, .int .i64 (i : Int)), (53, .agg #[.int .i64 a, .int .i64 b, .int .i64 c, .int .i64 d]), (54, .int .i64 (((i : Int) % W) - (farI dx))), (55, .int .i64 (((i : Int) / W) - (farI dy))), (56, .bool false), (64, .slice A i cp), (70, .slice (some ⟨b14, 0, none⟩) 1 1)]) (fun b14 => [.cells b14 [.int .u32 (px.getD i 0)] 28 true, .gen (rowE (A) g i cp 28 1 (ivals .u32 ((cpL W px W' H' px' a b c d (farI dx) (farI dy)).take i)) true), .cells b5 [.int .i64 0, .int .i64 0, .slice none 0 0] 37 true, .cells b3 [.int .i64 a, .int .i64 b, .int .i64 c, .int .i64 d] 32 true, .cells b2 [.int .i64 W', .int .i64 H', .slice (some ⟨r', 0, none⟩) n' cap'] 37 true, .cells b1 [.int .i64 W, .int .i64 H, .slice (some ⟨r, 0, none⟩) n cap] 37 true, .gen (rdE (some ⟨r, 0, none⟩) r 0 n 1 (ivals .u32 px)), .gen (rdE (some ⟨r', 0, none⟩) r' 0 n' 1 (ivals .u32 px'))]) rfl rfl [3, 4, 5, 6, 7, 10, 13, 14, 53, 54, 55, 56, 64, 70] (fun _ => rfl) (fun b14 => by kernel_rfl) (fun b14 => by kernel_rfl) (fun b14 => ?_)
      refine pl_step 8 1 rfl rfl ?_
      refine sem_stepW (α := Option Addr × Nat × Nat) 71 (Builtin.append_ #[35, 35] 35 #[.slice A i cp, .slice (some ⟨b14, 0, none⟩) 1 1]) (fun x_ => .slice x_.1 (i + 1) x_.2.2) (fun x_ => [.cells b14 [.int .u32 (px.getD i 0)] 28 true, .gen (rowE (x_.1) x_.2.1 (i + 1) x_.2.2 28 1 (ivals .u32 (((cpL W px W' H' px' a b c d (farI dx) (farI dy)).take i) ++ [px.getD i 0])) true), .cells b5 [.int .i64 0, .int .i64 0, .slice none 0 0] 37 true, .cells b3 [.int .i64 a, .int .i64 b, .int .i64 c, .int .i64 d] 32 true, .cells b2 [.int .i64 W', .int .i64 H', .slice (some ⟨r', 0, none⟩) n' cap'] 37 true, .cells b1 [.int .i64 W, .int .i64 H, .slice (some ⟨r, 0, none⟩) n cap] 37 true, .gen (rdE (some ⟨r, 0, none⟩) r 0 n 1 (ivals .u32 px)), .gen (rdE (some ⟨r', 0, none⟩) r' 0 n' 1 (ivals .u32 px'))]) (fun _ => True) (by kernel_rfl) (fun w hT => append_own (n' := (i + 1)) (z := .int .u32 0) hT (i := 1) (bytes := 4) rfl (by kernel_rfl) (by kernel_rfl) rfl (by decide) (by decide) (Rd.ofCells (vals := ivals .u32 [px.getD i 0]) (hT.ok 0 _ rfl) rfl rfl) (ivals_one .u32 [px.getD i 0]) (by omega) (ivals_append .u32 ((cpL W px W' H' px' a b c d (farI dx) (farI dy)).take i) [px.getD i 0]) rfl) ?_
      rintro ⟨A15, g15, cp15⟩ -
      refine cont_norm [(3, .int .i64 (farI dx)), (4, .int .i64 (farI dy)), (5, .pointer (some ⟨b1, 0, none⟩)), (6, .pointer (some ⟨b2, 0, none⟩)), (7, .pointer (some ⟨b3, 0, none⟩)), (10, .pointer (some ⟨b5, 0, none⟩)), (13, .int .i64 (cntG (cpB W W' H' a b c d (farI dx) (farI dy)) i)), (14, .int .i64 (i : Int)), (53, .agg #[.int .i64 a, .int .i64 b, .int .i64 c, .int .i64 d]), (54, .int .i64 (((i : Int) % W) - (farI dx))), (55, .int .i64 (((i : Int) / W) - (farI dy))), (56, .bool false), (64, .slice A i cp), (70, .slice (some ⟨b14, 0, none⟩) 1 1), (71, .slice A15 (i + 1) cp15)] [.cells b14 [.int .u32 (px.getD i 0)] 28 true, .gen (rowE (A15) g15 (i + 1) cp15 28 1 (ivals .u32 (((cpL W px W' H' px' a b c d (farI dx) (farI dy)).take i) ++ [px.getD i 0])) true), .cells b5 [.int .i64 0, .int .i64 0, .slice none 0 0] 37 true, .cells b3 [.int .i64 a, .int .i64 b, .int .i64 c, .int .i64 d] 32 true, .cells b2 [.int .i64 W', .int .i64 H', .slice (some ⟨r', 0, none⟩) n' cap'] 37 true, .cells b1 [.int .i64 W, .int .i64 H, .slice (some ⟨r, 0, none⟩) n cap] 37 true, .gen (rdE (some ⟨r, 0, none⟩) r 0 n 1 (ivals .u32 px)), .gen (rdE (some ⟨r', 0, none⟩) r' 0 n' 1 (ivals .u32 px'))] (by kernel_rfl) rfl ?_
      refine cont_fact (F := (0 < (i + 1) → (A15 : Option Addr) = some ⟨g15, 0, none⟩) ∧ (((cpL W px W' H' px' a b c d (farI dx) (farI dy)).take i) ++ [px.getD i 0]).length = (i + 1) ∧ (i + 1) ≤ cp15 ∧ cp15 ≤ maxLen) (fun w hT => Row.facts (hT.ok 1 _ rfl)) (fun hr16_ => ?_)
      obtain ⟨hr16_a, hr16_l, hr16_c, hr16_m⟩ := hr16_
      unfold maxLen at hr16_m
      refine bS [0] 9 0 [(3, .int .i64 (farI dx)), (4, .int .i64 (farI dy)), (5, .pointer (some ⟨b1, 0, none⟩)), (6, .pointer (some ⟨b2, 0, none⟩)), (7, .pointer (some ⟨b3, 0, none⟩)), (10, .pointer (some ⟨b5, 0, none⟩)), (12, .slice A15 (i + 1) cp15), (13, .int .i64 (cntG (cpB W W' H' a b c d (farI dx) (farI dy)) i)), (14, .int .i64 (i : Int)), (53, .agg #[.int .i64 a, .int .i64 b, .int .i64 c, .int .i64 d]), (54, .int .i64 (((i : Int) % W) - (farI dx))), (55, .int .i64 (((i : Int) / W) - (farI dy))), (56, .bool false)] ?_
      refine cont_forget 0 rfl ?_
      refine cont_done ?_
      refine blk_normal ?_
      refine then_normal ?_
      refine cont_region 3 rfl ?_
      refine bS [0, 0] 2 1 [(3, .int .i64 (farI dx)), (4, .int .i64 (farI dy)), (5, .pointer (some ⟨b1, 0, none⟩)), (6, .pointer (some ⟨b2, 0, none⟩)), (7, .pointer (some ⟨b3, 0, none⟩)), (10, .pointer (some ⟨b5, 0, none⟩)), (12, .slice A15 (i + 1) cp15), (13, .int .i64 (cntG (cpB W W' H' a b c d (farI dx) (farI dy)) i)), (31, .int .i64 (IntKind.i64.wrap ((i : Int) + 1))), (53, .agg #[.int .i64 a, .int .i64 b, .int .i64 c, .int .i64 d]), (54, .int .i64 (((i : Int) % W) - (farI dx))), (55, .int .i64 (((i : Int) / W) - (farI dy))), (56, .bool false)] ?_
      refine cont_recast 31 (.int .i64 (IntKind.i64.wrap ((i : Int) + 1))) (.int .i64 ((i : Int) + 1)) rfl (wrapI (by omega) (by omega)) ?_
      refine bS [0] 3 0 [(3, .int .i64 (farI dx)), (4, .int .i64 (farI dy)), (5, .pointer (some ⟨b1, 0, none⟩)), (6, .pointer (some ⟨b2, 0, none⟩)), (7, .pointer (some ⟨b3, 0, none⟩)), (10, .pointer (some ⟨b5, 0, none⟩)), (12, .slice A15 (i + 1) cp15), (13, .int .i64 (cntG (cpB W W' H' a b c d (farI dx) (farI dy)) i)), (14, .int .i64 ((i : Int) + 1)), (53, .agg #[.int .i64 a, .int .i64 b, .int .i64 c, .int .i64 d]), (54, .int .i64 (((i : Int) % W) - (farI dx))), (55, .int .i64 (((i : Int) / W) - (farI dy))), (56, .bool false)] ?_
      refine cont_done ?_
      refine then_normal ?_
      refine cont_rowEq (k := .u32) 0 (((cpL W px W' H' px' a b c d (farI dx) (farI dy)).take i) ++ [px.getD i 0]) ((cpL W px W' H' px' a b c d (farI dx) (farI dy)).take (i + 1)) rfl (cpL_no (by omega) hB_) ?_
      refine cont_recast 13 (.int .i64 (cntG (cpB W W' H' a b c d (farI dx) (farI dy)) i)) (.int .i64 (cntG (cpB W W' H' a b c d (farI dx) (farI dy)) (i + 1))) rfl (congrArg (Value.int .i64) (by show _ = cntG _ i + _; rw [hB_]; simp)) ?_
      refine cont_again (i + 1, A15, g15, cp15) (show (i + 1) ≤ n from (by omega)) (show n - (i + 1) < n - i from by omega) (by kernel_rfl) (by kernel_rfl)
    have hB_ : cpB W W' H' a b c d (farI dx) (farI dy) i = false := by unfold cpB; rw [show hasB 0 0 W' H' ((i : Int) % W - farI dx) ((i : Int) / W - farI dy) = false from c9_, Bool.false_and]
    refine bS [0, 0, 0, 0, 0] 7 0 [(3, .int .i64 (farI dx)), (4, .int .i64 (farI dy)), (5, .pointer (some ⟨b1, 0, none⟩)), (6, .pointer (some ⟨b2, 0, none⟩)), (7, .pointer (some ⟨b3, 0, none⟩)), (10, .pointer (some ⟨b5, 0, none⟩)), (12, .slice A i cp), (13, .int .i64 (cntG (cpB W W' H' a b c d (farI dx) (farI dy)) i)), (14, .int .i64 (i : Int)), (17, .int .u32 (atC W' H' px' (((i : Int) % W) - (farI dx)) (((i : Int) / W) - (farI dy)))), (53, undef), (54, undef), (55, undef), (56, undef), (57, .bool false)] ?_
    refine cont_done ?_
    refine then_normal ?_
    refine cont_false rfl ?_
    refine cont_region 9 rfl ?_
    refine bS [0, 0, 4, 0] 4 5 [(3, .int .i64 (farI dx)), (4, .int .i64 (farI dy)), (5, .pointer (some ⟨b1, 0, none⟩)), (6, .pointer (some ⟨b2, 0, none⟩)), (7, .pointer (some ⟨b3, 0, none⟩)), (10, .pointer (some ⟨b5, 0, none⟩)), (13, .int .i64 (cntG (cpB W W' H' a b c d (farI dx) (farI dy)) i)), (14, .int .i64 (i : Int)), (53, undef), (54, undef), (55, undef), (56, undef), (64, .slice A i cp), (66, .slice (some ⟨r, 0, none⟩) n cap), (67, .int .i64 (i : Int))] ?_
    refine pl_step 5 4 rfl rfl ?_
    refine sem_step 68 (Instr.indexAt 35 (.slice (some ⟨r, 0, none⟩) n cap) (.int .i64 (i : Int))) (.pointer (some ⟨r, i, none⟩)) (by kernel_rfl) (fun w hT => run_indexAt (e := 28) (sz := 1) _ (by kernel_rfl) (by kernel_rfl) (by omega) (by omega) (by omega) w) ?_
    refine pl_step 6 3 rfl rfl ?_
    refine sem_step 69 (Instr.loadAt 28 (.pointer (some ⟨r, i, none⟩))) (.int .u32 (px.getD i 0)) (by kernel_rfl) (fun w hT => run_load1 (by kernel_rfl) (Rd.cell0 (hT.ok 5 _ rfl) (i) _ (ivals_get (by omega)))) ?_
    refine batch1 [0] 7 2 (fun b17 => [(3, .int .i64 (farI dx)), (4, .int .i64 (farI dy)), (5, .pointer (some ⟨b1, 0, none⟩)), (6, .pointer (some ⟨b2, 0, none⟩)), (7, .pointer (some ⟨b3, 0, none⟩)), (10, .pointer (some ⟨b5, 0, none⟩)), (13, .int .i64 (cntG (cpB W W' H' a b c d (farI dx) (farI dy)) i)), (14, .int .i64 (i : Int)), (53, undef), (54, undef), (55, undef), (56, undef), (64, .slice A i cp), (70, .slice (some ⟨b17, 0, none⟩) 1 1)]) (fun b17 => [.cells b17 [.int .u32 (px.getD i 0)] 28 true, .gen (rowE (A) g i cp 28 1 (ivals .u32 ((cpL W px W' H' px' a b c d (farI dx) (farI dy)).take i)) true), .cells b5 [.int .i64 0, .int .i64 0, .slice none 0 0] 37 true, .cells b3 [.int .i64 a, .int .i64 b, .int .i64 c, .int .i64 d] 32 true, .cells b2 [.int .i64 W', .int .i64 H', .slice (some ⟨r', 0, none⟩) n' cap'] 37 true, .cells b1 [.int .i64 W, .int .i64 H, .slice (some ⟨r, 0, none⟩) n cap] 37 true, .gen (rdE (some ⟨r, 0, none⟩) r 0 n 1 (ivals .u32 px)), .gen (rdE (some ⟨r', 0, none⟩) r' 0 n' 1 (ivals .u32 px'))]) rfl rfl [3, 4, 5, 6, 7, 10, 13, 14, 53, 54, 55, 56, 64, 70] (fun _ => rfl) (fun b17 => by kernel_rfl) (fun b17 => by kernel_rfl) (fun b17 => ?_)
    refine pl_step 8 1 rfl rfl ?_
    refine sem_stepW (α := Option Addr × Nat × Nat) 71 (Builtin.append_ #[35, 35] 35 #[.slice A i cp, .slice (some ⟨b17, 0, none⟩) 1 1]) (fun x_ => .slice x_.1 (i + 1) x_.2.2) (fun x_ => [.cells b17 [.int .u32 (px.getD i 0)] 28 true, .gen (rowE (x_.1) x_.2.1 (i + 1) x_.2.2 28 1 (ivals .u32 (((cpL W px W' H' px' a b c d (farI dx) (farI dy)).take i) ++ [px.getD i 0])) true), .cells b5 [.int .i64 0, .int .i64 0, .slice none 0 0] 37 true, .cells b3 [.int .i64 a, .int .i64 b, .int .i64 c, .int .i64 d] 32 true, .cells b2 [.int .i64 W', .int .i64 H', .slice (some ⟨r', 0, none⟩) n' cap'] 37 true, .cells b1 [.int .i64 W, .int .i64 H, .slice (some ⟨r, 0, none⟩) n cap] 37 true, .gen (rdE (some ⟨r, 0, none⟩) r 0 n 1 (ivals .u32 px)), .gen (rdE (some ⟨r', 0, none⟩) r' 0 n' 1 (ivals .u32 px'))]) (fun _ => True) (by kernel_rfl) (fun w hT => append_own (n' := (i + 1)) (z := .int .u32 0) hT (i := 1) (bytes := 4) rfl (by kernel_rfl) (by kernel_rfl) rfl (by decide) (by decide) (Rd.ofCells (vals := ivals .u32 [px.getD i 0]) (hT.ok 0 _ rfl) rfl rfl) (ivals_one .u32 [px.getD i 0]) (by omega) (ivals_append .u32 ((cpL W px W' H' px' a b c d (farI dx) (farI dy)).take i) [px.getD i 0]) rfl) ?_
    rintro ⟨A18, g18, cp18⟩ -
    refine cont_norm [(3, .int .i64 (farI dx)), (4, .int .i64 (farI dy)), (5, .pointer (some ⟨b1, 0, none⟩)), (6, .pointer (some ⟨b2, 0, none⟩)), (7, .pointer (some ⟨b3, 0, none⟩)), (10, .pointer (some ⟨b5, 0, none⟩)), (13, .int .i64 (cntG (cpB W W' H' a b c d (farI dx) (farI dy)) i)), (14, .int .i64 (i : Int)), (53, undef), (54, undef), (55, undef), (56, undef), (64, .slice A i cp), (70, .slice (some ⟨b17, 0, none⟩) 1 1), (71, .slice A18 (i + 1) cp18)] [.cells b17 [.int .u32 (px.getD i 0)] 28 true, .gen (rowE (A18) g18 (i + 1) cp18 28 1 (ivals .u32 (((cpL W px W' H' px' a b c d (farI dx) (farI dy)).take i) ++ [px.getD i 0])) true), .cells b5 [.int .i64 0, .int .i64 0, .slice none 0 0] 37 true, .cells b3 [.int .i64 a, .int .i64 b, .int .i64 c, .int .i64 d] 32 true, .cells b2 [.int .i64 W', .int .i64 H', .slice (some ⟨r', 0, none⟩) n' cap'] 37 true, .cells b1 [.int .i64 W, .int .i64 H, .slice (some ⟨r, 0, none⟩) n cap] 37 true, .gen (rdE (some ⟨r, 0, none⟩) r 0 n 1 (ivals .u32 px)), .gen (rdE (some ⟨r', 0, none⟩) r' 0 n' 1 (ivals .u32 px'))] (by kernel_rfl) rfl ?_
    refine cont_fact (F := (0 < (i + 1) → (A18 : Option Addr) = some ⟨g18, 0, none⟩) ∧ (((cpL W px W' H' px' a b c d (farI dx) (farI dy)).take i) ++ [px.getD i 0]).length = (i + 1) ∧ (i + 1) ≤ cp18 ∧ cp18 ≤ maxLen) (fun w hT => Row.facts (hT.ok 1 _ rfl)) (fun hr19_ => ?_)
    obtain ⟨hr19_a, hr19_l, hr19_c, hr19_m⟩ := hr19_
    unfold maxLen at hr19_m
    refine bS [0] 9 0 [(3, .int .i64 (farI dx)), (4, .int .i64 (farI dy)), (5, .pointer (some ⟨b1, 0, none⟩)), (6, .pointer (some ⟨b2, 0, none⟩)), (7, .pointer (some ⟨b3, 0, none⟩)), (10, .pointer (some ⟨b5, 0, none⟩)), (12, .slice A18 (i + 1) cp18), (13, .int .i64 (cntG (cpB W W' H' a b c d (farI dx) (farI dy)) i)), (14, .int .i64 (i : Int)), (53, undef), (54, undef), (55, undef), (56, undef)] ?_
    refine cont_forget 0 rfl ?_
    refine cont_done ?_
    refine blk_normal ?_
    refine then_normal ?_
    refine cont_region 3 rfl ?_
    refine bS [0, 0] 2 1 [(3, .int .i64 (farI dx)), (4, .int .i64 (farI dy)), (5, .pointer (some ⟨b1, 0, none⟩)), (6, .pointer (some ⟨b2, 0, none⟩)), (7, .pointer (some ⟨b3, 0, none⟩)), (10, .pointer (some ⟨b5, 0, none⟩)), (12, .slice A18 (i + 1) cp18), (13, .int .i64 (cntG (cpB W W' H' a b c d (farI dx) (farI dy)) i)), (31, .int .i64 (IntKind.i64.wrap ((i : Int) + 1))), (53, undef), (54, undef), (55, undef), (56, undef)] ?_
    refine cont_recast 31 (.int .i64 (IntKind.i64.wrap ((i : Int) + 1))) (.int .i64 ((i : Int) + 1)) rfl (wrapI (by omega) (by omega)) ?_
    refine bS [0] 3 0 [(3, .int .i64 (farI dx)), (4, .int .i64 (farI dy)), (5, .pointer (some ⟨b1, 0, none⟩)), (6, .pointer (some ⟨b2, 0, none⟩)), (7, .pointer (some ⟨b3, 0, none⟩)), (10, .pointer (some ⟨b5, 0, none⟩)), (12, .slice A18 (i + 1) cp18), (13, .int .i64 (cntG (cpB W W' H' a b c d (farI dx) (farI dy)) i)), (14, .int .i64 ((i : Int) + 1)), (53, undef), (54, undef), (55, undef), (56, undef)] ?_
    refine cont_done ?_
    refine then_normal ?_
    refine cont_rowEq (k := .u32) 0 (((cpL W px W' H' px' a b c d (farI dx) (farI dy)).take i) ++ [px.getD i 0]) ((cpL W px W' H' px' a b c d (farI dx) (farI dy)).take (i + 1)) rfl (cpL_no (by omega) hB_) ?_
    refine cont_recast 13 (.int .i64 (cntG (cpB W W' H' a b c d (farI dx) (farI dy)) i)) (.int .i64 (cntG (cpB W W' H' a b c d (farI dx) (farI dy)) (i + 1))) rfl (congrArg (Value.int .i64) (by show _ = cntG _ i + _; rw [hB_]; simp)) ?_
    refine cont_again (i + 1, A18, g18, cp18) (show (i + 1) ≤ n from (by omega)) (show n - (i + 1) < n - i from by omega) (by kernel_rfl) (by kernel_rfl)
  replace c8_ := of_decide_eq_false c8_
  refine cont_false rfl ?_
  refine cont_exit ?_
  refine then_exit ?_
  refine then_exit ?_
  refine blk_exit ?_
  refine then_normal ?_
  refine cont_seq ?_
  refine cont_region 3 rfl ?_
  refine batch0 [0, 0, 4] 3 0 [(5, .pointer (some ⟨b1, 0, none⟩)), (10, .pointer (some ⟨b5, 0, none⟩)), (13, .int .i64 (cntG (cpB W W' H' a b c d (farI dx) (farI dy)) i))] [.gen (rowE (A) g i cp 28 1 (ivals .u32 ((cpL W px W' H' px' a b c d (farI dx) (farI dy)).take i)) true), .cells b5 [.int .i64 0, .int .i64 0, .slice none 0 0] 37 true, .cells b3 [.int .i64 a, .int .i64 b, .int .i64 c, .int .i64 d] 32 true, .cells b2 [.int .i64 W', .int .i64 H', .slice (some ⟨r', 0, none⟩) n' cap'] 37 true, .cells b1 [.int .i64 W, .int .i64 H, .slice A i cp] 37 true, .gen (rdE (some ⟨r, 0, none⟩) r 0 n 1 (ivals .u32 px)), .gen (rdE (some ⟨r', 0, none⟩) r' 0 n' 1 (ivals .u32 px'))] rfl rfl (by kernel_rfl) (by kernel_rfl) ?_
  refine cont_forget 2 rfl ?_
  refine cont_forget 2 rfl ?_
  refine cont_done ?_
  refine then_normal ?_
  refine cont_seq ?_
  refine cont_region 4 rfl ?_
  refine batch0 [2, 0, 1, 0] 4 0 [(10, .pointer (some ⟨b5, 0, none⟩)), (11, .int .i64 (cntG (cpB W W' H' a b c d (farI dx) (farI dy)) i))] [.gen (rowE (A) g i cp 28 1 (ivals .u32 ((cpL W px W' H' px' a b c d (farI dx) (farI dy)).take i)) true), .cells b5 [.int .i64 W, .int .i64 H, .slice A i cp] 37 true, .cells b1 [.int .i64 W, .int .i64 H, .slice A i cp] 37 true, .gen (rdE (some ⟨r, 0, none⟩) r 0 n 1 (ivals .u32 px)), .gen (rdE (some ⟨r', 0, none⟩) r' 0 n' 1 (ivals .u32 px'))] rfl rfl (by kernel_rfl) (by kernel_rfl) ?_
  refine cont_forget 2 rfl ?_
  refine cont_done ?_
  refine then_normal ?_
  refine cont_ret ?_
  refine ret_two (.inl rfl) rfl 1 0 (.agg #[.int .i64 W, .int .i64 H, .slice A i cp]) (.int .i64 (cntG (cpB W W' H' a b c d (farI dx) (farI dy)) i)) (by kernel_rfl) (by kernel_rfl) (by kernel_rfl) (by kernel_rfl) (fun w hT => ?_)
  replace hT := hT.erase 3 (fun e h hw => by cases h; first | rfl | cases hw)
  replace hT := hT.erase 2 (fun e h hw => by cases h; first | rfl | cases hw)
  replace hT := hT.erase 1 (fun e h hw => by cases h; first | rfl | cases hw)
  rw [cpL_full (by omega)] at hT
  have hin : i = n := by omega
  subst hin
  have hA := (Row.facts (hT.ok 0 _ rfl)).1 (by omega)
  subst hA
  exact ⟨_, _, rfl, hT⟩

theorem imgCopyS (m : Nat) (W H : Int) (r n cap : Nat) (px : List Int) (a b c d dx dy : Int) (w : World) (hT0 : Tab w w [.ro m [.int .i64 W, .int .i64 H, .slice (some ⟨r, 0, none⟩) n cap] 84, .gen (rowE (some ⟨r, 0, none⟩) r n cap 28 1 (ivals .u32 px) false)]) (hok : ImgOk W H n px) (hcap : n ≤ cap) :
    Calls Try.prog 25 #[.pointer (some ⟨m, 0, none⟩), .pointer (some ⟨m, 0, none⟩), .agg #[.int .i64 a, .int .i64 b, .int .i64 c, .int .i64 d], .int .i64 dx, .int .i64 dy] w fun e w' => e = .returned (.int .i64 (areaI (copyR a b c d W H (farI dx) (farI dy) W H).x0 (copyR a b c d W H (farI dx) (farI dy) W H).y0 (copyR a b c d W H (farI dx) (farI dy) W H).x1 (copyR a b c d W H (farI dx) (farI dy) W H).y1)) ∧ Tab w w' [.ro m [.int .i64 W, .int .i64 H, .slice (some ⟨r, 0, none⟩) n cap] 84, .gen (rowE (some ⟨r, 0, none⟩) r n cap 28 1 (ivals .u32 (copyP W px W px (copyR a b c d W H (farI dx) (farI dy) W H).x0 (copyR a b c d W H (farI dx) (farI dy) W H).y0 (copyR a b c d W H (farI dx) (farI dy) W H).x1 (copyR a b c d W H (farI dx) (farI dy) W H).y1 (farI dx) (farI dy))) false)] := by
 have hw1 := hok.w1
 have hw2 := hok.w2
 have hh1 := hok.h1
 have hh2 := hok.h2
 have hnum := hok.num
 have hlen := hok.len
 have hle := hok.le
 have hfx := farI_range dx
 have hfy := farI_range dy
 refine enter 77 [(0, .pointer (pB m)), (1, .pointer (pB m)), (2, .agg #[iq a, iq b, iq c, iq d]), (3, iq dx), (4, iq dy)] [.ro m [iq W, iq H, .slice (pB r) n cap] 84, .gen (rowE (pB r) r n cap 28 1 (ivals .u32 px) false)] Try.func25 rfl Try.ntmps25 rfl (by kernel_rfl) hT0 ?_
 refine cont_seq ?_
 refine cont_region 2 rfl ?_
 refine batch1 [0, 0] 2 0 (fun b1 => [(0, .pointer (pB m)), (1, .pointer (pB m)), (3, iq dx), (4, iq dy), (7, .pointer (pB b1))]) (fun b1 => [.cells b1 [iq a, iq b, iq c, iq d] 32 true, .ro m [iq W, iq H, .slice (pB r) n cap] 84, .gen (rowE (pB r) r n cap 28 1 (ivals .u32 px) false)]) rfl rfl [0, 1, 3, 4, 7] (fun _ => rfl) (fun b1 => by kernel_rfl) (fun b1 => by kernel_rfl) (fun b1 => ?_)
 refine cont_done ?_
 refine then_normal ?_
 refine cont_seq ?_
 refine cont_region 1 rfl ?_
 refine bS [0] 1 0 [(0, .pointer (pB m)), (1, .pointer (pB m)), (3, iq dx), (4, iq dy), (7, .pointer (pB b1)), (11, .func (.func 51) #[] #[])] ?_
 refine cont_done ?_
 refine then_normal ?_
 refine cont_seq ?_
 refine cont_region 8 rfl ?_
 refine bS [0, 0] 2 6 [(0, .pointer (pB m)), (1, .pointer (pB m)), (4, iq dy), (7, .pointer (pB b1)), (11, .func (.func 51) #[] #[]), (15, .func (.func 51) #[] #[]), (16, iq dx)] ?_
 refine pl_step 3 5 rfl rfl ?_
 refine call_pure (d := 17) (iq (farI dx)) (by kernel_rfl) (fun w hT => imgFar dx w) ?_
 refine bS [0, 0] 5 3 [(0, .pointer (pB m)), (1, .pointer (pB m)), (7, .pointer (pB b1)), (17, iq (farI dx)), (18, .func (.func 51) #[] #[]), (19, iq dy)] ?_
 refine pl_step 6 2 rfl rfl ?_
 refine call_pure (d := 20) (iq (farI dy)) (by kernel_rfl) (fun w hT => imgFar dy w) ?_
 refine bS [0, 0] 8 0 [(0, .pointer (pB m)), (1, .pointer (pB m)), (3, iq (farI dx)), (4, iq (farI dy)), (7, .pointer (pB b1))] ?_
 refine cont_done ?_
 refine then_normal ?_
 refine cont_seq ?_
 refine drawn_enter 19 [] rfl (by kernel_rfl) ?_
 refine takes 0 [] [(0, 0), (2, 0), (4, 0), (8, 0), (10, 0), (14, 0), (1, 0)] 12 [1, 14, 10, 8, 4, 2, 0] [(0, .pointer (pB m)), (1, .pointer (pB m)), (3, iq (farI dx)), (4, iq (farI dy)), (7, .pointer (pB b1)), (22, iq (IntKind.i64.wrap (0 - (farI dx)))), (23, iq (farI dy)), (25, .pointer (pB m)), (29, iq (farI dx)), (31, .pointer (pB m)), (35, iq (farI dy))] (by kernel_rfl) (pok_then pok_body) (by kernel_rfl) rfl rfl (by kernel_rfl) (by kernel_rfl) ?_
 refine cont_recast 22 (iq (IntKind.i64.wrap (0 - (farI dx)))) (iq (0 - (farI dx))) rfl (wrapI (by omega) (by omega)) ?_
 refine takes 0 [] [(3, 0)] 11 [3, 1, 14, 10, 8, 4, 2, 0] [(0, .pointer (pB m)), (1, .pointer (pB m)), (3, iq (farI dx)), (4, iq (farI dy)), (7, .pointer (pB b1)), (22, iq (0 - (farI dx))), (24, iq (IntKind.i64.wrap (0 - (farI dy)))), (25, .pointer (pB m)), (29, iq (farI dx)), (31, .pointer (pB m)), (35, iq (farI dy))] (by kernel_rfl) (pok_then pok_body) (by kernel_rfl) rfl rfl (by kernel_rfl) (by kernel_rfl) ?_
 refine cont_recast 24 (iq (IntKind.i64.wrap (0 - (farI dy)))) (iq (0 - (farI dy))) rfl (wrapI (by omega) (by omega)) ?_
 refine takes 0 [] [(5, 0), (11, 0), (6, 0), (12, 0), (7, 1), (13, 1), (9, 0)] 4 [9, 13, 7, 12, 6, 11, 5, 3, 1, 14, 10, 8, 4, 2, 0] [(0, .pointer (pB m)), (1, .pointer (pB m)), (3, iq (farI dx)), (4, iq (farI dy)), (7, .pointer (pB b1)), (22, iq (0 - (farI dx))), (24, iq (0 - (farI dy))), (30, iq (IntKind.i64.wrap (W - (farI dx)))), (34, iq H), (35, iq (farI dy))] (by kernel_rfl) (pok_then pok_body) (by kernel_rfl) rfl rfl (by kernel_rfl) (by kernel_rfl) ?_
 refine cont_recast 30 (iq (IntKind.i64.wrap (W - (farI dx)))) (iq (W - (farI dx))) rfl (wrapI (by omega) (by omega)) ?_
 refine takes 0 [] [(15, 0)] 3 [15, 9, 13, 7, 12, 6, 11, 5, 3, 1, 14, 10, 8, 4, 2, 0] [(0, .pointer (pB m)), (1, .pointer (pB m)), (3, iq (farI dx)), (4, iq (farI dy)), (7, .pointer (pB b1)), (22, iq (0 - (farI dx))), (24, iq (0 - (farI dy))), (30, iq (W - (farI dx))), (36, iq (IntKind.i64.wrap (H - (farI dy))))] (by kernel_rfl) (pok_then pok_body) (by kernel_rfl) rfl rfl (by kernel_rfl) (by kernel_rfl) ?_
 refine cont_recast 36 (iq (IntKind.i64.wrap (H - (farI dy)))) (iq (H - (farI dy))) rfl (wrapI (by omega) (by omega)) ?_
 refine takes 0 [] [(16, 0)] 2 [16, 15, 9, 13, 7, 12, 6, 11, 5, 3, 1, 14, 10, 8, 4, 2, 0] [(0, .pointer (pB m)), (1, .pointer (pB m)), (3, iq (farI dx)), (4, iq (farI dy)), (7, .pointer (pB b1)), (37, .agg #[iq (0 - (farI dx)), iq (0 - (farI dy)), iq (W - (farI dx)), iq (H - (farI dy))])] (by kernel_rfl) (pok_then pok_body) (by kernel_rfl) rfl rfl (by kernel_rfl) (by kernel_rfl) ?_
 refine drawn_one 17 1 rfl (by kernel_rfl) ?_
 refine one_step1 0 (fun b2 => [(0, .pointer (pB m)), (1, .pointer (pB m)), (3, iq (farI dx)), (4, iq (farI dy)), (7, .pointer (pB b1)), (12, .pointer (pB b2)), (37, .agg #[iq (0 - (farI dx)), iq (0 - (farI dy)), iq (W - (farI dx)), iq (H - (farI dy))])]) (fun b2 => [.cells b2 [iq 0, iq 0, iq 0, iq 0] 32 true, .cells b1 [iq a, iq b, iq c, iq d] 32 true, .ro m [iq W, iq H, .slice (pB r) n cap] 84, .gen (rowE (pB r) r n cap 28 1 (ivals .u32 px) false)]) (fun b2 => by kernel_rfl) (fun b2 => by kernel_rfl) (fun b2 => ?_)
 refine drawn_next 1 [] (by kernel_rfl) ?_
 refine drawn_one 18 0 rfl (by kernel_rfl) ?_
 refine one_step 0 [(0, .pointer (pB m)), (1, .pointer (pB m)), (3, iq (farI dx)), (4, iq (farI dy)), (7, .pointer (pB b1)), (12, .pointer (pB b2))] [.cells b2 [iq (0 - (farI dx)), iq (0 - (farI dy)), iq (W - (farI dx)), iq (H - (farI dy))] 32 true, .cells b1 [iq a, iq b, iq c, iq d] 32 true, .ro m [iq W, iq H, .slice (pB r) n cap] 84, .gen (rowE (pB r) r n cap 28 1 (ivals .u32 px) false)] (by kernel_rfl) (by kernel_rfl) ?_
 refine drawn_next 1 [] (by kernel_rfl) ?_
 refine drawn_done (by kernel_rfl) ?_
 refine then_normal ?_
 refine cont_seq ?_
 refine drawn_enter 7 [1] rfl (by kernel_rfl) ?_
 refine takes 0 [1] [(1, 0), (4, 0)] 5 [4, 1] [(0, .pointer (pB m)), (1, .pointer (pB m)), (3, iq (farI dx)), (4, iq (farI dy)), (7, .pointer (pB b1)), (39, .pointer (pB m)), (42, .agg #[iq (0 - (farI dx)), iq (0 - (farI dy)), iq (W - (farI dx)), iq (H - (farI dy))])] (by kernel_rfl) (pok_then pok_body) (by kernel_rfl) rfl rfl (by kernel_rfl) (by kernel_rfl) ?_
 refine drawn_two 0 2 4 rfl (by kernel_rfl) ?_ ?_
 ·
  refine one_step 1 [(0, .pointer (pB m)), (1, .pointer (pB m)), (3, iq (farI dx)), (4, iq (farI dy)), (7, .pointer (pB b1)), (38, .agg #[iq a, iq b, iq c, iq d]), (39, .pointer (pB m)), (42, .agg #[iq (0 - (farI dx)), iq (0 - (farI dy)), iq (W - (farI dx)), iq (H - (farI dy))])] [.cells b2 [iq (0 - (farI dx)), iq (0 - (farI dy)), iq (W - (farI dx)), iq (H - (farI dy))] 32 true, .cells b1 [iq a, iq b, iq c, iq d] 32 true, .ro m [iq W, iq H, .slice (pB r) n cap] 84, .gen (rowE (pB r) r n cap 28 1 (ivals .u32 px) false)] (by kernel_rfl) (by kernel_rfl) ?_
  refine drawn_next 0 [1] (by kernel_rfl) ?_
  refine drawn_one 2 3 rfl (by kernel_rfl) ?_
  refine call_pure (d := 40) (.agg #[iq 0, iq 0, iq W, iq H]) (by kernel_rfl) (fun w hT => imgBox m W H r n cap px  w ⟨hT.ok 2 _ rfl, Row.rd (hT.ok 3 _ rfl), Row.capLe (hT.ok 3 _ rfl)⟩ hok) ?_
  refine drawn_next 0 [1] (by kernel_rfl) ?_
  refine drawn_one 3 2 rfl (by kernel_rfl) ?_
  refine call_pure (d := 41) (.agg #[iq ((cutR a b c d 0 0 W H).x0), iq ((cutR a b c d 0 0 W H).y0), iq ((cutR a b c d 0 0 W H).x1), iq ((cutR a b c d 0 0 W H).y1)]) (by kernel_rfl) (fun w hT => rectCut a b c d 0 0 W H w) ?_
  refine drawn_next 0 [1] (by kernel_rfl) ?_
  refine drawn_one 5 1 rfl (by kernel_rfl) ?_
  refine call_pure (d := 43) (.agg #[iq ((cutR ((cutR a b c d 0 0 W H).x0) ((cutR a b c d 0 0 W H).y0) ((cutR a b c d 0 0 W H).x1) ((cutR a b c d 0 0 W H).y1) (0 - (farI dx)) (0 - (farI dy)) (W - (farI dx)) (H - (farI dy))).x0), iq ((cutR ((cutR a b c d 0 0 W H).x0) ((cutR a b c d 0 0 W H).y0) ((cutR a b c d 0 0 W H).x1) ((cutR a b c d 0 0 W H).y1) (0 - (farI dx)) (0 - (farI dy)) (W - (farI dx)) (H - (farI dy))).y0), iq ((cutR ((cutR a b c d 0 0 W H).x0) ((cutR a b c d 0 0 W H).y0) ((cutR a b c d 0 0 W H).x1) ((cutR a b c d 0 0 W H).y1) (0 - (farI dx)) (0 - (farI dy)) (W - (farI dx)) (H - (farI dy))).x1), iq ((cutR ((cutR a b c d 0 0 W H).x0) ((cutR a b c d 0 0 W H).y0) ((cutR a b c d 0 0 W H).x1) ((cutR a b c d 0 0 W H).y1) (0 - (farI dx)) (0 - (farI dy)) (W - (farI dx)) (H - (farI dy))).y1)]) (by kernel_rfl) (fun w hT => rectCut ((cutR a b c d 0 0 W H).x0) ((cutR a b c d 0 0 W H).y0) ((cutR a b c d 0 0 W H).x1) ((cutR a b c d 0 0 W H).y1) (0 - (farI dx)) (0 - (farI dy)) (W - (farI dx)) (H - (farI dy)) w) ?_
  obtain ⟨R, hR⟩ : ∃ R : Rect, R = copyR a b c d W H (farI dx) (farI dy) W H := ⟨_, rfl⟩
  have hcs := copyR_in a b c d W H (farI dx) (farI dy) W H hR hw1 hh1 ⟨hok.w1, hok.w2⟩ ⟨hok.h1, hok.h2⟩
  refine cont_recast 43 (.agg #[iq ((cutR ((cutR a b c d 0 0 W H).x0) ((cutR a b c d 0 0 W H).y0) ((cutR a b c d 0 0 W H).x1) ((cutR a b c d 0 0 W H).y1) (0 - (farI dx)) (0 - (farI dy)) (W - (farI dx)) (H - (farI dy))).x0), iq ((cutR ((cutR a b c d 0 0 W H).x0) ((cutR a b c d 0 0 W H).y0) ((cutR a b c d 0 0 W H).x1) ((cutR a b c d 0 0 W H).y1) (0 - (farI dx)) (0 - (farI dy)) (W - (farI dx)) (H - (farI dy))).y0), iq ((cutR ((cutR a b c d 0 0 W H).x0) ((cutR a b c d 0 0 W H).y0) ((cutR a b c d 0 0 W H).x1) ((cutR a b c d 0 0 W H).y1) (0 - (farI dx)) (0 - (farI dy)) (W - (farI dx)) (H - (farI dy))).x1), iq ((cutR ((cutR a b c d 0 0 W H).x0) ((cutR a b c d 0 0 W H).y0) ((cutR a b c d 0 0 W H).x1) ((cutR a b c d 0 0 W H).y1) (0 - (farI dx)) (0 - (farI dy)) (W - (farI dx)) (H - (farI dy))).y1)]) (.agg #[iq R.x0, iq R.y0, iq R.x1, iq R.y1]) rfl (by rw [hR]; rfl) ?_
  refine drawn_next 0 [1] (by kernel_rfl) ?_
  refine drawn_one 6 0 rfl (by kernel_rfl) ?_
  refine one_step 1 [(0, .pointer (pB m)), (1, .pointer (pB m)), (3, iq (farI dx)), (4, iq (farI dy)), (7, .pointer (pB b1))] [.cells b2 [iq (0 - (farI dx)), iq (0 - (farI dy)), iq (W - (farI dx)), iq (H - (farI dy))] 32 true, .cells b1 [iq R.x0, iq R.y0, iq R.x1, iq R.y1] 32 true, .ro m [iq W, iq H, .slice (pB r) n cap] 84, .gen (rowE (pB r) r n cap 28 1 (ivals .u32 px) false)] (by kernel_rfl) (by kernel_rfl) ?_
  refine drawn_next 0 [1] (by kernel_rfl) ?_
  refine drawn_done (by kernel_rfl) ?_
  refine then_normal ?_
  refine cont_seq ?_
  refine cont_region 3 rfl ?_
  refine bS [0] 1 2 [(0, .pointer (pB m)), (3, iq (farI dx)), (4, iq (farI dy)), (7, .pointer (pB b1)), (44, .pointer (pB m))] ?_
  refine cont_forget 0 rfl ?_
  refine pl_step 2 1 rfl rfl ?_
  refine call_gen (d := 45) (α := Nat × Nat × Nat) (fun x_ => .pointer (pB x_.1)) (fun x_ => [.cells x_.1 [iq W, iq H, .slice (pB x_.2.1) n x_.2.2] 84 true, .gen (rowE (pB x_.2.1) x_.2.1 n x_.2.2 28 1 (ivals .u32 px) true), .cells b1 [iq R.x0, iq R.y0, iq R.x1, iq R.y1] 32 true, .ro m [iq W, iq H, .slice (pB r) n cap] 84, .gen (rowE (pB r) r n cap 28 1 (ivals .u32 px) false)]) (fun _ => True) (by kernel_rfl) (fun w hT => (imgClone m W H r n cap px w ⟨hT.ok 1 _ rfl, Row.rd (hT.ok 2 _ rfl), Row.capLe (hT.ok 2 _ rfl)⟩ hok).mono fun e w' ⟨b_, g_, c_, he_, hi_⟩ => ⟨(b_, g_, c_), he_, trivial, hT.addImg hi_⟩) ?_
  rintro ⟨cb3, cg3, cc3⟩ -
  refine cont_norm [(0, .pointer (pB m)), (3, iq (farI dx)), (4, iq (farI dy)), (7, .pointer (pB b1)), (44, .pointer (pB m)), (45, .pointer (pB cb3))] _ (by kernel_rfl) rfl ?_
  refine bS [0] 3 0 [(0, .pointer (pB m)), (3, iq (farI dx)), (4, iq (farI dy)), (7, .pointer (pB b1)), (13, .pointer (pB cb3))] ?_
  refine cont_done ?_
  refine then_normal ?_
  refine cont_seq ?_
  refine cont_seq ?_
  refine cont_region 3 rfl ?_
  refine bS [0, 2, 0] 3 0 [(0, .pointer (pB m)), (3, iq (farI dx)), (4, iq (farI dy)), (7, .pointer (pB b1)), (13, .pointer (pB cb3)), (14, iq R.y0)] ?_
  refine cont_done ?_
  refine then_normal ?_
  refine cont_block ?_
  refine cont_rowEq (k := .u32) 4 (px) (copyP W px W px R.x0 R.y0 R.x1 R.y0 (farI dx) (farI dy)) rfl ((copyP_none _ _ _ _ _ _ _ _ _ _ (by omega)).symm) ?_
  refine cont_loop (α := Int) (fun x_ : Int => R.y0 ≤ x_ ∧ x_ ≤ R.y1) (fun x_ : Int => [(0, .pointer (pB m)), (3, iq (farI dx)), (4, iq (farI dy)), (7, .pointer (pB b1)), (13, .pointer (pB cb3)), (14, iq x_)]) (fun x_ : Int => [.cells cb3 [iq W, iq H, .slice (pB cg3) n cc3] 84 true, .gen (rowE (pB cg3) cg3 n cc3 28 1 (ivals .u32 px) true), .cells b1 [iq R.x0, iq R.y0, iq R.x1, iq R.y1] 32 true, .ro m [iq W, iq H, .slice (pB r) n cap] 84, .gen (rowE (pB r) r n cap 28 1 (ivals .u32 (copyP W px W px R.x0 R.y0 R.x1 x_ (farI dx) (farI dy))) false)]) (fun x_ : Int => (R.y1 - x_).toNat) R.y0 (⟨by omega, by omega⟩) (by kernel_rfl) (by kernel_rfl) ?_
  rintro y hinv4_
  replace hinv4_ : R.y0 ≤ y ∧ y ≤ R.y1 := hinv4_
  refine cont_norm [(0, .pointer (pB m)), (3, iq (farI dx)), (4, iq (farI dy)), (7, .pointer (pB b1)), (13, .pointer (pB cb3)), (14, iq y)] _ (by kernel_rfl) rfl ?_
  obtain ⟨hy0, hy1⟩ := hinv4_
  have hpa : y < R.y1 → 0 ≤ (y + farI dy) * W ∧ (y + farI dy) * W ≤ 65536 ∧ (y + farI dy) * W + (W - 1) < n := fun h => hok.place (x := W - 1) (y := y + farI dy) (by omega) (by omega) (by omega) (by omega)
  have hpb : y < R.y1 → 0 ≤ y * W ∧ y * W ≤ 65536 ∧ y * W + (W - 1) < n := fun h => hok.place (x := W - 1) (y := y) (by omega) (by omega) (by omega) (by omega)
  refine cont_seq ?_
  refine cont_seq ?_
  refine cont_region 4 rfl ?_
  refine bS [0, 0, 2, 0] 4 0 [(0, .pointer (pB m)), (3, iq (farI dx)), (4, iq (farI dy)), (7, .pointer (pB b1)), (13, .pointer (pB cb3)), (14, iq y), (51, .bool (decide (y < R.y1)))] ?_
  refine cont_done ?_
  refine then_normal ?_
  refine cont_split 51 (decide (y < R.y1)) rfl (fun c5_ => ?_) (fun c5_ => ?_)
  ·
   replace c5_ := of_decide_eq_true c5_
   refine cont_true rfl ?_
   refine cont_skip ?_
   refine then_normal ?_
   refine cont_seq ?_
   refine cont_block ?_
   refine drawn_enter 21 [4] rfl (by kernel_rfl) ?_
   refine takes 0 [4] [(0, 0), (1, 0), (2, 0), (4, 0), (6, 0), (8, 0), (10, 0), (13, 0), (14, 0), (15, 0), (17, 0), (3, 0)] 9 [3, 17, 15, 14, 13, 10, 8, 6, 4, 2, 1, 0] [(0, .pointer (pB m)), (3, iq (farI dx)), (4, iq (farI dy)), (7, .pointer (pB b1)), (13, .pointer (pB cb3)), (14, iq y), (54, .pointer (pB m)), (57, iq (IntKind.i64.wrap (y + (farI dy)))), (58, .pointer (pB b1)), (60, iq (farI dx)), (62, .pointer (some ⟨b1, 2, none⟩)), (64, iq (farI dx)), (67, .pointer (pB cb3)), (68, iq y), (69, .pointer (pB b1)), (71, .pointer (some ⟨b1, 2, none⟩))] (by kernel_rfl) (pok_blk (pok_then (pok_then (pok_blk (pok_then pok_body))))) (by kernel_rfl) rfl rfl (by kernel_rfl) (by kernel_rfl) ?_
   refine cont_recast 57 (iq (IntKind.i64.wrap (y + (farI dy)))) (iq (y + (farI dy))) rfl (wrapI (by omega) (by omega)) ?_
   refine takes 0 [4] [(5, 2), (9, 2), (16, 2), (18, 2), (7, 0)] 4 [7, 18, 16, 9, 5, 3, 17, 15, 14, 13, 10, 8, 6, 4, 2, 1, 0] [(0, .pointer (pB m)), (3, iq (farI dx)), (4, iq (farI dy)), (7, .pointer (pB b1)), (13, .pointer (pB cb3)), (14, iq y), (54, .pointer (pB m)), (57, iq (y + (farI dy))), (61, iq (IntKind.i64.wrap (R.x0 + (farI dx)))), (63, iq R.x1), (64, iq (farI dx)), (67, .pointer (pB cb3)), (68, iq y), (70, iq R.x0), (72, iq R.x1)] (by kernel_rfl) (pok_blk (pok_then (pok_then (pok_blk (pok_then pok_body))))) (by kernel_rfl) rfl rfl (by kernel_rfl) (by kernel_rfl) ?_
   refine cont_recast 61 (iq (IntKind.i64.wrap (R.x0 + (farI dx)))) (iq (R.x0 + (farI dx))) rfl (wrapI (by omega) (by omega)) ?_
   refine takes 0 [4] [(11, 0)] 3 [11, 7, 18, 16, 9, 5, 3, 17, 15, 14, 13, 10, 8, 6, 4, 2, 1, 0] [(0, .pointer (pB m)), (3, iq (farI dx)), (4, iq (farI dy)), (7, .pointer (pB b1)), (13, .pointer (pB cb3)), (14, iq y), (54, .pointer (pB m)), (57, iq (y + (farI dy))), (61, iq (R.x0 + (farI dx))), (65, iq (IntKind.i64.wrap (R.x1 + (farI dx)))), (67, .pointer (pB cb3)), (68, iq y), (70, iq R.x0), (72, iq R.x1)] (by kernel_rfl) (pok_blk (pok_then (pok_then (pok_blk (pok_then pok_body))))) (by kernel_rfl) rfl rfl (by kernel_rfl) (by kernel_rfl) ?_
   refine cont_recast 65 (iq (IntKind.i64.wrap (R.x1 + (farI dx)))) (iq (R.x1 + (farI dx))) rfl (wrapI (by omega) (by omega)) ?_
   refine drawn_one 12 2 rfl (by kernel_rfl) ?_
   refine call_pure (d := 66) (.slice (sliceA r 0 (Int.toNat ((y + (farI dy)) * W + (R.x0 + (farI dx)))) cap 1) (Int.toNat ((y + (farI dy)) * W + (R.x1 + (farI dx))) - Int.toNat ((y + (farI dy)) * W + (R.x0 + (farI dx)))) (cap - Int.toNat ((y + (farI dy)) * W + (R.x0 + (farI dx))))) (by kernel_rfl) (fun w hT => imgRow m W H r n cap (copyP W px W px R.x0 R.y0 R.x1 y (farI dx) (farI dy)) (y + (farI dy)) (R.x0 + (farI dx)) (R.x1 + (farI dx)) w ⟨hT.ok 3 _ rfl, Row.rd (hT.ok 4 _ rfl), Row.capLe (hT.ok 4 _ rfl)⟩ (hok.copyP hok _ _ _ _ _ _) (by omega)) ?_
   refine drawn_next 0 [4] (by kernel_rfl) ?_
   refine drawn_one 19 1 rfl (by kernel_rfl) ?_
   refine call_pure (d := 73) (.slice (sliceA cg3 0 (Int.toNat (y * W + R.x0)) cc3 1) (Int.toNat (y * W + R.x1) - Int.toNat (y * W + R.x0)) (cc3 - Int.toNat (y * W + R.x0))) (by kernel_rfl) (fun w hT => imgRow cb3 W H cg3 n cc3 px y R.x0 R.x1 w ⟨hT.ok 0 _ rfl, Row.rd (hT.ok 1 _ rfl), Row.capLe (hT.ok 1 _ rfl)⟩ hok (by omega)) ?_
   refine drawn_next 0 [4] (by kernel_rfl) ?_
   refine drawn_one 20 0 rfl (by kernel_rfl) ?_
   refine sem_stepW 74 (Builtin.copy_ #[35, 35] 3 #[.slice (sliceA r 0 (Int.toNat ((y + (farI dy)) * W + (R.x0 + (farI dx)))) cap 1) (Int.toNat ((y + (farI dy)) * W + (R.x1 + (farI dx))) - Int.toNat ((y + (farI dy)) * W + (R.x0 + (farI dx)))) (cap - Int.toNat ((y + (farI dy)) * W + (R.x0 + (farI dx)))), .slice (sliceA cg3 0 (Int.toNat (y * W + R.x0)) cc3 1) (Int.toNat (y * W + R.x1) - Int.toNat (y * W + R.x0)) (cc3 - Int.toNat (y * W + R.x0))]) (fun _ => iq ((min (Int.toNat (y * W + R.x1) - Int.toNat (y * W + R.x0)) (Int.toNat ((y + (farI dy)) * W + (R.x1 + (farI dx))) - Int.toNat ((y + (farI dy)) * W + (R.x0 + (farI dx)))) : Nat) : Int)) (fun _ => [.cells cb3 [iq W, iq H, .slice (pB cg3) n cc3] 84 true, .gen (rowE (pB cg3) cg3 n cc3 28 1 (ivals .u32 px) true), .cells b1 [iq R.x0, iq R.y0, iq R.x1, iq R.y1] 32 true, .ro m [iq W, iq H, .slice (pB r) n cap] 84, .gen (rowE (pB r) r n cap 28 1 (ivals .u32 (copyP W px W px R.x0 R.y0 R.x1 (y + 1) (farI dx) (farI dy))) false)]) (fun _ => True) (by kernel_rfl) (fun w hT => copy_row (o := 0 + (Int.toNat ((y + (farI dy)) * W + (R.x0 + (farI dx)))) * 1) hT (i := 4) rfl (by kernel_rfl) (by kernel_rfl) (fun h_ => sliceA_pos (by omega)) (by omega) (Row.sub (hT.ok 1 _ rfl) (by omega)) (copyP_row hok hok (by omega) (by omega) (by omega) (by omega) (by omega) (by omega) (by omega) (by omega) (by omega) (by omega) (by omega) rfl (by omega) (by omega))) (fun _ _ => ?_)
   refine drawn_next 0 [4] (by kernel_rfl) ?_
   refine drawn_done (by kernel_rfl) ?_
   refine blk_normal ?_
   refine then_normal ?_
   refine cont_region 3 rfl ?_
   refine bS [0, 0] 2 1 [(0, .pointer (pB m)), (3, iq (farI dx)), (4, iq (farI dy)), (7, .pointer (pB b1)), (13, .pointer (pB cb3)), (53, iq (IntKind.i64.wrap (y + 1)))] ?_
   refine cont_recast 53 (iq (IntKind.i64.wrap (y + 1))) (iq (y + 1)) rfl (wrapI (by omega) (by omega)) ?_
   refine bS [0] 3 0 [(0, .pointer (pB m)), (3, iq (farI dx)), (4, iq (farI dy)), (7, .pointer (pB b1)), (13, .pointer (pB cb3)), (14, iq (y + 1))] ?_
   refine cont_done ?_
   refine then_normal ?_
   refine cont_again (y + 1) (show R.y0 ≤ (y + 1) ∧ (y + 1) ≤ R.y1 from ⟨by omega, by omega⟩) (show (R.y1 - (y + 1)).toNat < (R.y1 - y).toNat from by omega) (by kernel_rfl) (by kernel_rfl)
  replace c5_ := of_decide_eq_false c5_
  refine cont_false rfl ?_
  refine cont_exit ?_
  refine then_exit ?_
  refine then_exit ?_
  refine blk_exit ?_
  refine then_normal ?_
  refine cont_seq ?_
  refine cont_region 3 rfl ?_
  refine bS [2] 1 2 [(75, .agg #[iq R.x0, iq R.y0, iq R.x1, iq R.y1])] ?_
  refine cont_forget 0 rfl ?_
  refine cont_forget 1 rfl ?_
  refine pl_step 2 1 rfl rfl ?_
  refine call_pure (d := 76) (iq (areaI R.x0 R.y0 R.x1 R.y1)) (by kernel_rfl) (fun w hT => rectArea R.x0 R.y0 R.x1 R.y1 w (by omega) (by omega) (by omega) (by omega)) ?_
  refine bS [0] 3 0 [(10, iq (areaI R.x0 R.y0 R.x1 R.y1))] ?_
  refine cont_done ?_
  refine then_normal ?_
  refine cont_ret ?_
  refine ret_one (.inl rfl) rfl 0 (iq (areaI R.x0 R.y0 R.x1 R.y1)) (by kernel_rfl) (by kernel_rfl) (fun w hT => ?_)
  replace hT := hT.erase 0 (fun e h hw => by cases h; first | rfl | cases hw)
  rw [show y = R.y1 by omega, hR] at hT
  exact ⟨by rw [hR], hT⟩
 refine call_pure (d := 40) (.agg #[iq 0, iq 0, iq W, iq H]) (by kernel_rfl) (fun w hT => imgBox m W H r n cap px  w ⟨hT.ok 2 _ rfl, Row.rd (hT.ok 3 _ rfl), Row.capLe (hT.ok 3 _ rfl)⟩ hok) ?_
 refine drawn_next 0 [1] (by kernel_rfl) ?_
 refine drawn_one 0 3 rfl (by kernel_rfl) ?_
 refine one_step 1 [(0, .pointer (pB m)), (1, .pointer (pB m)), (3, iq (farI dx)), (4, iq (farI dy)), (7, .pointer (pB b1)), (38, .agg #[iq a, iq b, iq c, iq d]), (40, .agg #[iq 0, iq 0, iq W, iq H]), (42, .agg #[iq (0 - (farI dx)), iq (0 - (farI dy)), iq (W - (farI dx)), iq (H - (farI dy))])] [.cells b2 [iq (0 - (farI dx)), iq (0 - (farI dy)), iq (W - (farI dx)), iq (H - (farI dy))] 32 true, .cells b1 [iq a, iq b, iq c, iq d] 32 true, .ro m [iq W, iq H, .slice (pB r) n cap] 84, .gen (rowE (pB r) r n cap 28 1 (ivals .u32 px) false)] (by kernel_rfl) (by kernel_rfl) ?_
 refine drawn_next 0 [1] (by kernel_rfl) ?_
 refine drawn_one 3 2 rfl (by kernel_rfl) ?_
 refine call_pure (d := 41) (.agg #[iq ((cutR a b c d 0 0 W H).x0), iq ((cutR a b c d 0 0 W H).y0), iq ((cutR a b c d 0 0 W H).x1), iq ((cutR a b c d 0 0 W H).y1)]) (by kernel_rfl) (fun w hT => rectCut a b c d 0 0 W H w) ?_
 refine drawn_next 0 [1] (by kernel_rfl) ?_
 refine drawn_one 5 1 rfl (by kernel_rfl) ?_
 refine call_pure (d := 43) (.agg #[iq ((cutR ((cutR a b c d 0 0 W H).x0) ((cutR a b c d 0 0 W H).y0) ((cutR a b c d 0 0 W H).x1) ((cutR a b c d 0 0 W H).y1) (0 - (farI dx)) (0 - (farI dy)) (W - (farI dx)) (H - (farI dy))).x0), iq ((cutR ((cutR a b c d 0 0 W H).x0) ((cutR a b c d 0 0 W H).y0) ((cutR a b c d 0 0 W H).x1) ((cutR a b c d 0 0 W H).y1) (0 - (farI dx)) (0 - (farI dy)) (W - (farI dx)) (H - (farI dy))).y0), iq ((cutR ((cutR a b c d 0 0 W H).x0) ((cutR a b c d 0 0 W H).y0) ((cutR a b c d 0 0 W H).x1) ((cutR a b c d 0 0 W H).y1) (0 - (farI dx)) (0 - (farI dy)) (W - (farI dx)) (H - (farI dy))).x1), iq ((cutR ((cutR a b c d 0 0 W H).x0) ((cutR a b c d 0 0 W H).y0) ((cutR a b c d 0 0 W H).x1) ((cutR a b c d 0 0 W H).y1) (0 - (farI dx)) (0 - (farI dy)) (W - (farI dx)) (H - (farI dy))).y1)]) (by kernel_rfl) (fun w hT => rectCut ((cutR a b c d 0 0 W H).x0) ((cutR a b c d 0 0 W H).y0) ((cutR a b c d 0 0 W H).x1) ((cutR a b c d 0 0 W H).y1) (0 - (farI dx)) (0 - (farI dy)) (W - (farI dx)) (H - (farI dy)) w) ?_
 obtain ⟨R, hR⟩ : ∃ R : Rect, R = copyR a b c d W H (farI dx) (farI dy) W H := ⟨_, rfl⟩
 have hcs := copyR_in a b c d W H (farI dx) (farI dy) W H hR hw1 hh1 ⟨hok.w1, hok.w2⟩ ⟨hok.h1, hok.h2⟩
 refine cont_recast 43 (.agg #[iq ((cutR ((cutR a b c d 0 0 W H).x0) ((cutR a b c d 0 0 W H).y0) ((cutR a b c d 0 0 W H).x1) ((cutR a b c d 0 0 W H).y1) (0 - (farI dx)) (0 - (farI dy)) (W - (farI dx)) (H - (farI dy))).x0), iq ((cutR ((cutR a b c d 0 0 W H).x0) ((cutR a b c d 0 0 W H).y0) ((cutR a b c d 0 0 W H).x1) ((cutR a b c d 0 0 W H).y1) (0 - (farI dx)) (0 - (farI dy)) (W - (farI dx)) (H - (farI dy))).y0), iq ((cutR ((cutR a b c d 0 0 W H).x0) ((cutR a b c d 0 0 W H).y0) ((cutR a b c d 0 0 W H).x1) ((cutR a b c d 0 0 W H).y1) (0 - (farI dx)) (0 - (farI dy)) (W - (farI dx)) (H - (farI dy))).x1), iq ((cutR ((cutR a b c d 0 0 W H).x0) ((cutR a b c d 0 0 W H).y0) ((cutR a b c d 0 0 W H).x1) ((cutR a b c d 0 0 W H).y1) (0 - (farI dx)) (0 - (farI dy)) (W - (farI dx)) (H - (farI dy))).y1)]) (.agg #[iq R.x0, iq R.y0, iq R.x1, iq R.y1]) rfl (by rw [hR]; rfl) ?_
 refine drawn_next 0 [1] (by kernel_rfl) ?_
 refine drawn_one 6 0 rfl (by kernel_rfl) ?_
 refine one_step 1 [(0, .pointer (pB m)), (1, .pointer (pB m)), (3, iq (farI dx)), (4, iq (farI dy)), (7, .pointer (pB b1))] [.cells b2 [iq (0 - (farI dx)), iq (0 - (farI dy)), iq (W - (farI dx)), iq (H - (farI dy))] 32 true, .cells b1 [iq R.x0, iq R.y0, iq R.x1, iq R.y1] 32 true, .ro m [iq W, iq H, .slice (pB r) n cap] 84, .gen (rowE (pB r) r n cap 28 1 (ivals .u32 px) false)] (by kernel_rfl) (by kernel_rfl) ?_
 refine drawn_next 0 [1] (by kernel_rfl) ?_
 refine drawn_done (by kernel_rfl) ?_
 refine then_normal ?_
 refine cont_seq ?_
 refine cont_region 3 rfl ?_
 refine bS [0] 1 2 [(0, .pointer (pB m)), (3, iq (farI dx)), (4, iq (farI dy)), (7, .pointer (pB b1)), (44, .pointer (pB m))] ?_
 refine cont_forget 0 rfl ?_
 refine pl_step 2 1 rfl rfl ?_
 refine call_gen (d := 45) (α := Nat × Nat × Nat) (fun x_ => .pointer (pB x_.1)) (fun x_ => [.cells x_.1 [iq W, iq H, .slice (pB x_.2.1) n x_.2.2] 84 true, .gen (rowE (pB x_.2.1) x_.2.1 n x_.2.2 28 1 (ivals .u32 px) true), .cells b1 [iq R.x0, iq R.y0, iq R.x1, iq R.y1] 32 true, .ro m [iq W, iq H, .slice (pB r) n cap] 84, .gen (rowE (pB r) r n cap 28 1 (ivals .u32 px) false)]) (fun _ => True) (by kernel_rfl) (fun w hT => (imgClone m W H r n cap px w ⟨hT.ok 1 _ rfl, Row.rd (hT.ok 2 _ rfl), Row.capLe (hT.ok 2 _ rfl)⟩ hok).mono fun e w' ⟨b_, g_, c_, he_, hi_⟩ => ⟨(b_, g_, c_), he_, trivial, hT.addImg hi_⟩) ?_
 rintro ⟨cb6, cg6, cc6⟩ -
 refine cont_norm [(0, .pointer (pB m)), (3, iq (farI dx)), (4, iq (farI dy)), (7, .pointer (pB b1)), (44, .pointer (pB m)), (45, .pointer (pB cb6))] _ (by kernel_rfl) rfl ?_
 refine bS [0] 3 0 [(0, .pointer (pB m)), (3, iq (farI dx)), (4, iq (farI dy)), (7, .pointer (pB b1)), (13, .pointer (pB cb6))] ?_
 refine cont_done ?_
 refine then_normal ?_
 refine cont_seq ?_
 refine cont_seq ?_
 refine cont_region 3 rfl ?_
 refine bS [0, 2, 0] 3 0 [(0, .pointer (pB m)), (3, iq (farI dx)), (4, iq (farI dy)), (7, .pointer (pB b1)), (13, .pointer (pB cb6)), (14, iq R.y0)] ?_
 refine cont_done ?_
 refine then_normal ?_
 refine cont_block ?_
 refine cont_rowEq (k := .u32) 4 (px) (copyP W px W px R.x0 R.y0 R.x1 R.y0 (farI dx) (farI dy)) rfl ((copyP_none _ _ _ _ _ _ _ _ _ _ (by omega)).symm) ?_
 refine cont_loop (α := Int) (fun x_ : Int => R.y0 ≤ x_ ∧ x_ ≤ R.y1) (fun x_ : Int => [(0, .pointer (pB m)), (3, iq (farI dx)), (4, iq (farI dy)), (7, .pointer (pB b1)), (13, .pointer (pB cb6)), (14, iq x_)]) (fun x_ : Int => [.cells cb6 [iq W, iq H, .slice (pB cg6) n cc6] 84 true, .gen (rowE (pB cg6) cg6 n cc6 28 1 (ivals .u32 px) true), .cells b1 [iq R.x0, iq R.y0, iq R.x1, iq R.y1] 32 true, .ro m [iq W, iq H, .slice (pB r) n cap] 84, .gen (rowE (pB r) r n cap 28 1 (ivals .u32 (copyP W px W px R.x0 R.y0 R.x1 x_ (farI dx) (farI dy))) false)]) (fun x_ : Int => (R.y1 - x_).toNat) R.y0 (⟨by omega, by omega⟩) (by kernel_rfl) (by kernel_rfl) ?_
 rintro y hinv7_
 replace hinv7_ : R.y0 ≤ y ∧ y ≤ R.y1 := hinv7_
 refine cont_norm [(0, .pointer (pB m)), (3, iq (farI dx)), (4, iq (farI dy)), (7, .pointer (pB b1)), (13, .pointer (pB cb6)), (14, iq y)] _ (by kernel_rfl) rfl ?_
 obtain ⟨hy0, hy1⟩ := hinv7_
 have hpa : y < R.y1 → 0 ≤ (y + farI dy) * W ∧ (y + farI dy) * W ≤ 65536 ∧ (y + farI dy) * W + (W - 1) < n := fun h => hok.place (x := W - 1) (y := y + farI dy) (by omega) (by omega) (by omega) (by omega)
 have hpb : y < R.y1 → 0 ≤ y * W ∧ y * W ≤ 65536 ∧ y * W + (W - 1) < n := fun h => hok.place (x := W - 1) (y := y) (by omega) (by omega) (by omega) (by omega)
 refine cont_seq ?_
 refine cont_seq ?_
 refine cont_region 4 rfl ?_
 refine bS [0, 0, 2, 0] 4 0 [(0, .pointer (pB m)), (3, iq (farI dx)), (4, iq (farI dy)), (7, .pointer (pB b1)), (13, .pointer (pB cb6)), (14, iq y), (51, .bool (decide (y < R.y1)))] ?_
 refine cont_done ?_
 refine then_normal ?_
 refine cont_split 51 (decide (y < R.y1)) rfl (fun c8_ => ?_) (fun c8_ => ?_)
 ·
  replace c8_ := of_decide_eq_true c8_
  refine cont_true rfl ?_
  refine cont_skip ?_
  refine then_normal ?_
  refine cont_seq ?_
  refine cont_block ?_
  refine drawn_enter 21 [4] rfl (by kernel_rfl) ?_
  refine takes 0 [4] [(0, 0), (1, 0), (2, 0), (4, 0), (6, 0), (8, 0), (10, 0), (13, 0), (14, 0), (15, 0), (17, 0), (3, 0)] 9 [3, 17, 15, 14, 13, 10, 8, 6, 4, 2, 1, 0] [(0, .pointer (pB m)), (3, iq (farI dx)), (4, iq (farI dy)), (7, .pointer (pB b1)), (13, .pointer (pB cb6)), (14, iq y), (54, .pointer (pB m)), (57, iq (IntKind.i64.wrap (y + (farI dy)))), (58, .pointer (pB b1)), (60, iq (farI dx)), (62, .pointer (some ⟨b1, 2, none⟩)), (64, iq (farI dx)), (67, .pointer (pB cb6)), (68, iq y), (69, .pointer (pB b1)), (71, .pointer (some ⟨b1, 2, none⟩))] (by kernel_rfl) (pok_blk (pok_then (pok_then (pok_blk (pok_then pok_body))))) (by kernel_rfl) rfl rfl (by kernel_rfl) (by kernel_rfl) ?_
  refine cont_recast 57 (iq (IntKind.i64.wrap (y + (farI dy)))) (iq (y + (farI dy))) rfl (wrapI (by omega) (by omega)) ?_
  refine takes 0 [4] [(5, 2), (9, 2), (16, 2), (18, 2), (7, 0)] 4 [7, 18, 16, 9, 5, 3, 17, 15, 14, 13, 10, 8, 6, 4, 2, 1, 0] [(0, .pointer (pB m)), (3, iq (farI dx)), (4, iq (farI dy)), (7, .pointer (pB b1)), (13, .pointer (pB cb6)), (14, iq y), (54, .pointer (pB m)), (57, iq (y + (farI dy))), (61, iq (IntKind.i64.wrap (R.x0 + (farI dx)))), (63, iq R.x1), (64, iq (farI dx)), (67, .pointer (pB cb6)), (68, iq y), (70, iq R.x0), (72, iq R.x1)] (by kernel_rfl) (pok_blk (pok_then (pok_then (pok_blk (pok_then pok_body))))) (by kernel_rfl) rfl rfl (by kernel_rfl) (by kernel_rfl) ?_
  refine cont_recast 61 (iq (IntKind.i64.wrap (R.x0 + (farI dx)))) (iq (R.x0 + (farI dx))) rfl (wrapI (by omega) (by omega)) ?_
  refine takes 0 [4] [(11, 0)] 3 [11, 7, 18, 16, 9, 5, 3, 17, 15, 14, 13, 10, 8, 6, 4, 2, 1, 0] [(0, .pointer (pB m)), (3, iq (farI dx)), (4, iq (farI dy)), (7, .pointer (pB b1)), (13, .pointer (pB cb6)), (14, iq y), (54, .pointer (pB m)), (57, iq (y + (farI dy))), (61, iq (R.x0 + (farI dx))), (65, iq (IntKind.i64.wrap (R.x1 + (farI dx)))), (67, .pointer (pB cb6)), (68, iq y), (70, iq R.x0), (72, iq R.x1)] (by kernel_rfl) (pok_blk (pok_then (pok_then (pok_blk (pok_then pok_body))))) (by kernel_rfl) rfl rfl (by kernel_rfl) (by kernel_rfl) ?_
  refine cont_recast 65 (iq (IntKind.i64.wrap (R.x1 + (farI dx)))) (iq (R.x1 + (farI dx))) rfl (wrapI (by omega) (by omega)) ?_
  refine drawn_one 12 2 rfl (by kernel_rfl) ?_
  refine call_pure (d := 66) (.slice (sliceA r 0 (Int.toNat ((y + (farI dy)) * W + (R.x0 + (farI dx)))) cap 1) (Int.toNat ((y + (farI dy)) * W + (R.x1 + (farI dx))) - Int.toNat ((y + (farI dy)) * W + (R.x0 + (farI dx)))) (cap - Int.toNat ((y + (farI dy)) * W + (R.x0 + (farI dx))))) (by kernel_rfl) (fun w hT => imgRow m W H r n cap (copyP W px W px R.x0 R.y0 R.x1 y (farI dx) (farI dy)) (y + (farI dy)) (R.x0 + (farI dx)) (R.x1 + (farI dx)) w ⟨hT.ok 3 _ rfl, Row.rd (hT.ok 4 _ rfl), Row.capLe (hT.ok 4 _ rfl)⟩ (hok.copyP hok _ _ _ _ _ _) (by omega)) ?_
  refine drawn_next 0 [4] (by kernel_rfl) ?_
  refine drawn_one 19 1 rfl (by kernel_rfl) ?_
  refine call_pure (d := 73) (.slice (sliceA cg6 0 (Int.toNat (y * W + R.x0)) cc6 1) (Int.toNat (y * W + R.x1) - Int.toNat (y * W + R.x0)) (cc6 - Int.toNat (y * W + R.x0))) (by kernel_rfl) (fun w hT => imgRow cb6 W H cg6 n cc6 px y R.x0 R.x1 w ⟨hT.ok 0 _ rfl, Row.rd (hT.ok 1 _ rfl), Row.capLe (hT.ok 1 _ rfl)⟩ hok (by omega)) ?_
  refine drawn_next 0 [4] (by kernel_rfl) ?_
  refine drawn_one 20 0 rfl (by kernel_rfl) ?_
  refine sem_stepW 74 (Builtin.copy_ #[35, 35] 3 #[.slice (sliceA r 0 (Int.toNat ((y + (farI dy)) * W + (R.x0 + (farI dx)))) cap 1) (Int.toNat ((y + (farI dy)) * W + (R.x1 + (farI dx))) - Int.toNat ((y + (farI dy)) * W + (R.x0 + (farI dx)))) (cap - Int.toNat ((y + (farI dy)) * W + (R.x0 + (farI dx)))), .slice (sliceA cg6 0 (Int.toNat (y * W + R.x0)) cc6 1) (Int.toNat (y * W + R.x1) - Int.toNat (y * W + R.x0)) (cc6 - Int.toNat (y * W + R.x0))]) (fun _ => iq ((min (Int.toNat (y * W + R.x1) - Int.toNat (y * W + R.x0)) (Int.toNat ((y + (farI dy)) * W + (R.x1 + (farI dx))) - Int.toNat ((y + (farI dy)) * W + (R.x0 + (farI dx)))) : Nat) : Int)) (fun _ => [.cells cb6 [iq W, iq H, .slice (pB cg6) n cc6] 84 true, .gen (rowE (pB cg6) cg6 n cc6 28 1 (ivals .u32 px) true), .cells b1 [iq R.x0, iq R.y0, iq R.x1, iq R.y1] 32 true, .ro m [iq W, iq H, .slice (pB r) n cap] 84, .gen (rowE (pB r) r n cap 28 1 (ivals .u32 (copyP W px W px R.x0 R.y0 R.x1 (y + 1) (farI dx) (farI dy))) false)]) (fun _ => True) (by kernel_rfl) (fun w hT => copy_row (o := 0 + (Int.toNat ((y + (farI dy)) * W + (R.x0 + (farI dx)))) * 1) hT (i := 4) rfl (by kernel_rfl) (by kernel_rfl) (fun h_ => sliceA_pos (by omega)) (by omega) (Row.sub (hT.ok 1 _ rfl) (by omega)) (copyP_row hok hok (by omega) (by omega) (by omega) (by omega) (by omega) (by omega) (by omega) (by omega) (by omega) (by omega) (by omega) rfl (by omega) (by omega))) (fun _ _ => ?_)
  refine drawn_next 0 [4] (by kernel_rfl) ?_
  refine drawn_done (by kernel_rfl) ?_
  refine blk_normal ?_
  refine then_normal ?_
  refine cont_region 3 rfl ?_
  refine bS [0, 0] 2 1 [(0, .pointer (pB m)), (3, iq (farI dx)), (4, iq (farI dy)), (7, .pointer (pB b1)), (13, .pointer (pB cb6)), (53, iq (IntKind.i64.wrap (y + 1)))] ?_
  refine cont_recast 53 (iq (IntKind.i64.wrap (y + 1))) (iq (y + 1)) rfl (wrapI (by omega) (by omega)) ?_
  refine bS [0] 3 0 [(0, .pointer (pB m)), (3, iq (farI dx)), (4, iq (farI dy)), (7, .pointer (pB b1)), (13, .pointer (pB cb6)), (14, iq (y + 1))] ?_
  refine cont_done ?_
  refine then_normal ?_
  refine cont_again (y + 1) (show R.y0 ≤ (y + 1) ∧ (y + 1) ≤ R.y1 from ⟨by omega, by omega⟩) (show (R.y1 - (y + 1)).toNat < (R.y1 - y).toNat from by omega) (by kernel_rfl) (by kernel_rfl)
 replace c8_ := of_decide_eq_false c8_
 refine cont_false rfl ?_
 refine cont_exit ?_
 refine then_exit ?_
 refine then_exit ?_
 refine blk_exit ?_
 refine then_normal ?_
 refine cont_seq ?_
 refine cont_region 3 rfl ?_
 refine bS [2] 1 2 [(75, .agg #[iq R.x0, iq R.y0, iq R.x1, iq R.y1])] ?_
 refine cont_forget 0 rfl ?_
 refine cont_forget 1 rfl ?_
 refine pl_step 2 1 rfl rfl ?_
 refine call_pure (d := 76) (iq (areaI R.x0 R.y0 R.x1 R.y1)) (by kernel_rfl) (fun w hT => rectArea R.x0 R.y0 R.x1 R.y1 w (by omega) (by omega) (by omega) (by omega)) ?_
 refine bS [0] 3 0 [(10, iq (areaI R.x0 R.y0 R.x1 R.y1))] ?_
 refine cont_done ?_
 refine then_normal ?_
 refine cont_ret ?_
 refine ret_one (.inl rfl) rfl 0 (iq (areaI R.x0 R.y0 R.x1 R.y1)) (by kernel_rfl) (by kernel_rfl) (fun w hT => ?_)
 replace hT := hT.erase 0 (fun e h hw => by cases h; first | rfl | cases hw)
 rw [show y = R.y1 by omega, hR] at hT
 exact ⟨by rw [hR], hT⟩

theorem refFillB (W H : Int) (r n cap : Nat) (px : List Int) (a b c d col : Int) (w : World) (hT0 : Tab w w [.gen (rdE (some ⟨r, 0, none⟩) r 0 n 1 (ivals .u32 px))]) (h0 : 0 ≤ col) (h1 : col < 4294967296) (hmay : mayB col = false) :
    Calls Try.prog 31 #[.agg #[.int .i64 W, .int .i64 H, .slice (some ⟨r, 0, none⟩) n cap], .agg #[.int .i64 a, .int .i64 b, .int .i64 c, .int .i64 d], .int .u32 col] w fun e w' => e = .returned (.tuple #[.agg #[.int .i64 W, .int .i64 H, .slice (some ⟨r, 0, none⟩) n cap], .int .i64 0]) ∧ Below w.heap.size w w' := by
 refine enter 52 [(0, .agg #[iq W, iq H, .slice (pB r) n cap]), (1, .agg #[iq a, iq b, iq c, iq d]), (2, .int .u32 col)] [.gen (rdE (pB r) r 0 n 1 (ivals .u32 px))] Try.func31 rfl Try.ntmps31 rfl (by kernel_rfl) hT0 ?_
 refine cont_seq ?_
 refine cont_region 4 rfl ?_
 refine batch3 [0, 0, 0, 0] 4 0 (fun b1 b2 b3 => [(2, .int .u32 col), (3, .pointer (pB b1)), (4, .pointer (pB b2)), (6, .pointer (pB b3))]) (fun b1 b2 b3 => [.cells b3 [iq 0, iq 0, .slice none 0 0] 37 true, .cells b2 [iq a, iq b, iq c, iq d] 32 true, .cells b1 [iq W, iq H, .slice (pB r) n cap] 37 true, .gen (rdE (pB r) r 0 n 1 (ivals .u32 px))]) rfl rfl [2, 3, 4, 6] (fun _ _ _ => rfl) (fun b1 b2 b3 => by kernel_rfl) (fun b1 b2 b3 => by kernel_rfl) (fun b1 b2 b3 => ?_)
 refine cont_done ?_
 refine then_normal ?_
 refine cont_seq ?_
 refine cont_region 3 rfl ?_
 refine bS [0] 1 2 [(2, .int .u32 col), (3, .pointer (pB b1)), (4, .pointer (pB b2)), (6, .pointer (pB b3)), (12, .int .u32 col)] ?_
 refine pl_step 2 1 rfl rfl ?_
 refine call_pure (d := 13) (.bool (mayB col)) (by kernel_rfl) (fun w hT => refMay col w (by omega) (by omega)) ?_
 refine bS [0] 3 0 [(2, .int .u32 col), (3, .pointer (pB b1)), (4, .pointer (pB b2)), (6, .pointer (pB b3)), (8, .bool (mayB col))] ?_
 refine cont_done ?_
 refine then_normal ?_
 refine cont_seq ?_
 refine cont_seq ?_
 refine cont_region 2 rfl ?_
 refine bS [0, 0] 2 0 [(2, .int .u32 col), (3, .pointer (pB b1)), (4, .pointer (pB b2)), (6, .pointer (pB b3)), (15, .bool (!(mayB col)))] ?_
 refine cont_done ?_
 refine then_normal ?_
 refine cont_recast 15 (.bool (!(mayB col))) (.bool true) rfl (congrArg Value.bool (by rw [hmay]; rfl)) ?_
 refine cont_true rfl ?_
 refine cont_seq ?_
 refine cont_region 3 rfl ?_
 refine batch0 [2, 0, 0] 3 0 [(6, .pointer (pB b3)), (7, iq 0)] [.cells b3 [iq W, iq H, .slice (pB r) n cap] 37 true, .cells b2 [iq a, iq b, iq c, iq d] 32 true, .cells b1 [iq W, iq H, .slice (pB r) n cap] 37 true, .gen (rdE (pB r) r 0 n 1 (ivals .u32 px))] rfl rfl (by kernel_rfl) (by kernel_rfl) ?_
 refine cont_forget 1 rfl ?_
 refine cont_forget 1 rfl ?_
 refine cont_done ?_
 refine then_normal ?_
 refine cont_ret ?_
 refine then_ret ?_
 refine ret_two (.inl rfl) rfl 0 0 (.agg #[iq W, iq H, .slice (pB r) n cap]) (iq 0) (by kernel_rfl) (by kernel_rfl) (by kernel_rfl) (by kernel_rfl) (fun w hT => ?_)
 exact ⟨rfl, hT.post rfl⟩

end Go.Proofs.Ytommojgfkkoghaa

/- Contracts of functions of the given program, printed by a program of this project. -/
set_option linter.unusedVariables false
set_option linter.unusedSimpArgs false
namespace Go.Proofs.Ytommojgfkkoghaa
open Go Go.RowKit
set_option maxRecDepth 100000
set_option maxHeartbeats 8000000

theorem lives4 (w : World) :
    Calls Try.prog 13 #[] w fun e w' => e = .returned (.bool true) ∧ Below w.heap.size w w' := by
 refine enter 17 [] [] Try.func13 rfl Try.ntmps13 rfl (by kernel_rfl) (Tab.start w) ?_
 refine cont_seq ?_
 refine cont_region 1 rfl ?_
 refine bS [0] 1 0 [] ?_
 refine cont_done ?_
 refine then_normal ?_
 refine cont_seq ?_
 refine cont_region 6 rfl ?_
 refine pl_step 1 5 rfl rfl ?_
 refine call_gen (d := 4) (α := Nat × Nat × Nat) (fun x_ => .tuple #[.pointer (pB x_.1), iq 0]) (fun x_ => [.cells x_.1 [iq 3, iq 3, .slice (pB x_.2.1) x_.2.2 x_.2.2] 84 true, .gen (rowE (pB x_.2.1) x_.2.1 x_.2.2 x_.2.2 28 1 (ivals .u32 (List.replicate x_.2.2 0)) true)]) (fun x_ => (x_.2.2 : Int) = 3 * 3) (by kernel_rfl) (fun w hT => (imgNew 3 3 w (by decide)).mono fun e w' ⟨b_, r_, n_, he_, hn_, hi_⟩ => ⟨(b_, r_, n_), he_, hn_, hT.addImg hi_⟩) ?_
 rintro ⟨b1, r1, n1⟩ hn1
 replace hn1 : (n1 : Int) = 3 * 3 := hn1
 refine cont_norm [(4, .tuple #[.pointer (pB b1), iq 0])] _ (by kernel_rfl) rfl ?_
 refine bS [0, 0, 0, 0, 0] 6 0 [(1, .pointer (pB b1)), (2, iq 0)] ?_
 refine cont_done ?_
 refine then_normal ?_
 refine cont_seq ?_
 refine cont_seq ?_
 refine cont_region 6 rfl ?_
 refine bS [0, 0, 0, 0, 0, 0] 6 0 [(1, .pointer (pB b1)), (12, .bool false)] ?_
 refine cont_done ?_
 refine then_normal ?_
 refine cont_false rfl ?_
 refine cont_skip ?_
 refine then_normal ?_
 refine cont_seq ?_
 refine cont_region 5 rfl ?_
 refine bS [0, 0] 2 3 [(13, .pointer (pB b1)), (14, .agg #[iq 1, iq 1, iq 9, iq 9])] ?_
 refine pl_step 3 2 rfl rfl ?_
 refine call_gen (d := 15) (α := Unit) (fun _ => iq (fillN 3 3 1 1 9 9 4278190080)) (fun _ => [.cells b1 [iq 3, iq 3, .slice (pB r1) n1 n1] 84 true, .gen (rowE (pB r1) r1 n1 n1 28 1 (ivals .u32 (fillA 3 3 (List.replicate n1 0) 1 1 9 9 4278190080)) true)]) (fun _ => True) (by kernel_rfl) (fun w hT => (imgFill b1 3 3 r1 n1 n1 (List.replicate n1 0) 1 1 9 9 4278190080 w ⟨hT.ok 0 _ rfl, hT.ok 1 _ rfl, fun hne => hT.disj 0 1 _ _ (by omega) rfl rfl (.inr rfl) _ rfl ⟨hne, by simp⟩⟩ (imgOk_new (by decide) hn1) ⟨by omega, by omega⟩).mono fun e w' ⟨he_, hk_, hr_⟩ => ⟨(), he_, trivial, hT.keepBut hk_ (i := 1) rfl hr_⟩) (fun _ _ => ?_)
 refine bS [0, 0] 5 0 [(0, .bool ((fillN 3 3 1 1 9 9 4278190080) == 4))] ?_
 refine cont_forget 0 rfl ?_
 refine cont_done ?_
 refine then_normal ?_
 refine cont_ret ?_
 refine ret_one (.inl rfl) rfl 0 (.bool ((fillN 3 3 1 1 9 9 4278190080) == 4)) (by kernel_rfl) (by kernel_rfl) (fun w hT => ?_)
 exact ⟨ret_bool (by decide +kernel), hT.post rfl⟩

end Go.Proofs.Ytommojgfkkoghaa

/- From the reading of a law's arguments to the words of the walks, and back. -/
set_option linter.unusedVariables false
set_option linter.unusedSimpArgs false
namespace Go.Proofs.Ytommojgfkkoghaa
open Go.ChangeShapes Go.WideShapes Go.ChangeAt Go.RowKit Go.Deep

theorem own0 : ownKnob Try.prog.godebug = none := by kernel_rfl
theorem laidOut0 : laidOutB Try.prog = true := by kernel_rfl

section
variable {H : Type} {enc : TypeId × Value → H} {P : Program}
theorem post_below {f : Func} {s : ChangeSpec} {apart fresh handsOn again : Bool} {W W' : World} {args : Array Value} {v : Value} {ds gs : List (DataW H)} {before pa pv : List MemPlace}
    (hW : DataW.Whole enc P f.params.toList s.vars apart W args.toList ds gs before)
    (hres : ∀ (b : Nat) (sp : Nat → Bool) (hd : Bool), DataW.TrodAll enc P W' b sp hd f.resultTypes.toList (v.resultList f.resultTypes.size) (s.fn H (ds ++ gs)).results [])
    (hargs : ∀ sp : Nat → Bool, (∀ p ∈ before, sp p.block = true) → DataW.TrodAll enc P W' 0 sp true f.params.toList args.toList (s.fn H (ds ++ gs)).args pa)
    (hvars : ∀ sp : Nat → Bool, (∀ p ∈ before, sp p.block = true) → DataW.TrodVars enc P W' sp s.vars (s.fn H (ds ++ gs)).vars pv)
    (hps : before = pa ++ pv) (hb : Below W.heap.size W W')
    (hok : ∀ (j : Nat) (t : TypeId) (r : Value), f.resultTypes[j]? = some t → (v.resultList f.resultTypes.size)[j]? = some r → Value.okWide P W' .any 0 t r) :
    s.post enc P f apart fresh handsOn again W args v W' := by
  have hlt : ∀ p ∈ before, p.block < W.heap.size := fun p hp => hW.lt p hp
  have hold : ∀ p ∈ before, (fun b => decide (b < W.heap.size)) p.block = true := fun p hp => by simpa using hlt p hp
  refine ⟨ds, gs, before, [], pa, pv, hW, hres _ _ _, hargs _ hold, hvars _ hold, World.keptBut_mono (fun p hp => ⟨hp, ?_⟩) (hb.frame (· ∈ before)), fun _ => ?_⟩
  · rw [hps, List.mem_append] at hp
    exact Or.inr hp
  · obtain ⟨_, _, _, _, _, hz, hn⟩ := hW
    refine ⟨hok, _, _, ([] ++ pa) ++ pv, ⟨[] ++ pa, pv, trodAll_append (hargs _ (fun _ _ => rfl)) (hres _ _ _), hvars _ (fun _ _ => rfl), rfl, ?_, ?_⟩, ?_⟩
    · intro b off hp
      have hin : MemPlace.cell b off ∈ before := by rw [hps]; simpa using hp
      rw [hb.frozen (hlt _ hin)]
      exact hz b off hin
    · intro ha
      have := hn ha
      rw [hps] at this
      simpa using this
    · intro p hp _
      rw [hps]
      simpa using hp

/-- An argument reads behind the call as it did, whatever may be spared. -/
theorem trod_keeps {t : TypeId} (hl : laidOutB P = true) (hr : P.readableRec t = true) (hrow : t < P.types.size) {W W' : World} {v : Value} {d : DataW H} {ps : List MemPlace}
    (h : DataW.Trod enc P W 0 (fun _ => true) true t v d ps) (hb : Below W.heap.size W W') (hlt : ∀ x ∈ ps, x.block < W.heap.size) (sp : Nat → Bool) (hsp : ∀ p ∈ ps, sp p.block = true) : DataW.Trod enc P W' 0 sp true t v d ps :=
  WideElems.Trod_stays hl hr hrow h (fun x hx => hb.same (hlt x hx)) hsp
end

theorem addr_split {a : Addr} (h : a.spot = none) (j : Nat) : a.add j = ⟨a.block, a.off + j, none⟩ := by
  cases a with
  | mk b o s =>
    simp only at h
    subst h
    unfold Addr.add
    split <;> simp_all
theorem spot_of_cell {W : World} {a : Addr} {v : Value} (h : W.cell? a = some v) : a.spot = none := by
  unfold World.cell? at h
  split at h
  · split at h
    · cases h
    · rename_i hs; simpa using hs
  · cases h
/-- A slice of whole numbers that came in. -/
theorem open_nums {H : Type} {enc : TypeId × Value → H} {P : Program} {W : World} {t e : TypeId} {k : IntKind} {v : Value} {d : DataW H} {ps : List MemPlace} (ht : P.underlying t = some (.slice e)) (he : P.underlying e = some (.int k)) (hc : P.cellsOf e = 1)
    (hval : Value.okWide P W .any 0 t v) (h : DataW.Trod enc P W 0 (fun _ => true) true t v d ps) :
    ∃ (A : Option Addr) (g o n cap : Nat) (xs : List Int), v = .slice A n cap ∧ Rd W A g o n 1 (ivals k xs) ∧ xs.length = n ∧ n ≤ cap ∧ cap ≤ maxLen ∧ (∀ x ∈ xs, (Lit.int k x).wf = true) := by
  obtain ⟨a, len, cap, rfl⟩ := okWide_slice ht hval
  obtain ⟨fuel, hf⟩ := h
  have hcells : (Value.slice a len cap).cells.toList = [.slice a len cap] := rfl
  rw [hcells] at hf
  rcases open_ints ht he hc hf with ⟨h1, _⟩ | ⟨ad, len', cap', zs, h1, _, hle, hm, hlen, _, hcell, hwf⟩
  · simp only [List.cons.injEq, Value.slice.injEq, and_true] at h1
    obtain ⟨rfl, rfl, rfl⟩ := h1
    exact ⟨none, 0, 0, 0, 0, [], rfl, ⟨rfl, fun h => by omega, fun j v hj => by simp [ivals] at hj⟩, rfl, Nat.le_refl _, by unfold maxLen; omega, fun x hx => by cases hx⟩
  · simp only [List.cons.injEq, Value.slice.injEq, and_true] at h1
    obtain ⟨rfl, rfl, rfl⟩ := h1
    simp only [if_true] at hlen
    have hsp : 0 < len → ad.spot = none := fun hp => by
      have := hcell 0 (by omega)
      have h0 : ad.add 0 = ad := by simp [Addr.add]
      rw [h0] at this
      exact spot_of_cell this
    refine ⟨some ad, ad.block, ad.off, len, cap, zs.take len, rfl, ⟨by simp [ivals]; omega, fun hp => ?_, fun j v hj => ?_⟩, by simp; omega, hle, hm, fun x hx => hwf x (List.mem_of_mem_take hx)⟩
    · have := hsp hp
      cases ad with
      | mk b o s => simp only at this; subst this; rfl
    · have hjl : j < (ivals k (zs.take len)).length := (List.getElem?_eq_some_iff.1 hj).1
      rw [ivals_length, List.length_take] at hjl
      have hg := ivals_get (k := k) (xs := zs.take len) (j := j) (by rw [List.length_take]; exact hjl)
      rw [hg] at hj
      cases hj
      have hc1 := hcell j (by omega)
      rw [addr_split (hsp (by omega))] at hc1
      rw [hc1]
      congr 2
      simp only [List.getD_eq_getElem?_getD]
      rw [List.getElem?_take, if_pos (by omega)]

/-- A field of a struct that came in. -/
theorem trod_sub {H : Type} {enc : TypeId × Value → H} {P : Program} {W : World} {t ty : TypeId} {fs : Array Field} {i fuel : Nat} {f : Field} {cs cs' : List Value} {x : DataW H × List MemPlace} (ht : P.underlying t = some (.struct fs))
    (h : DataW.trod enc P W 0 (fun _ => true) true fuel t cs = some x) (hf : fs[i]? = some f) (hty : f.type = ty) (e : (cs.drop f.offset).take (P.cellsOf f.type) = cs') : ∃ (n : Nat) (y : DataW H × List MemPlace), DataW.trod enc P W 0 (fun _ => true) true n ty cs' = some y := by
  obtain ⟨xs, n, _, _, _, hlen, hg⟩ := DataW.trod_struct ht h
  have h1 := hg i f hf
  rw [e, hty] at h1
  have hi : i < xs.length := by rw [hlen]; exact (Array.getElem?_eq_some_iff.1 hf).1
  rw [List.getElem?_eq_getElem hi] at h1
  exact ⟨n, _, h1⟩
theorem open_intC {H : Type} {enc : TypeId × Value → H} {P : Program} {W : World} {t : TypeId} {k : IntKind} {c : Value} {n : Nat} {x : DataW H × List MemPlace} (ht : P.underlying t = some (.int k)) (h : DataW.trod enc P W 0 (fun _ => true) true n t [c] = some x) : ∃ a : Int, c = .int k a ∧ (Lit.int k a).wf = true := by
  obtain ⟨a, e, _, w⟩ := DataW.trod_int ht h
  exact ⟨a, by simpa using e, w⟩
theorem open_numsC {H : Type} {enc : TypeId × Value → H} {P : Program} {W : World} {t e : TypeId} {k : IntKind} {c : Value} {fuel : Nat} {x : DataW H × List MemPlace} (ht : P.underlying t = some (.slice e)) (he : P.underlying e = some (.int k)) (hc : P.cellsOf e = 1)
    (hf : DataW.trod enc P W 0 (fun _ => true) true fuel t [c] = some x) :
    ∃ (A : Option Addr) (g o n cap : Nat) (xs : List Int), c = .slice A n cap ∧ Rd W A g o n 1 (ivals k xs) ∧ xs.length = n ∧ n ≤ cap ∧ cap ≤ maxLen ∧ (∀ x ∈ xs, (Lit.int k x).wf = true) := by
  rcases open_ints ht he hc hf with ⟨h1, _⟩ | ⟨ad, len', cap', zs, h1, _, hle, hm, hlen, _, hcell, hwf⟩
  · simp only [List.cons.injEq, and_true] at h1
    exact ⟨none, 0, 0, 0, 0, [], h1, ⟨rfl, fun h => by omega, fun j v hj => by simp [ivals] at hj⟩, rfl, Nat.le_refl _, by unfold maxLen; omega, fun x hx => by cases hx⟩
  · simp only [List.cons.injEq, and_true] at h1
    simp only [if_true] at hlen
    have hsp : 0 < len' → ad.spot = none := fun hp => by
      have := hcell 0 (by omega)
      have h0 : ad.add 0 = ad := by simp [Addr.add]
      rw [h0] at this
      exact spot_of_cell this
    refine ⟨some ad, ad.block, ad.off, len', cap', zs.take len', h1, ⟨by simp [ivals]; omega, fun hp => ?_, fun j v hj => ?_⟩, by simp; omega, hle, hm, fun x hx => hwf x (List.mem_of_mem_take hx)⟩
    · have := hsp hp
      cases ad with
      | mk b o s => simp only at this; subst this; rfl
    · have hjl : j < (ivals k (zs.take len')).length := (List.getElem?_eq_some_iff.1 hj).1
      rw [ivals_length, List.length_take] at hjl
      have hg := ivals_get (k := k) (xs := zs.take len') (j := j) (by rw [List.length_take]; exact hjl)
      rw [hg] at hj
      cases hj
      have hc1 := hcell j (by omega)
      rw [addr_split (hsp (by omega))] at hc1
      rw [hc1]
      congr 2
      simp only [List.getD_eq_getElem?_getD]
      rw [List.getElem?_take, if_pos (by omega)]
end Go.Proofs.Ytommojgfkkoghaa

/- From a law's arguments to plain words: slices of rectangles. -/
set_option linter.unusedVariables false
set_option linter.unusedSimpArgs false
namespace Go.Proofs.Ytommojgfkkoghaa
open Go Go.ChangeShapes Go.WideShapes Go.ChangeAt Go.RowKit Go.Deep

end Go.Proofs.Ytommojgfkkoghaa

/- Lists of structs that hold slices: how they are read, how a law's argument of that kind opens. -/
set_option linter.unusedVariables false
set_option linter.unusedSimpArgs false
namespace Go.Proofs.Ytommojgfkkoghaa
open Go Go.ChangeShapes Go.WideShapes Go.ChangeAt Go.RowKit Go.Deep
variable {dfs : List Deferred}
/-! ### The cells of a list of structs -/
section
def dget {α : Type} [Inhabited α] (l : List α) (i : Nat) : α := l.getD i default
theorem dget_zero {α : Type} [Inhabited α] (a : α) (l : List α) : dget (a :: l) 0 = a := rfl
theorem dget_succ {α : Type} [Inhabited α] (a : α) (l : List α) (i : Nat) : dget (a :: l) (i + 1) = dget l i := by simp [dget]
theorem dget_mem {α : Type} [Inhabited α] {l : List α} {i : Nat} (h : i < l.length) : dget l i ∈ l := by
  unfold dget; rw [List.getD_eq_getElem?_getD, List.getElem?_eq_getElem h]; simp
def dvals {α : Type} (cel : α → List Value) : List α → List Value
  | [] => []
  | a :: l => cel a ++ dvals cel l
theorem dvals_length {α : Type} {cel : α → List Value} {z : Nat} (hz : ∀ a, (cel a).length = z) : ∀ l : List α, (dvals cel l).length = l.length * z := by
  intro l
  induction l with
  | nil => simp [dvals]
  | cons a l ih => rw [dvals, List.length_append, ih, hz, List.length_cons, Nat.succ_mul, Nat.add_comm]
theorem dvals_get {α : Type} [Inhabited α] {cel : α → List Value} {z : Nat} (hz : ∀ a, (cel a).length = z) : ∀ {l : List α} {i k : Nat} {v : Value}, i < l.length → (cel (dget l i))[k]? = some v → (dvals cel l)[i * z + k]? = some v := by
  intro l
  induction l with
  | nil => intro i k v h; simp at h
  | cons a l ih =>
    intro i k v h hk
    cases i with
    | zero =>
      rw [dget_zero] at hk
      rw [Nat.zero_mul, Nat.zero_add, dvals, List.getElem?_append_left (List.getElem?_eq_some_iff.1 hk).1]
      exact hk
    | succ i =>
      rw [dget_succ] at hk
      rw [dvals, Nat.succ_mul, List.getElem?_append_right (by rw [hz]; omega), hz, show i * z + z + k - z = i * z + k by omega]
      exact ih (by simpa using h) hk
theorem Rd.dcell {α : Type} [Inhabited α] {w : World} {A : Option Addr} {g o n z : Nat} {cel : α → List Value} {l : List α} (hz : ∀ a, (cel a).length = z) (h : Rd w A g o n z (dvals cel l)) {i : Nat} (hi : i < l.length) : ∀ j v, (cel (dget l i))[j]? = some v → w.cell? ⟨g, (o + i * z) + j, none⟩ = some v := fun j v hj => by
  have := h.cell (i * z + j) v (dvals_get hz hi hj)
  rwa [← Nat.add_assoc] at this
theorem Rd.factsD {α : Type} {w : World} {A : Option Addr} {g o n z : Nat} {cel : α → List Value} {l : List α} (hz : ∀ a, (cel a).length = z) (h0 : 0 < z) (h : Rd w A g o n z (dvals cel l)) : (0 < n → A = some ⟨g, o, none⟩) ∧ l.length = n := by
  refine ⟨h.at_, ?_⟩
  have := h.len
  rw [dvals_length hz] at this
  exact Nat.eq_of_mul_eq_mul_right h0 this
theorem dget_map {α : Type} [Inhabited α] {F : Nat → α} {n i : Nat} (h : i < n) : dget ((List.range n).map F) i = F i := by
  simp [dget, List.getD_eq_getElem?_getD, h]
end
/-! ### What lies behind the slices of each -/
def subE (n : Nat) (G : Nat → GenEnt) : GenEnt :=
  { blk := fun k => ∃ i, i < n ∧ (G i).blk k, wr := false, own := false, ok := fun w => ∀ i, i < n → (G i).ok w,
    stable := fun w w' hb h i hi => (G i).stable w w' (fun b hbk => hb b ⟨i, hi, hbk⟩) (h i hi),
    inb := fun w b h hb => by obtain ⟨i, hi, hk⟩ := hb; exact (G i).inb w b (h i hi) hk }
theorem Tab.sub {w0 w : World} {T : List Ent} (hT : Tab w0 w T) {j n : Nat} {G : Nat → GenEnt} (hj : T[j]? = some (.gen (subE n G))) {i : Nat} (hi : i < n) (hw : (G i).wr = false) (ho : (G i).own = false) : Tab w0 w (.gen (G i) :: T) := by
  have hok := hT.ok j _ hj i hi
  refine ⟨hT.os, hT.tape, hT.output, hT.size, ?_, ?_, ?_, ?_⟩
  · intro q e he
    cases q with
    | zero => simp at he; subst he; exact hok
    | succ q => exact hT.ok q e (by simpa using he)
  · intro k hk hne
    exact hT.frame k hk (fun q e he hwr => hne (q + 1) e (by simpa using he) hwr)
  · intro q e he hown
    cases q with
    | zero => simp at he; subst he; exact absurd hown (by show ¬ (G i).own = true; rw [ho]; simp)
    | succ q => exact hT.own q e (by simpa using he) hown
  · intro p q e e' hpq he he' hwr k hk hk'
    cases p with
    | zero =>
      simp at he; subst he
      cases q with
      | zero => exact hpq rfl
      | succ q =>
        have he2 : T[q]? = some e' := by simpa using he'
        have hw' : e'.wr = true := by
          rcases hwr with h | h
          · exact absurd h (by show ¬ (G i).wr = true; rw [hw]; simp)
          · exact h
        have hne : j ≠ q := by
          intro hq; subst hq
          rw [hj] at he2; cases he2; cases hw'
        exact hT.disj j q _ e' hne hj he2 (.inr hw') k ⟨i, hi, hk⟩ hk'
    | succ p =>
      have he2 : T[p]? = some e := by simpa using he
      cases q with
      | zero =>
        simp at he'; subst he'
        have hw' : e.wr = true := by
          rcases hwr with h | h
          · exact h
          · exact absurd h (by show ¬ (G i).wr = true; rw [hw]; simp)
        have hne : p ≠ j := by
          intro hq; subst hq
          rw [hj] at he2; cases he2; cases hw'
        exact hT.disj p j e _ hne he2 hj (.inl hw') k hk ⟨i, hi, hk'⟩
      | succ q => exact hT.disj p q e e' (by omega) he2 (by simpa using he') hwr k hk hk'
theorem Tab.olds {w : World} : ∀ {T : List Ent}, (∀ (i : Nat) (e : Ent), T[i]? = some e → e.ok w ∧ e.own = false ∧ e.wr = false) → Tab w w T := by
  intro T
  induction T with
  | nil => intro _; exact Tab.start w
  | cons e T ih =>
    intro h
    have h0 := h 0 e rfl
    refine Tab.addOld (ih (fun i x hx => h (i + 1) x (by simpa using hx))) e h0.1 h0.2.1 (fun i x hx hw => ?_)
    have h1 := h (i + 1) x (by simpa using hx)
    rcases hw with hw | hw
    · rw [h0.2.2] at hw; cases hw
    · rw [h1.2.2] at hw; cases hw
theorem cont_sub {K : Act → World → Prop} {n : Nat} {w0 : World} {L : List (Nat × Value)} {T : List Ent} (j i m : Nat) (G : Nat → GenEnt) (hj : T[j]? = some (.gen (subE m G))) (hi : i < m) (hw : (G i).wr = false) (ho : (G i).own = false) (h : Cont dfs K n w0 L (.gen (G i) :: T)) : Cont dfs K n w0 L T :=
  fun a w ha hf hT => h a w ha hf (hT.sub hj hi hw ho)
/-- A slice of structs that came in; what each is told by an opening of its own. -/
theorem open_listC {α : Type} [Inhabited α] {cel : α → List Value} {z : Nat} (hz : ∀ a, (cel a).length = z) (hz0 : 0 < z) {good : World → α → Prop} {H : Type} {enc : TypeId × Value → H} {P : Program} {W : World} {ts t : TypeId} {c : Value} {n : Nat} {x : DataW H × List MemPlace} (ht : P.underlying ts = some (.slice t)) (hct : P.cellsOf t = z)
    (hone : ∀ (cs : List Value) (n : Nat) (x : DataW H × List MemPlace), cs.length = z → DataW.trod enc P W 0 (fun _ => true) true n t cs = some x → ∃ a : α, cs = cel a ∧ good W a)
    (h : DataW.trod enc P W 0 (fun _ => true) true n ts [c] = some x) :
    ∃ (A : Option Addr) (g o n cap : Nat) (l : List α), c = .slice A n cap ∧ Rd W A g o n z (dvals cel l) ∧ l.length = n ∧ n ≤ cap ∧ cap ≤ maxLen ∧ (∀ a ∈ l, good W a) := by
  rcases open_slice ht h with ⟨e, _⟩ | ⟨a, len, cap, m, k, D, Pl, e, _, hle, hm, hmm, _, hx⟩
  · simp only [List.cons.injEq, and_true] at e
    exact ⟨none, 0, 0, 0, 0, [], e, ⟨by simp [dvals], fun h => by omega, fun j v hj => by simp [dvals] at hj⟩, rfl, Nat.le_refl _, by unfold maxLen; omega, fun x hx => by cases hx⟩
  · simp only [List.cons.injEq, and_true] at e
    simp only [if_true] at hmm
    have each : ∀ i, i < len → ∃ r : α, (∀ j v, (cel r)[j]? = some v → W.cell? ((a.add (i * z)).add j) = some v) ∧ good W r := by
      intro i hil
      obtain ⟨cs', g1, g2⟩ := hx i (by omega)
      rw [hct] at g1
      obtain ⟨_, hlen, hcell⟩ := World.cells?_some g1
      obtain ⟨r, rfl, hr⟩ := hone _ _ _ (by simpa using hlen) g2
      refine ⟨r, fun j v hj => ?_, hr⟩
      have hjl := (List.getElem?_eq_some_iff.1 hj).1
      have := hcell j (by rw [hz] at hjl; simpa using hjl)
      rw [this]
      simpa using hj
    have hF : ∃ F : Nat → α, ∀ i, i < len → (∀ j v, (cel (F i))[j]? = some v → W.cell? ((a.add (i * z)).add j) = some v) ∧ good W (F i) :=
      ⟨fun i => if h : i < len then Classical.choose (each i h) else default, fun i h => by simp only [dif_pos h]; exact Classical.choose_spec (each i h)⟩
    obtain ⟨F, hF⟩ := hF
    have hsp : 0 < len → a.spot = none := fun hp => by
      have h0 : 0 < (cel (F 0)).length := by rw [hz]; exact hz0
      have := (hF 0 hp).1 0 _ (List.getElem?_eq_getElem h0)
      have z' : (a.add (0 * z)).add 0 = a := by simp [Addr.add]
      rw [z'] at this
      exact spot_of_cell this
    refine ⟨some a, a.block, a.off, len, cap, (List.range len).map F, e, ⟨by rw [dvals_length hz]; simp, fun hp => ?_, fun j v hj => ?_⟩, by simp, hle, hm, fun r hr => ?_⟩
    · have := hsp hp
      cases a with
      | mk b o s => simp only at this; subst this; rfl
    · have hjl := (List.getElem?_eq_some_iff.1 hj).1
      rw [dvals_length hz, List.length_map, List.length_range] at hjl
      have hq : j / z < len := Nat.div_lt_of_lt_mul (by rwa [Nat.mul_comm])
      have hr : j % z < z := Nat.mod_lt _ hz0
      have hk := List.getElem?_eq_getElem (l := cel (F (j / z))) (i := j % z) (by rw [hz]; exact hr)
      have h2 := dvals_get hz (l := (List.range len).map F) (i := j / z) (k := j % z) (by simpa using hq) (by rw [dget_map hq]; exact hk)
      rw [show j / z * z + j % z = j by rw [Nat.mul_comm]; exact Nat.div_add_mod j z, hj] at h2
      have h3 := (hF _ hq).1 (j % z) v (by rw [hk]; exact h2.symm)
      have hs2 := hsp (Nat.lt_of_le_of_lt (Nat.zero_le _) hq)
      rw [addr_split hs2, addr_split rfl] at h3
      simp only at h3
      rw [show a.off + j / z * z + j % z = a.off + j by rw [Nat.add_assoc, Nat.mul_comm, Nat.div_add_mod]] at h3
      exact h3
    · obtain ⟨i, hi, rfl⟩ := List.mem_map.1 hr
      exact (hF i (List.mem_range.1 hi)).2
theorem open_list {α : Type} [Inhabited α] {cel : α → List Value} {z : Nat} (hz : ∀ a, (cel a).length = z) (hz0 : 0 < z) {good : World → α → Prop} {H : Type} {enc : TypeId × Value → H} {P : Program} {W : World} {ts t : TypeId} {v : Value} {d : DataW H} {ps : List MemPlace} (ht : P.underlying ts = some (.slice t)) (hct : P.cellsOf t = z)
    (hone : ∀ (cs : List Value) (n : Nat) (x : DataW H × List MemPlace), cs.length = z → DataW.trod enc P W 0 (fun _ => true) true n t cs = some x → ∃ a : α, cs = cel a ∧ good W a)
    (hval : Value.okWide P W .any 0 ts v) (h : DataW.Trod enc P W 0 (fun _ => true) true ts v d ps) :
    ∃ (A : Option Addr) (g o n cap : Nat) (l : List α), v = .slice A n cap ∧ Rd W A g o n z (dvals cel l) ∧ l.length = n ∧ n ≤ cap ∧ cap ≤ maxLen ∧ (∀ a ∈ l, good W a) := by
  obtain ⟨a, len, cap, rfl⟩ := okWide_slice ht hval
  obtain ⟨fuel, hf⟩ := h
  exact open_listC hz hz0 ht hct hone hf
end Go.Proofs.Ytommojgfkkoghaa

