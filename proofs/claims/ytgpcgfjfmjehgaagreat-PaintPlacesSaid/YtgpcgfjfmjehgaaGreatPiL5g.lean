/- Contracts of functions of the given program, printed by a program of this project. -/
import Derived.Test.YtgpcgfjfmjehgaaGreatPiL5f
import Derived.Test.YtgpcgfjfmjehgaaGreatPiDz
import Derived.Test.YtgpcgfjfmjehgaaGreatProg
set_option linter.unusedVariables false
set_option linter.unusedSimpArgs false
namespace Go.Proofs.YtgpcgfjfmjehgaaGreat
open Go Go.RowKit
set_option maxRecDepth 100000
set_option maxHeartbeats 8000000

theorem refPlaceF5 (W H : Int) (r n cap : Nat) (px : List Int) (X Y s al ca cb cc cd : Int) (Az : Option Addr) (gz oz nz capz : Nat) (xsz : List Rect) (w : World) (hT0 : Tab w w [.gen (rdE (some ⟨r, 0, none⟩) r 0 n 1 (ivals .u32 px)), .gen (rdE (Az) gz oz nz 4 (rvals xsz))]) (hok : ImgOk W H n px) (hs : 1 ≤ s ∧ s ≤ 8) (hX : -1000000 ≤ X ∧ X ≤ 1000000) (hY : -1000000 ≤ Y ∧ Y ≤ 1000000) (hnz : nz ≤ 200000) :
    Calls Tryz.prog 18 #[.agg #[.bool true, .int .i64 W, .int .i64 H, .slice (some ⟨r, 0, none⟩) n cap, .int .i64 X, .int .i64 Y, .int .i64 s, .int .i64 al, .int .i64 ca, .int .i64 cb, .int .i64 cc, .int .i64 cd], .slice Az nz capz, .bool false] w fun e w' => ∃ (A_ : Option Addr) (g_ k_ cp_ : Nat), e = .returned (.slice A_ k_ cp_) ∧ Tab w w' [.gen (rowE (A_) g_ k_ cp_ 28 4 (rvals (canR (plcL W X Y s (plcB ca cb cc cd xsz) n))) true)] := by
 have hw1 := hok.w1
 have hw2 := hok.w2
 have hh1 := hok.h1
 have hh2 := hok.h2
 have hnum := hok.num
 have hlen := hok.len
 have hle := hok.le
 obtain ⟨hraz, hrlz⟩ := Rd.factsR (hT0.ok 1 _ rfl)
 refine enter 103 [(0, .agg #[.bool true, iq W, iq H, .slice (pB r) n cap, iq X, iq Y, iq s, iq al, iq ca, iq cb, iq cc, iq cd]), (1, .slice Az nz capz), (2, .bool false)] [.gen (rdE (pB r) r 0 n 1 (ivals .u32 px)), .gen (rdE (Az) gz oz nz 4 (rvals xsz))] Tryz.func18 rfl Tryz.ntmps18 rfl (by kernel_rfl) hT0 ?_
 refine cont_seq ?_
 refine cont_region 2 rfl ?_
 refine batch1 [0, 0] 2 0 (fun b1 => [(1, .slice Az nz capz), (2, .bool false), (3, .pointer (pB b1))]) (fun b1 => [.cells b1 [.bool true, iq W, iq H, .slice (pB r) n cap, iq X, iq Y, iq s, iq al, iq ca, iq cb, iq cc, iq cd] 30 true, .gen (rdE (pB r) r 0 n 1 (ivals .u32 px)), .gen (rdE (Az) gz oz nz 4 (rvals xsz))]) rfl rfl [1, 2, 3] (fun _ => rfl) (fun b1 => by kernel_rfl) (fun b1 => by kernel_rfl) (fun b1 => ?_)
 refine cont_done ?_
 refine then_normal ?_
 refine cont_seq ?_
 refine cont_region 1 rfl ?_
 refine bS [0] 1 0 [(1, .slice Az nz capz), (2, .bool false), (3, .pointer (pB b1)), (7, .slice none 0 0)] ?_
 refine cont_done ?_
 refine then_normal ?_
 refine cont_seq ?_
 refine cont_seq ?_
 refine cont_region 1 rfl ?_
 refine bS [0] 1 0 [(1, .slice Az nz capz), (2, .bool false), (3, .pointer (pB b1)), (7, .slice none 0 0), (8, iq 0)] ?_
 refine cont_done ?_
 refine then_normal ?_
 refine cont_block ?_
 refine cont_nilrow 28 4 ?_
 refine cont_norm [(1, .slice Az nz capz), (2, .bool false), (3, .pointer (pB b1)), (7, .slice none 0 0), (8, iq 0)] _ (by kernel_rfl) rfl ?_
 refine cont_rowEqR 0 ([]) (plcL W X Y s (plcB ca cb cc cd xsz) 0) rfl ((plcL_zero _ _ _ _ _).symm) ?_
 refine cont_loop (α := Nat × Option Addr × Nat × Nat × Nat) (fun x_ : Nat × Option Addr × Nat × Nat × Nat => x_.1 ≤ n) (fun x_ : Nat × Option Addr × Nat × Nat × Nat => [(1, .slice Az nz capz), (2, .bool false), (3, .pointer (pB b1)), (7, .slice x_.2.1 x_.2.2.2.1 x_.2.2.2.2), (8, iq ((x_.1 : Nat) : Int))]) (fun x_ : Nat × Option Addr × Nat × Nat × Nat => [.gen (rowE (x_.2.1) x_.2.2.1 x_.2.2.2.1 x_.2.2.2.2 28 4 (rvals (plcL W X Y s (plcB ca cb cc cd xsz) x_.1)) true), .cells b1 [.bool true, iq W, iq H, .slice (pB r) n cap, iq X, iq Y, iq s, iq al, iq ca, iq cb, iq cc, iq cd] 30 true, .gen (rdE (pB r) r 0 n 1 (ivals .u32 px)), .gen (rdE (Az) gz oz nz 4 (rvals xsz))]) (fun x_ : Nat × Option Addr × Nat × Nat × Nat => n - x_.1) (0, none, 0, 0, 0) (show (0) ≤ n from (by omega)) (by kernel_rfl) (by kernel_rfl) ?_
 rintro ⟨i, A, g, k, cp⟩ hinv3_
 replace hinv3_ : i ≤ n := hinv3_
 refine cont_norm [(1, .slice Az nz capz), (2, .bool false), (3, .pointer (pB b1)), (7, .slice A k cp), (8, iq ((i : Nat) : Int))] _ (by kernel_rfl) rfl ?_
 have hi := hinv3_
 have hem := emod_range i hw1
 have hpl := plcL_len W X Y s (plcB ca cb cc cd xsz) i
 have hbx : i < n → _ := fun h_ => box_bd (W := W) (H := H) (i := i) ⟨hw1, hw2⟩ ⟨hh1, hh2⟩ hnum h_
 have hge : i < n → InC (px.getD i 0) := fun h_ => hok.get h_
 refine cont_seq ?_
 refine cont_seq ?_
 refine cont_region 6 rfl ?_
 refine bS [0, 0, 0, 1, 0, 0] 6 0 [(1, .slice Az nz capz), (2, .bool false), (3, .pointer (pB b1)), (7, .slice A k cp), (8, iq ((i : Nat) : Int)), (17, .bool (decide (((i : Nat) : Int) < (n : Int))))] ?_
 refine cont_done ?_
 refine then_normal ?_
 refine cont_split 17 (decide (((i : Nat) : Int) < (n : Int))) rfl (fun c4_ => ?_) (fun c4_ => ?_)
 ·
  replace c4_ := of_decide_eq_true c4_
  refine cont_true rfl ?_
  refine cont_skip ?_
  refine then_normal ?_
  refine cont_seq ?_
  refine cont_block ?_
  refine cont_seq ?_
  refine cont_region 6 rfl ?_
  refine bS [0, 0, 0, 1] 4 2 [(1, .slice Az nz capz), (2, .bool false), (3, .pointer (pB b1)), (7, .slice A k cp), (8, iq ((i : Nat) : Int)), (20, iq ((i : Nat) : Int)), (23, iq W)] ?_
  refine pl_step 5 1 rfl rfl ?_
  refine sem_step 24 (bopS .rem 3 (.tmp 20) (.tmp 23) (iq ((i : Nat) : Int)) (iq W)) (iq (((i : Nat) : Int).tmod W)) (by kernel_rfl) (fun w hT => run_rem (by omega) w) ?_
  refine cont_recast 24 (iq (((i : Nat) : Int).tmod W)) (iq (((i : Nat) : Int) % W)) rfl (tmodI (by omega)) ?_
  refine bS [0] 6 0 [(1, .slice Az nz capz), (2, .bool false), (3, .pointer (pB b1)), (7, .slice A k cp), (8, iq ((i : Nat) : Int)), (9, iq (((i : Nat) : Int) % W))] ?_
  refine cont_done ?_
  refine then_normal ?_
  refine cont_seq ?_
  refine cont_region 6 rfl ?_
  refine bS [0, 0, 0, 1] 4 2 [(1, .slice Az nz capz), (2, .bool false), (3, .pointer (pB b1)), (7, .slice A k cp), (8, iq ((i : Nat) : Int)), (9, iq (((i : Nat) : Int) % W)), (25, iq ((i : Nat) : Int)), (28, iq W)] ?_
  refine pl_step 5 1 rfl rfl ?_
  refine sem_step 29 (bopS .quo 3 (.tmp 25) (.tmp 28) (iq ((i : Nat) : Int)) (iq W)) (iq (IntKind.i64.wrap (((i : Nat) : Int).tdiv W))) (by kernel_rfl) (fun w hT => run_quo (by omega) w) ?_
  refine cont_recast 29 (iq (IntKind.i64.wrap (((i : Nat) : Int).tdiv W))) (iq (((i : Nat) : Int) / W)) rfl (tdivI (by omega) (by omega) (by omega)) ?_
  refine bS [0] 6 0 [(1, .slice Az nz capz), (2, .bool false), (3, .pointer (pB b1)), (7, .slice A k cp), (8, iq ((i : Nat) : Int)), (9, iq (((i : Nat) : Int) % W)), (10, iq (((i : Nat) : Int) / W))] ?_
  refine cont_done ?_
  refine then_normal ?_
  refine cont_seq ?_
  refine cont_region 9 rfl ?_
  refine bS [0, 0, 1, 0] 4 5 [(1, .slice Az nz capz), (2, .bool false), (3, .pointer (pB b1)), (7, .slice A k cp), (8, iq ((i : Nat) : Int)), (9, iq (((i : Nat) : Int) % W)), (10, iq (((i : Nat) : Int) / W)), (32, .slice (pB r) n cap), (33, iq ((i : Nat) : Int))] ?_
  refine pl_step 5 4 rfl rfl ?_
  refine sem_step 34 (Instr.indexAt 22 (.slice (pB r) n cap) (iq ((i : Nat) : Int))) (.pointer (some ⟨r, (i : Nat), none⟩)) (by kernel_rfl) (fun w hT => run_indexAt (e := 35) (sz := 1) _ (by kernel_rfl) (by kernel_rfl) (by omega) (by omega) (by omega) w) ?_
  refine pl_step 6 3 rfl rfl ?_
  refine sem_step 35 (Instr.loadAt 35 (.pointer (some ⟨r, (i : Nat), none⟩))) (.int .u32 (px.getD (i : Nat) 0)) (by kernel_rfl) (fun w hT => run_load1 (by kernel_rfl) (Rd.cell0 (hT.ok 2 _ rfl) ((i : Nat)) _ (ivals_get (by omega)))) ?_
  obtain ⟨hge0, hge1⟩ := hge (by omega)
  refine pl_step 7 2 rfl rfl ?_
  refine call_pure (d := 36) (.agg #[iq (pa (px.getD (i : Nat) 0)), iq (pr (px.getD (i : Nat) 0)), iq (pg (px.getD (i : Nat) 0)), iq (pb (px.getD (i : Nat) 0))]) (by kernel_rfl) (fun w hT => refParts (px.getD (i : Nat) 0) w (by omega) (by omega)) ?_
  refine batch1 [0, 0] 9 0 (fun b5 => [(1, .slice Az nz capz), (2, .bool false), (3, .pointer (pB b1)), (7, .slice A k cp), (8, iq ((i : Nat) : Int)), (9, iq (((i : Nat) : Int) % W)), (10, iq (((i : Nat) : Int) / W)), (11, .pointer (pB b5))]) (fun b5 => [.cells b5 [iq (pa (px.getD (i : Nat) 0)), iq (pr (px.getD (i : Nat) 0)), iq (pg (px.getD (i : Nat) 0)), iq (pb (px.getD (i : Nat) 0))] 85 true, .gen (rowE (A) g k cp 28 4 (rvals (plcL W X Y s (plcB ca cb cc cd xsz) i)) true), .cells b1 [.bool true, iq W, iq H, .slice (pB r) n cap, iq X, iq Y, iq s, iq al, iq ca, iq cb, iq cc, iq cd] 30 true, .gen (rdE (pB r) r 0 n 1 (ivals .u32 px)), .gen (rdE (Az) gz oz nz 4 (rvals xsz))]) rfl rfl [1, 2, 3, 7, 8, 9, 10, 11] (fun _ => rfl) (fun b5 => by kernel_rfl) (fun b5 => by kernel_rfl) (fun b5 => ?_)
  refine cont_done ?_
  refine then_normal ?_
  refine cont_seq ?_
  refine cont_seq ?_
  refine cont_region 11 rfl ?_
  refine bS [0, 0, 0, 0, 0, 0, 0, 0, 0, 0, 0] 11 0 [(1, .slice Az nz capz), (2, .bool false), (3, .pointer (pB b1)), (7, .slice A k cp), (8, iq ((i : Nat) : Int)), (9, iq (((i : Nat) : Int) % W)), (10, iq (((i : Nat) : Int) / W)), (39, undef), (40, undef), (41, undef), (42, undef), (43, undef), (44, undef), (45, undef), (46, undef), (47, .bool false)] ?_
  refine cont_forget 0 rfl ?_
  refine cont_done ?_
  refine then_normal ?_
  refine cont_false rfl ?_
  refine cont_skip ?_
  refine then_normal ?_
  refine cont_seq ?_
  refine cont_region 11 rfl ?_
  refine bS [0, 1, 0, 0] 4 7 [(1, .slice Az nz capz), (2, .bool false), (3, .pointer (pB b1)), (7, .slice A k cp), (8, iq ((i : Nat) : Int)), (9, iq (((i : Nat) : Int) % W)), (10, iq (((i : Nat) : Int) / W)), (39, undef), (40, undef), (41, undef), (42, undef), (43, undef), (44, undef), (45, undef), (46, undef), (49, .agg #[iq ca, iq cb, iq cc, iq cd]), (50, iq (((i : Nat) : Int) % W)), (51, iq (((i : Nat) : Int) / W))] ?_
  refine pl_step 5 6 rfl rfl ?_
  refine call_pure (d := 52) (.bool (hasB ca cb cc cd (((i : Nat) : Int) % W) (((i : Nat) : Int) / W))) (by kernel_rfl) (fun w hT => refHas ca cb cc cd (((i : Nat) : Int) % W) (((i : Nat) : Int) / W) w) ?_
  refine bS [0] 6 5 [(1, .slice Az nz capz), (2, .bool false), (3, .pointer (pB b1)), (7, .slice A k cp), (8, iq ((i : Nat) : Int)), (9, iq (((i : Nat) : Int) % W)), (10, iq (((i : Nat) : Int) / W)), (39, undef), (40, undef), (41, undef), (42, undef), (43, undef), (44, undef), (45, undef), (46, undef), (53, .bool (hasB ca cb cc cd (((i : Nat) : Int) % W) (((i : Nat) : Int) / W)))] ?_
  refine cont_split 53 (hasB ca cb cc cd (((i : Nat) : Int) % W) (((i : Nat) : Int) / W)) rfl (fun c6_ => ?_) (fun c6_ => ?_)
  ·
   refine bS [0, 0, 0] 9 2 [(1, .slice Az nz capz), (2, .bool false), (3, .pointer (pB b1)), (7, .slice A k cp), (8, iq ((i : Nat) : Int)), (9, iq (((i : Nat) : Int) % W)), (10, iq (((i : Nat) : Int) / W)), (39, undef), (40, undef), (41, undef), (42, undef), (43, undef), (44, undef), (45, undef), (46, undef), (53, .bool true), (54, .slice Az nz capz), (55, iq (((i : Nat) : Int) % W)), (56, iq (((i : Nat) : Int) / W))] ?_
   refine pl_step 10 1 rfl rfl ?_
   refine call_pure (d := 57) (.bool (hasL xsz (((i : Nat) : Int) % W) (((i : Nat) : Int) / W))) (by kernel_rfl) (fun w hT => refHasL Az gz oz nz capz xsz (((i : Nat) : Int) % W) (((i : Nat) : Int) / W) w (hT.viewRo (.cons (i := 3) rfl Vw.rd .nil) rfl) (by omega)) ?_
   refine bS [0] 11 0 [(1, .slice Az nz capz), (2, .bool false), (3, .pointer (pB b1)), (7, .slice A k cp), (8, iq ((i : Nat) : Int)), (9, iq (((i : Nat) : Int) % W)), (10, iq (((i : Nat) : Int) / W)), (39, undef), (40, undef), (41, undef), (42, undef), (43, undef), (44, undef), (45, undef), (46, undef), (54, .slice Az nz capz), (55, iq (((i : Nat) : Int) % W)), (56, iq (((i : Nat) : Int) / W)), (57, .bool (hasL xsz (((i : Nat) : Int) % W) (((i : Nat) : Int) / W))), (58, .bool (hasL xsz (((i : Nat) : Int) % W) (((i : Nat) : Int) / W)))] ?_
   refine cont_done ?_
   refine then_normal ?_
   refine cont_split 58 (hasL xsz (((i : Nat) : Int) % W) (((i : Nat) : Int) / W)) rfl (fun c7_ => ?_) (fun c7_ => ?_)
   ·
    refine cont_recast 57 (.bool (hasL xsz (((i : Nat) : Int) % W) (((i : Nat) : Int) / W))) (.bool true) rfl (congrArg Value.bool c7_) ?_
    have hB_ : (plcB ca cb cc cd xsz) ((i : Int) % W) ((i : Int) / W) = true := plcB_yes c6_ c7_
    refine cont_true rfl ?_
    refine cont_region 43 rfl ?_
    refine cont_fact (F := (0 < k → (A : Option Addr) = pB g) ∧ (plcL W X Y s (plcB ca cb cc cd xsz) i).length = k ∧ k ≤ cp ∧ cp ≤ maxLen) (fun w hT => Row.factsR (hT.ok 0 _ rfl)) (fun hr8_ => ?_)
    obtain ⟨hr8_a, hr8_l, hr8_c, hr8_m⟩ := hr8_
    unfold maxLen at hr8_m
    obtain ⟨hb0, hb1, hb2, hb3⟩ := hbx (by omega)
    have hcx := cell_bd hb0 hb1 hs
    have hcy := cell_bd hb2 hb3 hs
    refine bS [0, 0, 0, 1, 0, 0, 1, 0] 8 35 [(1, .slice Az nz capz), (2, .bool false), (3, .pointer (pB b1)), (8, iq ((i : Nat) : Int)), (9, iq (((i : Nat) : Int) % W)), (10, iq (((i : Nat) : Int) / W)), (39, undef), (40, undef), (41, undef), (42, undef), (43, undef), (44, undef), (45, undef), (46, undef), (54, .slice Az nz capz), (55, iq (((i : Nat) : Int) % W)), (56, iq (((i : Nat) : Int) / W)), (57, .bool true), (59, .slice A k cp), (62, iq X), (66, iq (IntKind.i64.wrap ((((i : Nat) : Int) % W) * s)))] ?_
    refine cont_recast 66 (iq (IntKind.i64.wrap ((((i : Nat) : Int) % W) * s))) (iq ((((i : Nat) : Int) % W) * s)) rfl (wrapI (by omega) (by omega)) ?_
    refine bS [0] 9 34 [(1, .slice Az nz capz), (2, .bool false), (3, .pointer (pB b1)), (8, iq ((i : Nat) : Int)), (9, iq (((i : Nat) : Int) % W)), (10, iq (((i : Nat) : Int) / W)), (39, undef), (40, undef), (41, undef), (42, undef), (43, undef), (44, undef), (45, undef), (46, undef), (54, .slice Az nz capz), (55, iq (((i : Nat) : Int) % W)), (56, iq (((i : Nat) : Int) / W)), (57, .bool true), (59, .slice A k cp), (67, iq (IntKind.i64.wrap (X + ((((i : Nat) : Int) % W) * s))))] ?_
    refine cont_recast 67 (iq (IntKind.i64.wrap (X + ((((i : Nat) : Int) % W) * s)))) (iq (X + ((((i : Nat) : Int) % W) * s))) rfl (wrapI (by omega) (by omega)) ?_
    refine bS [0, 0, 1, 0, 0, 1, 0] 16 27 [(1, .slice Az nz capz), (2, .bool false), (3, .pointer (pB b1)), (8, iq ((i : Nat) : Int)), (9, iq (((i : Nat) : Int) % W)), (10, iq (((i : Nat) : Int) / W)), (39, undef), (40, undef), (41, undef), (42, undef), (43, undef), (44, undef), (45, undef), (46, undef), (54, .slice Az nz capz), (55, iq (((i : Nat) : Int) % W)), (56, iq (((i : Nat) : Int) / W)), (57, .bool true), (59, .slice A k cp), (67, iq (X + ((((i : Nat) : Int) % W) * s))), (70, iq Y), (74, iq (IntKind.i64.wrap ((((i : Nat) : Int) / W) * s)))] ?_
    refine cont_recast 74 (iq (IntKind.i64.wrap ((((i : Nat) : Int) / W) * s))) (iq ((((i : Nat) : Int) / W) * s)) rfl (wrapI (by omega) (by omega)) ?_
    refine bS [0] 17 26 [(1, .slice Az nz capz), (2, .bool false), (3, .pointer (pB b1)), (8, iq ((i : Nat) : Int)), (9, iq (((i : Nat) : Int) % W)), (10, iq (((i : Nat) : Int) / W)), (39, undef), (40, undef), (41, undef), (42, undef), (43, undef), (44, undef), (45, undef), (46, undef), (54, .slice Az nz capz), (55, iq (((i : Nat) : Int) % W)), (56, iq (((i : Nat) : Int) / W)), (57, .bool true), (59, .slice A k cp), (67, iq (X + ((((i : Nat) : Int) % W) * s))), (75, iq (IntKind.i64.wrap (Y + ((((i : Nat) : Int) / W) * s))))] ?_
    refine cont_recast 75 (iq (IntKind.i64.wrap (Y + ((((i : Nat) : Int) / W) * s)))) (iq (Y + ((((i : Nat) : Int) / W) * s))) rfl (wrapI (by omega) (by omega)) ?_
    refine bS [0, 0, 1, 0, 0, 1, 0] 24 19 [(1, .slice Az nz capz), (2, .bool false), (3, .pointer (pB b1)), (8, iq ((i : Nat) : Int)), (10, iq (((i : Nat) : Int) / W)), (39, undef), (40, undef), (41, undef), (42, undef), (43, undef), (44, undef), (45, undef), (46, undef), (54, .slice Az nz capz), (55, iq (((i : Nat) : Int) % W)), (56, iq (((i : Nat) : Int) / W)), (57, .bool true), (59, .slice A k cp), (67, iq (X + ((((i : Nat) : Int) % W) * s))), (75, iq (Y + ((((i : Nat) : Int) / W) * s))), (78, iq X), (82, iq (IntKind.i64.wrap ((((i : Nat) : Int) % W) * s)))] ?_
    refine cont_recast 82 (iq (IntKind.i64.wrap ((((i : Nat) : Int) % W) * s))) (iq ((((i : Nat) : Int) % W) * s)) rfl (wrapI (by omega) (by omega)) ?_
    refine bS [0] 25 18 [(1, .slice Az nz capz), (2, .bool false), (3, .pointer (pB b1)), (8, iq ((i : Nat) : Int)), (10, iq (((i : Nat) : Int) / W)), (39, undef), (40, undef), (41, undef), (42, undef), (43, undef), (44, undef), (45, undef), (46, undef), (54, .slice Az nz capz), (55, iq (((i : Nat) : Int) % W)), (56, iq (((i : Nat) : Int) / W)), (57, .bool true), (59, .slice A k cp), (67, iq (X + ((((i : Nat) : Int) % W) * s))), (75, iq (Y + ((((i : Nat) : Int) / W) * s))), (83, iq (IntKind.i64.wrap (X + ((((i : Nat) : Int) % W) * s))))] ?_
    refine cont_recast 83 (iq (IntKind.i64.wrap (X + ((((i : Nat) : Int) % W) * s)))) (iq (X + ((((i : Nat) : Int) % W) * s))) rfl (wrapI (by omega) (by omega)) ?_
    refine bS [0, 1, 0] 28 15 [(1, .slice Az nz capz), (2, .bool false), (3, .pointer (pB b1)), (8, iq ((i : Nat) : Int)), (10, iq (((i : Nat) : Int) / W)), (39, undef), (40, undef), (41, undef), (42, undef), (43, undef), (44, undef), (45, undef), (46, undef), (54, .slice Az nz capz), (55, iq (((i : Nat) : Int) % W)), (56, iq (((i : Nat) : Int) / W)), (57, .bool true), (59, .slice A k cp), (67, iq (X + ((((i : Nat) : Int) % W) * s))), (75, iq (Y + ((((i : Nat) : Int) / W) * s))), (86, iq (IntKind.i64.wrap ((X + ((((i : Nat) : Int) % W) * s)) + s)))] ?_
    refine cont_recast 86 (iq (IntKind.i64.wrap ((X + ((((i : Nat) : Int) % W) * s)) + s))) (iq ((X + ((((i : Nat) : Int) % W) * s)) + s)) rfl (wrapI (by omega) (by omega)) ?_
    refine bS [0, 0, 1, 0, 0, 1, 0] 35 8 [(1, .slice Az nz capz), (2, .bool false), (3, .pointer (pB b1)), (8, iq ((i : Nat) : Int)), (39, undef), (40, undef), (41, undef), (42, undef), (43, undef), (44, undef), (45, undef), (46, undef), (54, .slice Az nz capz), (55, iq (((i : Nat) : Int) % W)), (56, iq (((i : Nat) : Int) / W)), (57, .bool true), (59, .slice A k cp), (67, iq (X + ((((i : Nat) : Int) % W) * s))), (75, iq (Y + ((((i : Nat) : Int) / W) * s))), (86, iq ((X + ((((i : Nat) : Int) % W) * s)) + s)), (89, iq Y), (93, iq (IntKind.i64.wrap ((((i : Nat) : Int) / W) * s)))] ?_
    refine cont_recast 93 (iq (IntKind.i64.wrap ((((i : Nat) : Int) / W) * s))) (iq ((((i : Nat) : Int) / W) * s)) rfl (wrapI (by omega) (by omega)) ?_
    refine bS [0] 36 7 [(1, .slice Az nz capz), (2, .bool false), (3, .pointer (pB b1)), (8, iq ((i : Nat) : Int)), (39, undef), (40, undef), (41, undef), (42, undef), (43, undef), (44, undef), (45, undef), (46, undef), (54, .slice Az nz capz), (55, iq (((i : Nat) : Int) % W)), (56, iq (((i : Nat) : Int) / W)), (57, .bool true), (59, .slice A k cp), (67, iq (X + ((((i : Nat) : Int) % W) * s))), (75, iq (Y + ((((i : Nat) : Int) / W) * s))), (86, iq ((X + ((((i : Nat) : Int) % W) * s)) + s)), (94, iq (IntKind.i64.wrap (Y + ((((i : Nat) : Int) / W) * s))))] ?_
    refine cont_recast 94 (iq (IntKind.i64.wrap (Y + ((((i : Nat) : Int) / W) * s)))) (iq (Y + ((((i : Nat) : Int) / W) * s))) rfl (wrapI (by omega) (by omega)) ?_
    refine bS [0, 1, 0] 39 4 [(1, .slice Az nz capz), (2, .bool false), (3, .pointer (pB b1)), (8, iq ((i : Nat) : Int)), (39, undef), (40, undef), (41, undef), (42, undef), (43, undef), (44, undef), (45, undef), (46, undef), (54, .slice Az nz capz), (55, iq (((i : Nat) : Int) % W)), (56, iq (((i : Nat) : Int) / W)), (57, .bool true), (59, .slice A k cp), (67, iq (X + ((((i : Nat) : Int) % W) * s))), (75, iq (Y + ((((i : Nat) : Int) / W) * s))), (86, iq ((X + ((((i : Nat) : Int) % W) * s)) + s)), (97, iq (IntKind.i64.wrap ((Y + ((((i : Nat) : Int) / W) * s)) + s)))] ?_
    refine cont_recast 97 (iq (IntKind.i64.wrap ((Y + ((((i : Nat) : Int) / W) * s)) + s))) (iq ((Y + ((((i : Nat) : Int) / W) * s)) + s)) rfl (wrapI (by omega) (by omega)) ?_
    refine batch1 [0, 0] 41 2 (fun b9 => [(1, .slice Az nz capz), (2, .bool false), (3, .pointer (pB b1)), (8, iq ((i : Nat) : Int)), (39, undef), (40, undef), (41, undef), (42, undef), (43, undef), (44, undef), (45, undef), (46, undef), (54, .slice Az nz capz), (55, iq (((i : Nat) : Int) % W)), (56, iq (((i : Nat) : Int) / W)), (57, .bool true), (59, .slice A k cp), (99, .slice (pB b9) 1 1)]) (fun b9 => [.cells b9 [iq (X + ((((i : Nat) : Int) % W) * s)), iq (Y + ((((i : Nat) : Int) / W) * s)), iq ((X + ((((i : Nat) : Int) % W) * s)) + s), iq ((Y + ((((i : Nat) : Int) / W) * s)) + s)] 28 true, .gen (rowE (A) g k cp 28 4 (rvals (plcL W X Y s (plcB ca cb cc cd xsz) i)) true), .cells b1 [.bool true, iq W, iq H, .slice (pB r) n cap, iq X, iq Y, iq s, iq al, iq ca, iq cb, iq cc, iq cd] 30 true, .gen (rdE (pB r) r 0 n 1 (ivals .u32 px)), .gen (rdE (Az) gz oz nz 4 (rvals xsz))]) rfl rfl [1, 2, 3, 8, 39, 40, 41, 42, 43, 44, 45, 46, 54, 55, 56, 57, 59, 99] (fun _ => rfl) (fun b9 => by kernel_rfl) (fun b9 => by kernel_rfl) (fun b9 => ?_)
    refine pl_step 42 1 rfl rfl ?_
    refine sem_stepW (α := Option Addr × Nat × Nat) 100 (Builtin.append_ #[33, 33] 33 #[.slice A k cp, .slice (pB b9) 1 1]) (fun x_ => .slice x_.1 (k + 1) x_.2.2) (fun x_ => [.cells b9 [iq (X + ((((i : Nat) : Int) % W) * s)), iq (Y + ((((i : Nat) : Int) / W) * s)), iq ((X + ((((i : Nat) : Int) % W) * s)) + s), iq ((Y + ((((i : Nat) : Int) / W) * s)) + s)] 28 true, .gen (rowE (x_.1) x_.2.1 (k + 1) x_.2.2 28 4 (rvals ((plcL W X Y s (plcB ca cb cc cd xsz) i) ++ [(⟨X + ((((i : Nat) : Int) % W) * s), Y + ((((i : Nat) : Int) / W) * s), (X + ((((i : Nat) : Int) % W) * s)) + s, (Y + ((((i : Nat) : Int) / W) * s)) + s⟩ : Rect)])) true), .cells b1 [.bool true, iq W, iq H, .slice (pB r) n cap, iq X, iq Y, iq s, iq al, iq ca, iq cb, iq cc, iq cd] 30 true, .gen (rdE (pB r) r 0 n 1 (ivals .u32 px)), .gen (rdE (Az) gz oz nz 4 (rvals xsz))]) (fun _ => True) (by kernel_rfl) (fun w hT => append_own (n' := (k + 1)) (z := .agg #[iq 0, iq 0, iq 0, iq 0]) hT (i := 1) (bytes := 32) rfl (by kernel_rfl) (by kernel_rfl) rfl (by decide) (by decide) (Rd.ofCells (vals := rvals [(⟨X + ((((i : Nat) : Int) % W) * s), Y + ((((i : Nat) : Int) / W) * s), (X + ((((i : Nat) : Int) % W) * s)) + s, (Y + ((((i : Nat) : Int) / W) * s)) + s⟩ : Rect)]) (hT.ok 0 _ rfl) rfl rfl) (rvals_one [(⟨X + ((((i : Nat) : Int) % W) * s), Y + ((((i : Nat) : Int) / W) * s), (X + ((((i : Nat) : Int) % W) * s)) + s, (Y + ((((i : Nat) : Int) / W) * s)) + s⟩ : Rect)]) (by omega) (rvals_append (plcL W X Y s (plcB ca cb cc cd xsz) i) [(⟨X + ((((i : Nat) : Int) % W) * s), Y + ((((i : Nat) : Int) / W) * s), (X + ((((i : Nat) : Int) % W) * s)) + s, (Y + ((((i : Nat) : Int) / W) * s)) + s⟩ : Rect)]) rfl) ?_
    rintro ⟨A10, g10, cp10⟩ -
    refine cont_norm [(1, .slice Az nz capz), (2, .bool false), (3, .pointer (pB b1)), (8, iq ((i : Nat) : Int)), (39, undef), (40, undef), (41, undef), (42, undef), (43, undef), (44, undef), (45, undef), (46, undef), (54, .slice Az nz capz), (55, iq (((i : Nat) : Int) % W)), (56, iq (((i : Nat) : Int) / W)), (57, .bool true), (59, .slice A k cp), (99, .slice (pB b9) 1 1), (100, .slice A10 (k + 1) cp10)] _ (by kernel_rfl) rfl ?_
    refine cont_fact (F := (0 < (k + 1) → (A10 : Option Addr) = pB g10) ∧ ((plcL W X Y s (plcB ca cb cc cd xsz) i) ++ [(⟨X + ((((i : Nat) : Int) % W) * s), Y + ((((i : Nat) : Int) / W) * s), (X + ((((i : Nat) : Int) % W) * s)) + s, (Y + ((((i : Nat) : Int) / W) * s)) + s⟩ : Rect)]).length = (k + 1) ∧ (k + 1) ≤ cp10 ∧ cp10 ≤ maxLen) (fun w hT => Row.factsR (hT.ok 1 _ rfl)) (fun hr11_ => ?_)
    obtain ⟨hr11_a, hr11_l, hr11_c, hr11_m⟩ := hr11_
    unfold maxLen at hr11_m
    refine bS [0] 43 0 [(1, .slice Az nz capz), (2, .bool false), (3, .pointer (pB b1)), (7, .slice A10 (k + 1) cp10), (8, iq ((i : Nat) : Int)), (39, undef), (40, undef), (41, undef), (42, undef), (43, undef), (44, undef), (45, undef), (46, undef), (54, .slice Az nz capz), (55, iq (((i : Nat) : Int) % W)), (56, iq (((i : Nat) : Int) / W)), (57, .bool true)] ?_
    refine cont_forget 0 rfl ?_
    refine cont_done ?_
    refine blk_normal ?_
    refine then_normal ?_
    refine cont_region 3 rfl ?_
    refine bS [0, 0] 2 1 [(1, .slice Az nz capz), (2, .bool false), (3, .pointer (pB b1)), (7, .slice A10 (k + 1) cp10), (19, iq (IntKind.i64.wrap (((i : Nat) : Int) + 1))), (39, undef), (40, undef), (41, undef), (42, undef), (43, undef), (44, undef), (45, undef), (46, undef), (54, .slice Az nz capz), (55, iq (((i : Nat) : Int) % W)), (56, iq (((i : Nat) : Int) / W)), (57, .bool true)] ?_
    refine cont_recast 19 (iq (IntKind.i64.wrap (((i : Nat) : Int) + 1))) (iq (((i : Nat) : Int) + 1)) rfl (wrapI (by omega) (by omega)) ?_
    refine bS [0] 3 0 [(1, .slice Az nz capz), (2, .bool false), (3, .pointer (pB b1)), (7, .slice A10 (k + 1) cp10), (8, iq (((i : Nat) : Int) + 1)), (39, undef), (40, undef), (41, undef), (42, undef), (43, undef), (44, undef), (45, undef), (46, undef), (54, .slice Az nz capz), (55, iq (((i : Nat) : Int) % W)), (56, iq (((i : Nat) : Int) / W)), (57, .bool true)] ?_
    refine cont_done ?_
    refine then_normal ?_
    refine cont_rowEqR 0 ((plcL W X Y s (plcB ca cb cc cd xsz) i) ++ [(⟨X + ((((i : Nat) : Int) % W) * s), Y + ((((i : Nat) : Int) / W) * s), (X + ((((i : Nat) : Int) % W) * s)) + s, (Y + ((((i : Nat) : Int) / W) * s)) + s⟩ : Rect)]) (plcL W X Y s (plcB ca cb cc cd xsz) (i + 1)) rfl (plcL_yes hB_) ?_
    refine cont_again (i + 1, A10, g10, (k + 1), cp10) (show (i + 1) ≤ n from (by omega)) (show n - (i + 1) < n - i from by omega) (by kernel_rfl) (by kernel_rfl)
   refine cont_recast 57 (.bool (hasL xsz (((i : Nat) : Int) % W) (((i : Nat) : Int) / W))) (.bool false) rfl (congrArg Value.bool c7_) ?_
   have hB_ : (plcB ca cb cc cd xsz) ((i : Int) % W) ((i : Int) / W) = false := plcB_no (.inr c7_)
   refine cont_false rfl ?_
   refine cont_skip ?_
   refine blk_normal ?_
   refine then_normal ?_
   refine cont_region 3 rfl ?_
   refine bS [0, 0] 2 1 [(1, .slice Az nz capz), (2, .bool false), (3, .pointer (pB b1)), (7, .slice A k cp), (19, iq (IntKind.i64.wrap (((i : Nat) : Int) + 1))), (39, undef), (40, undef), (41, undef), (42, undef), (43, undef), (44, undef), (45, undef), (46, undef), (54, .slice Az nz capz), (55, iq (((i : Nat) : Int) % W)), (56, iq (((i : Nat) : Int) / W)), (57, .bool false)] ?_
   refine cont_recast 19 (iq (IntKind.i64.wrap (((i : Nat) : Int) + 1))) (iq (((i : Nat) : Int) + 1)) rfl (wrapI (by omega) (by omega)) ?_
   refine bS [0] 3 0 [(1, .slice Az nz capz), (2, .bool false), (3, .pointer (pB b1)), (7, .slice A k cp), (8, iq (((i : Nat) : Int) + 1)), (39, undef), (40, undef), (41, undef), (42, undef), (43, undef), (44, undef), (45, undef), (46, undef), (54, .slice Az nz capz), (55, iq (((i : Nat) : Int) % W)), (56, iq (((i : Nat) : Int) / W)), (57, .bool false)] ?_
   refine cont_done ?_
   refine then_normal ?_
   refine cont_rowEqR 0 (plcL W X Y s (plcB ca cb cc cd xsz) i) (plcL W X Y s (plcB ca cb cc cd xsz) (i + 1)) rfl (plcL_no hB_) ?_
   refine cont_again (i + 1, A, g, k, cp) (show (i + 1) ≤ n from (by omega)) (show n - (i + 1) < n - i from by omega) (by kernel_rfl) (by kernel_rfl)
  have hB_ : (plcB ca cb cc cd xsz) ((i : Int) % W) ((i : Int) / W) = false := plcB_no (.inl c6_)
  refine bS [0, 0, 0, 0, 0] 11 0 [(1, .slice Az nz capz), (2, .bool false), (3, .pointer (pB b1)), (7, .slice A k cp), (8, iq ((i : Nat) : Int)), (9, iq (((i : Nat) : Int) % W)), (10, iq (((i : Nat) : Int) / W)), (39, undef), (40, undef), (41, undef), (42, undef), (43, undef), (44, undef), (45, undef), (46, undef), (54, undef), (55, undef), (56, undef), (57, undef), (58, .bool false)] ?_
  refine cont_done ?_
  refine then_normal ?_
  refine cont_false rfl ?_
  refine cont_skip ?_
  refine blk_normal ?_
  refine then_normal ?_
  refine cont_region 3 rfl ?_
  refine bS [0, 0] 2 1 [(1, .slice Az nz capz), (2, .bool false), (3, .pointer (pB b1)), (7, .slice A k cp), (19, iq (IntKind.i64.wrap (((i : Nat) : Int) + 1))), (39, undef), (40, undef), (41, undef), (42, undef), (43, undef), (44, undef), (45, undef), (46, undef), (54, undef), (55, undef), (56, undef), (57, undef)] ?_
  refine cont_recast 19 (iq (IntKind.i64.wrap (((i : Nat) : Int) + 1))) (iq (((i : Nat) : Int) + 1)) rfl (wrapI (by omega) (by omega)) ?_
  refine bS [0] 3 0 [(1, .slice Az nz capz), (2, .bool false), (3, .pointer (pB b1)), (7, .slice A k cp), (8, iq (((i : Nat) : Int) + 1)), (39, undef), (40, undef), (41, undef), (42, undef), (43, undef), (44, undef), (45, undef), (46, undef), (54, undef), (55, undef), (56, undef), (57, undef)] ?_
  refine cont_done ?_
  refine then_normal ?_
  refine cont_rowEqR 0 (plcL W X Y s (plcB ca cb cc cd xsz) i) (plcL W X Y s (plcB ca cb cc cd xsz) (i + 1)) rfl (plcL_no hB_) ?_
  refine cont_again (i + 1, A, g, k, cp) (show (i + 1) ≤ n from (by omega)) (show n - (i + 1) < n - i from by omega) (by kernel_rfl) (by kernel_rfl)
 replace c4_ := of_decide_eq_false c4_
 refine cont_false rfl ?_
 refine cont_exit ?_
 refine then_exit ?_
 refine then_exit ?_
 refine blk_exit ?_
 refine then_normal ?_
 refine cont_seq ?_
 refine cont_region 3 rfl ?_
 refine cont_fact (F := (0 < k → (A : Option Addr) = pB g) ∧ (plcL W X Y s (plcB ca cb cc cd xsz) i).length = k ∧ k ≤ cp ∧ cp ≤ maxLen) (fun w hT => Row.factsR (hT.ok 0 _ rfl)) (fun hr12_ => ?_)
 obtain ⟨hr12_a, hr12_l, hr12_c, hr12_m⟩ := hr12_
 unfold maxLen at hr12_m
 refine bS [0] 1 2 [(101, .slice A k cp)] ?_
 refine cont_forget 1 rfl ?_
 refine pl_step 2 1 rfl rfl ?_
 refine call_gen (d := 102) (α := Option Addr × Nat × Nat × Nat) (fun x_ => .slice x_.1 x_.2.2.1 x_.2.2.2) (fun x_ => [.gen (rowE (x_.1) x_.2.1 x_.2.2.1 x_.2.2.2 28 4 (rvals (canR (plcL W X Y s (plcB ca cb cc cd xsz) i))) true), .gen (rowE (A) g k cp 28 4 (rvals (plcL W X Y s (plcB ca cb cc cd xsz) i)) true), .gen (rdE (pB r) r 0 n 1 (ivals .u32 px)), .gen (rdE (Az) gz oz nz 4 (rvals xsz))]) (fun x_ => True) (by kernel_rfl) (fun w hT => (refOf A g 0 k cp (plcL W X Y s (plcB ca cb cc cd xsz) i) w (hT.viewRo (.cons (i := 0) rfl Vw.rowRd .nil) rfl) (by omega)).mono fun e w' ⟨A13, g14, k15, cp16, he_, ht_⟩ => ⟨(A13, g14, k15, cp16), he_, trivial, hT.news ht_ rfl⟩) ?_
 rintro ⟨A13, g14, k15, cp16⟩ hf17_
 refine cont_norm [(101, .slice A k cp), (102, .slice A13 k15 cp16)] _ (by kernel_rfl) rfl ?_
 refine cont_fact (F := (0 < k15 → (A13 : Option Addr) = pB g14) ∧ (canR (plcL W X Y s (plcB ca cb cc cd xsz) i)).length = k15 ∧ k15 ≤ cp16 ∧ cp16 ≤ maxLen) (fun w hT => Row.factsR (hT.ok 0 _ rfl)) (fun hr18_ => ?_)
 obtain ⟨hr18_a, hr18_l, hr18_c, hr18_m⟩ := hr18_
 unfold maxLen at hr18_m
 refine bS [0] 3 0 [(6, .slice A13 k15 cp16)] ?_
 refine cont_done ?_
 refine then_normal ?_
 refine cont_ret ?_
 refine ret_one (.inl rfl) rfl 0 (.slice A13 k15 cp16) (by kernel_rfl) (by kernel_rfl) (fun w hT => ?_)
 replace hT := hT.erase 3 (fun e h hw => by cases h; first | rfl | cases hw)
 replace hT := hT.erase 2 (fun e h hw => by cases h; first | rfl | cases hw)
 replace hT := hT.erase 1 (fun e h hw => by cases h; first | rfl | cases hw)
 have hin : i = n := by omega
 subst hin
 exact ⟨_, _, _, _, rfl, hT⟩

theorem refPlaceS5 (W H : Int) (r n cap : Nat) (px : List Int) (X Y s al ca cb cc cd : Int) (Az : Option Addr) (gz oz nz capz : Nat) (xsz : List Rect) (w : World) (hT0 : Tab w w [.gen (rdE (some ⟨r, 0, none⟩) r 0 n 1 (ivals .u32 px)), .gen (rdE (Az) gz oz nz 4 (rvals xsz))]) (hok : ImgOk W H n px) (hs : 1 ≤ s ∧ s ≤ 8) (hX : -1000000 ≤ X ∧ X ≤ 1000000) (hY : -1000000 ≤ Y ∧ Y ≤ 1000000) (hnz : nz ≤ 200000) :
    Calls Tryz.prog 18 #[.agg #[.bool true, .int .i64 W, .int .i64 H, .slice (some ⟨r, 0, none⟩) n cap, .int .i64 X, .int .i64 Y, .int .i64 s, .int .i64 al, .int .i64 ca, .int .i64 cb, .int .i64 cc, .int .i64 cd], .slice Az nz capz, .bool true] w fun e w' => ∃ (A_ : Option Addr) (g_ k_ cp_ : Nat), e = .returned (.slice A_ k_ cp_) ∧ Tab w w' [.gen (rowE (A_) g_ k_ cp_ 28 4 (rvals (canR (plcL W X Y s (splB W H al px ca cb cc cd xsz) n))) true)] := by
 have hw1 := hok.w1
 have hw2 := hok.w2
 have hh1 := hok.h1
 have hh2 := hok.h2
 have hnum := hok.num
 have hlen := hok.len
 have hle := hok.le
 obtain ⟨hraz, hrlz⟩ := Rd.factsR (hT0.ok 1 _ rfl)
 refine enter 103 [(0, .agg #[.bool true, iq W, iq H, .slice (pB r) n cap, iq X, iq Y, iq s, iq al, iq ca, iq cb, iq cc, iq cd]), (1, .slice Az nz capz), (2, .bool true)] [.gen (rdE (pB r) r 0 n 1 (ivals .u32 px)), .gen (rdE (Az) gz oz nz 4 (rvals xsz))] Tryz.func18 rfl Tryz.ntmps18 rfl (by kernel_rfl) hT0 ?_
 refine cont_seq ?_
 refine cont_region 2 rfl ?_
 refine batch1 [0, 0] 2 0 (fun b1 => [(1, .slice Az nz capz), (2, .bool true), (3, .pointer (pB b1))]) (fun b1 => [.cells b1 [.bool true, iq W, iq H, .slice (pB r) n cap, iq X, iq Y, iq s, iq al, iq ca, iq cb, iq cc, iq cd] 30 true, .gen (rdE (pB r) r 0 n 1 (ivals .u32 px)), .gen (rdE (Az) gz oz nz 4 (rvals xsz))]) rfl rfl [1, 2, 3] (fun _ => rfl) (fun b1 => by kernel_rfl) (fun b1 => by kernel_rfl) (fun b1 => ?_)
 refine cont_done ?_
 refine then_normal ?_
 refine cont_seq ?_
 refine cont_region 1 rfl ?_
 refine bS [0] 1 0 [(1, .slice Az nz capz), (2, .bool true), (3, .pointer (pB b1)), (7, .slice none 0 0)] ?_
 refine cont_done ?_
 refine then_normal ?_
 refine cont_seq ?_
 refine cont_seq ?_
 refine cont_region 1 rfl ?_
 refine bS [0] 1 0 [(1, .slice Az nz capz), (2, .bool true), (3, .pointer (pB b1)), (7, .slice none 0 0), (8, iq 0)] ?_
 refine cont_done ?_
 refine then_normal ?_
 refine cont_block ?_
 refine cont_nilrow 28 4 ?_
 refine cont_norm [(1, .slice Az nz capz), (2, .bool true), (3, .pointer (pB b1)), (7, .slice none 0 0), (8, iq 0)] _ (by kernel_rfl) rfl ?_
 refine cont_rowEqR 0 ([]) (plcL W X Y s (splB W H al px ca cb cc cd xsz) 0) rfl ((plcL_zero _ _ _ _ _).symm) ?_
 refine cont_loop (α := Nat × Option Addr × Nat × Nat × Nat) (fun x_ : Nat × Option Addr × Nat × Nat × Nat => x_.1 ≤ n) (fun x_ : Nat × Option Addr × Nat × Nat × Nat => [(1, .slice Az nz capz), (2, .bool true), (3, .pointer (pB b1)), (7, .slice x_.2.1 x_.2.2.2.1 x_.2.2.2.2), (8, iq ((x_.1 : Nat) : Int))]) (fun x_ : Nat × Option Addr × Nat × Nat × Nat => [.gen (rowE (x_.2.1) x_.2.2.1 x_.2.2.2.1 x_.2.2.2.2 28 4 (rvals (plcL W X Y s (splB W H al px ca cb cc cd xsz) x_.1)) true), .cells b1 [.bool true, iq W, iq H, .slice (pB r) n cap, iq X, iq Y, iq s, iq al, iq ca, iq cb, iq cc, iq cd] 30 true, .gen (rdE (pB r) r 0 n 1 (ivals .u32 px)), .gen (rdE (Az) gz oz nz 4 (rvals xsz))]) (fun x_ : Nat × Option Addr × Nat × Nat × Nat => n - x_.1) (0, none, 0, 0, 0) (show (0) ≤ n from (by omega)) (by kernel_rfl) (by kernel_rfl) ?_
 rintro ⟨i, A, g, k, cp⟩ hinv3_
 replace hinv3_ : i ≤ n := hinv3_
 refine cont_norm [(1, .slice Az nz capz), (2, .bool true), (3, .pointer (pB b1)), (7, .slice A k cp), (8, iq ((i : Nat) : Int))] _ (by kernel_rfl) rfl ?_
 have hi := hinv3_
 have hem := emod_range i hw1
 have hpl := plcL_len W X Y s (splB W H al px ca cb cc cd xsz) i
 have hbx : i < n → _ := fun h_ => box_bd (W := W) (H := H) (i := i) ⟨hw1, hw2⟩ ⟨hh1, hh2⟩ hnum h_
 have hge : i < n → InC (px.getD i 0) := fun h_ => hok.get h_
 refine cont_seq ?_
 refine cont_seq ?_
 refine cont_region 6 rfl ?_
 refine bS [0, 0, 0, 1, 0, 0] 6 0 [(1, .slice Az nz capz), (2, .bool true), (3, .pointer (pB b1)), (7, .slice A k cp), (8, iq ((i : Nat) : Int)), (17, .bool (decide (((i : Nat) : Int) < (n : Int))))] ?_
 refine cont_done ?_
 refine then_normal ?_
 refine cont_split 17 (decide (((i : Nat) : Int) < (n : Int))) rfl (fun c4_ => ?_) (fun c4_ => ?_)
 ·
  replace c4_ := of_decide_eq_true c4_
  refine cont_true rfl ?_
  refine cont_skip ?_
  refine then_normal ?_
  refine cont_seq ?_
  refine cont_block ?_
  refine cont_seq ?_
  refine cont_region 6 rfl ?_
  refine bS [0, 0, 0, 1] 4 2 [(1, .slice Az nz capz), (2, .bool true), (3, .pointer (pB b1)), (7, .slice A k cp), (8, iq ((i : Nat) : Int)), (20, iq ((i : Nat) : Int)), (23, iq W)] ?_
  refine pl_step 5 1 rfl rfl ?_
  refine sem_step 24 (bopS .rem 3 (.tmp 20) (.tmp 23) (iq ((i : Nat) : Int)) (iq W)) (iq (((i : Nat) : Int).tmod W)) (by kernel_rfl) (fun w hT => run_rem (by omega) w) ?_
  refine cont_recast 24 (iq (((i : Nat) : Int).tmod W)) (iq (((i : Nat) : Int) % W)) rfl (tmodI (by omega)) ?_
  refine bS [0] 6 0 [(1, .slice Az nz capz), (2, .bool true), (3, .pointer (pB b1)), (7, .slice A k cp), (8, iq ((i : Nat) : Int)), (9, iq (((i : Nat) : Int) % W))] ?_
  refine cont_done ?_
  refine then_normal ?_
  refine cont_seq ?_
  refine cont_region 6 rfl ?_
  refine bS [0, 0, 0, 1] 4 2 [(1, .slice Az nz capz), (2, .bool true), (3, .pointer (pB b1)), (7, .slice A k cp), (8, iq ((i : Nat) : Int)), (9, iq (((i : Nat) : Int) % W)), (25, iq ((i : Nat) : Int)), (28, iq W)] ?_
  refine pl_step 5 1 rfl rfl ?_
  refine sem_step 29 (bopS .quo 3 (.tmp 25) (.tmp 28) (iq ((i : Nat) : Int)) (iq W)) (iq (IntKind.i64.wrap (((i : Nat) : Int).tdiv W))) (by kernel_rfl) (fun w hT => run_quo (by omega) w) ?_
  refine cont_recast 29 (iq (IntKind.i64.wrap (((i : Nat) : Int).tdiv W))) (iq (((i : Nat) : Int) / W)) rfl (tdivI (by omega) (by omega) (by omega)) ?_
  refine bS [0] 6 0 [(1, .slice Az nz capz), (2, .bool true), (3, .pointer (pB b1)), (7, .slice A k cp), (8, iq ((i : Nat) : Int)), (9, iq (((i : Nat) : Int) % W)), (10, iq (((i : Nat) : Int) / W))] ?_
  refine cont_done ?_
  refine then_normal ?_
  refine cont_seq ?_
  refine cont_region 9 rfl ?_
  refine bS [0, 0, 1, 0] 4 5 [(1, .slice Az nz capz), (2, .bool true), (3, .pointer (pB b1)), (7, .slice A k cp), (8, iq ((i : Nat) : Int)), (9, iq (((i : Nat) : Int) % W)), (10, iq (((i : Nat) : Int) / W)), (32, .slice (pB r) n cap), (33, iq ((i : Nat) : Int))] ?_
  refine pl_step 5 4 rfl rfl ?_
  refine sem_step 34 (Instr.indexAt 22 (.slice (pB r) n cap) (iq ((i : Nat) : Int))) (.pointer (some ⟨r, (i : Nat), none⟩)) (by kernel_rfl) (fun w hT => run_indexAt (e := 35) (sz := 1) _ (by kernel_rfl) (by kernel_rfl) (by omega) (by omega) (by omega) w) ?_
  refine pl_step 6 3 rfl rfl ?_
  refine sem_step 35 (Instr.loadAt 35 (.pointer (some ⟨r, (i : Nat), none⟩))) (.int .u32 (px.getD (i : Nat) 0)) (by kernel_rfl) (fun w hT => run_load1 (by kernel_rfl) (Rd.cell0 (hT.ok 2 _ rfl) ((i : Nat)) _ (ivals_get (by omega)))) ?_
  obtain ⟨hge0, hge1⟩ := hge (by omega)
  refine pl_step 7 2 rfl rfl ?_
  refine call_pure (d := 36) (.agg #[iq (pa (px.getD (i : Nat) 0)), iq (pr (px.getD (i : Nat) 0)), iq (pg (px.getD (i : Nat) 0)), iq (pb (px.getD (i : Nat) 0))]) (by kernel_rfl) (fun w hT => refParts (px.getD (i : Nat) 0) w (by omega) (by omega)) ?_
  refine batch1 [0, 0] 9 0 (fun b5 => [(1, .slice Az nz capz), (2, .bool true), (3, .pointer (pB b1)), (7, .slice A k cp), (8, iq ((i : Nat) : Int)), (9, iq (((i : Nat) : Int) % W)), (10, iq (((i : Nat) : Int) / W)), (11, .pointer (pB b5))]) (fun b5 => [.cells b5 [iq (pa (px.getD (i : Nat) 0)), iq (pr (px.getD (i : Nat) 0)), iq (pg (px.getD (i : Nat) 0)), iq (pb (px.getD (i : Nat) 0))] 85 true, .gen (rowE (A) g k cp 28 4 (rvals (plcL W X Y s (splB W H al px ca cb cc cd xsz) i)) true), .cells b1 [.bool true, iq W, iq H, .slice (pB r) n cap, iq X, iq Y, iq s, iq al, iq ca, iq cb, iq cc, iq cd] 30 true, .gen (rdE (pB r) r 0 n 1 (ivals .u32 px)), .gen (rdE (Az) gz oz nz 4 (rvals xsz))]) rfl rfl [1, 2, 3, 7, 8, 9, 10, 11] (fun _ => rfl) (fun b5 => by kernel_rfl) (fun b5 => by kernel_rfl) (fun b5 => ?_)
  refine cont_done ?_
  refine then_normal ?_
  refine cont_seq ?_
  refine cont_seq ?_
  refine cont_region 11 rfl ?_
  refine bS [0, 0, 0, 0, 0, 0] 6 5 [(1, .slice Az nz capz), (2, .bool true), (3, .pointer (pB b1)), (7, .slice A k cp), (8, iq ((i : Nat) : Int)), (9, iq (((i : Nat) : Int) % W)), (10, iq (((i : Nat) : Int) / W)), (38, .bool true), (39, .pointer (pB b5)), (40, iq (pa (px.getD (i : Nat) 0))), (41, .bool ((pa (px.getD (i : Nat) 0)) != 255)), (42, .bool ((pa (px.getD (i : Nat) 0)) != 255))] ?_
  refine cont_split 42 ((pa (px.getD (i : Nat) 0)) != 255) rfl (fun c6_ => ?_) (fun c6_ => ?_)
  ·
   refine cont_recast 41 (.bool ((pa (px.getD (i : Nat) 0)) != 255)) (.bool true) rfl (congrArg Value.bool c6_) ?_
   replace c6_ := ne_of_bne c6_
   have hB_ : (splB W H al px ca cb cc cd xsz) ((i : Int) % W) ((i : Int) / W) = false := spl_no1 hw1 hnum (by omega) (by simpa using c6_)
   refine bS [0, 0, 0, 0, 0] 11 0 [(1, .slice Az nz capz), (2, .bool true), (3, .pointer (pB b1)), (7, .slice A k cp), (8, iq ((i : Nat) : Int)), (9, iq (((i : Nat) : Int) % W)), (10, iq (((i : Nat) : Int) / W)), (39, .pointer (pB b5)), (40, iq (pa (px.getD (i : Nat) 0))), (41, .bool true), (42, .bool true), (43, undef), (44, undef), (45, undef), (46, .bool true), (47, .bool true)] ?_
   refine cont_done ?_
   refine then_normal ?_
   refine cont_true rfl ?_
   refine cont_exit ?_
   refine then_exit ?_
   refine blk_exit ?_
   refine then_normal ?_
   refine cont_region 3 rfl ?_
   refine bS [0, 0] 2 1 [(1, .slice Az nz capz), (2, .bool true), (3, .pointer (pB b1)), (7, .slice A k cp), (19, iq (IntKind.i64.wrap (((i : Nat) : Int) + 1))), (39, .pointer (pB b5)), (40, iq (pa (px.getD (i : Nat) 0))), (41, .bool true), (42, .bool true), (43, undef), (44, undef), (45, undef), (46, .bool true)] ?_
   refine cont_recast 19 (iq (IntKind.i64.wrap (((i : Nat) : Int) + 1))) (iq (((i : Nat) : Int) + 1)) rfl (wrapI (by omega) (by omega)) ?_
   refine bS [0] 3 0 [(1, .slice Az nz capz), (2, .bool true), (3, .pointer (pB b1)), (7, .slice A k cp), (8, iq (((i : Nat) : Int) + 1)), (39, .pointer (pB b5)), (40, iq (pa (px.getD (i : Nat) 0))), (41, .bool true), (42, .bool true), (43, undef), (44, undef), (45, undef), (46, .bool true)] ?_
   refine cont_done ?_
   refine then_normal ?_
   refine cont_forget 0 rfl ?_
   refine cont_rowEqR 0 (plcL W X Y s (splB W H al px ca cb cc cd xsz) i) (plcL W X Y s (splB W H al px ca cb cc cd xsz) (i + 1)) rfl (plcL_no hB_) ?_
   refine cont_again (i + 1, A, g, k, cp) (show (i + 1) ≤ n from (by omega)) (show n - (i + 1) < n - i from by omega) (by kernel_rfl) (by kernel_rfl)
  refine cont_recast 41 (.bool ((pa (px.getD (i : Nat) 0)) != 255)) (.bool false) rfl (congrArg Value.bool c6_) ?_
  replace c6_ := eq_of_bne_false c6_
  refine bS [0, 2, 0, 0, 0] 11 0 [(1, .slice Az nz capz), (2, .bool true), (3, .pointer (pB b1)), (7, .slice A k cp), (8, iq ((i : Nat) : Int)), (9, iq (((i : Nat) : Int) % W)), (10, iq (((i : Nat) : Int) / W)), (39, .pointer (pB b5)), (40, iq (pa (px.getD (i : Nat) 0))), (41, .bool false), (42, .bool false), (43, .pointer (some ⟨b1, 7, none⟩)), (44, iq al), (45, .bool (al != 255)), (46, .bool (al != 255)), (47, .bool (al != 255))] ?_
  refine cont_done ?_
  refine then_normal ?_
  refine cont_split 47 (al != 255) rfl (fun c7_ => ?_) (fun c7_ => ?_)
  ·
   refine cont_recast 45 (.bool (al != 255)) (.bool true) rfl (congrArg Value.bool c7_) ?_
   refine cont_recast 46 (.bool (al != 255)) (.bool true) rfl (congrArg Value.bool c7_) ?_
   replace c7_ := ne_of_bne c7_
   have hB_ : (splB W H al px ca cb cc cd xsz) ((i : Int) % W) ((i : Int) / W) = false := spl_no2 hw1 hnum (by omega) (by simpa using c7_)
   refine cont_true rfl ?_
   refine cont_exit ?_
   refine then_exit ?_
   refine blk_exit ?_
   refine then_normal ?_
   refine cont_region 3 rfl ?_
   refine bS [0, 0] 2 1 [(1, .slice Az nz capz), (2, .bool true), (3, .pointer (pB b1)), (7, .slice A k cp), (19, iq (IntKind.i64.wrap (((i : Nat) : Int) + 1))), (39, .pointer (pB b5)), (40, iq (pa (px.getD (i : Nat) 0))), (41, .bool false), (42, .bool false), (43, .pointer (some ⟨b1, 7, none⟩)), (44, iq al), (45, .bool true), (46, .bool true)] ?_
   refine cont_recast 19 (iq (IntKind.i64.wrap (((i : Nat) : Int) + 1))) (iq (((i : Nat) : Int) + 1)) rfl (wrapI (by omega) (by omega)) ?_
   refine bS [0] 3 0 [(1, .slice Az nz capz), (2, .bool true), (3, .pointer (pB b1)), (7, .slice A k cp), (8, iq (((i : Nat) : Int) + 1)), (39, .pointer (pB b5)), (40, iq (pa (px.getD (i : Nat) 0))), (41, .bool false), (42, .bool false), (43, .pointer (some ⟨b1, 7, none⟩)), (44, iq al), (45, .bool true), (46, .bool true)] ?_
   refine cont_done ?_
   refine then_normal ?_
   refine cont_forget 0 rfl ?_
   refine cont_rowEqR 0 (plcL W X Y s (splB W H al px ca cb cc cd xsz) i) (plcL W X Y s (splB W H al px ca cb cc cd xsz) (i + 1)) rfl (plcL_no hB_) ?_
   refine cont_again (i + 1, A, g, k, cp) (show (i + 1) ≤ n from (by omega)) (show n - (i + 1) < n - i from by omega) (by kernel_rfl) (by kernel_rfl)
  refine cont_recast 45 (.bool (al != 255)) (.bool false) rfl (congrArg Value.bool c7_) ?_
  refine cont_recast 46 (.bool (al != 255)) (.bool false) rfl (congrArg Value.bool c7_) ?_
  replace c7_ := eq_of_bne_false c7_
  refine cont_false rfl ?_
  refine cont_skip ?_
  refine then_normal ?_
  refine cont_seq ?_
  refine cont_region 11 rfl ?_
  refine bS [0, 2, 0, 0] 4 7 [(1, .slice Az nz capz), (2, .bool true), (3, .pointer (pB b1)), (7, .slice A k cp), (8, iq ((i : Nat) : Int)), (9, iq (((i : Nat) : Int) % W)), (10, iq (((i : Nat) : Int) / W)), (39, .pointer (pB b5)), (40, iq (pa (px.getD (i : Nat) 0))), (41, .bool false), (42, .bool false), (43, .pointer (some ⟨b1, 7, none⟩)), (44, iq al), (45, .bool false), (46, .bool false), (49, .agg #[iq ca, iq cb, iq cc, iq cd]), (50, iq (((i : Nat) : Int) % W)), (51, iq (((i : Nat) : Int) / W))] ?_
  refine pl_step 5 6 rfl rfl ?_
  refine call_pure (d := 52) (.bool (hasB ca cb cc cd (((i : Nat) : Int) % W) (((i : Nat) : Int) / W))) (by kernel_rfl) (fun w hT => refHas ca cb cc cd (((i : Nat) : Int) % W) (((i : Nat) : Int) / W) w) ?_
  refine bS [0] 6 5 [(1, .slice Az nz capz), (2, .bool true), (3, .pointer (pB b1)), (7, .slice A k cp), (8, iq ((i : Nat) : Int)), (9, iq (((i : Nat) : Int) % W)), (10, iq (((i : Nat) : Int) / W)), (39, .pointer (pB b5)), (40, iq (pa (px.getD (i : Nat) 0))), (41, .bool false), (42, .bool false), (43, .pointer (some ⟨b1, 7, none⟩)), (44, iq al), (45, .bool false), (46, .bool false), (53, .bool (hasB ca cb cc cd (((i : Nat) : Int) % W) (((i : Nat) : Int) / W)))] ?_
  refine cont_split 53 (hasB ca cb cc cd (((i : Nat) : Int) % W) (((i : Nat) : Int) / W)) rfl (fun c8_ => ?_) (fun c8_ => ?_)
  ·
   refine bS [0, 0, 0] 9 2 [(1, .slice Az nz capz), (2, .bool true), (3, .pointer (pB b1)), (7, .slice A k cp), (8, iq ((i : Nat) : Int)), (9, iq (((i : Nat) : Int) % W)), (10, iq (((i : Nat) : Int) / W)), (39, .pointer (pB b5)), (40, iq (pa (px.getD (i : Nat) 0))), (41, .bool false), (42, .bool false), (43, .pointer (some ⟨b1, 7, none⟩)), (44, iq al), (45, .bool false), (46, .bool false), (53, .bool true), (54, .slice Az nz capz), (55, iq (((i : Nat) : Int) % W)), (56, iq (((i : Nat) : Int) / W))] ?_
   refine pl_step 10 1 rfl rfl ?_
   refine call_pure (d := 57) (.bool (hasL xsz (((i : Nat) : Int) % W) (((i : Nat) : Int) / W))) (by kernel_rfl) (fun w hT => refHasL Az gz oz nz capz xsz (((i : Nat) : Int) % W) (((i : Nat) : Int) / W) w (hT.viewRo (.cons (i := 4) rfl Vw.rd .nil) rfl) (by omega)) ?_
   refine bS [0] 11 0 [(1, .slice Az nz capz), (2, .bool true), (3, .pointer (pB b1)), (7, .slice A k cp), (8, iq ((i : Nat) : Int)), (9, iq (((i : Nat) : Int) % W)), (10, iq (((i : Nat) : Int) / W)), (39, .pointer (pB b5)), (40, iq (pa (px.getD (i : Nat) 0))), (41, .bool false), (42, .bool false), (43, .pointer (some ⟨b1, 7, none⟩)), (44, iq al), (45, .bool false), (46, .bool false), (54, .slice Az nz capz), (55, iq (((i : Nat) : Int) % W)), (56, iq (((i : Nat) : Int) / W)), (57, .bool (hasL xsz (((i : Nat) : Int) % W) (((i : Nat) : Int) / W))), (58, .bool (hasL xsz (((i : Nat) : Int) % W) (((i : Nat) : Int) / W)))] ?_
   refine cont_done ?_
   refine then_normal ?_
   refine cont_split 58 (hasL xsz (((i : Nat) : Int) % W) (((i : Nat) : Int) / W)) rfl (fun c9_ => ?_) (fun c9_ => ?_)
   ·
    refine cont_recast 57 (.bool (hasL xsz (((i : Nat) : Int) % W) (((i : Nat) : Int) / W))) (.bool true) rfl (congrArg Value.bool c9_) ?_
    have hB_ : (splB W H al px ca cb cc cd xsz) ((i : Int) % W) ((i : Int) / W) = true := spl_yes hw1 hnum (by omega) (by simpa using c6_) (by simpa using c7_) (plcB_yes c8_ c9_)
    refine cont_true rfl ?_
    refine cont_region 43 rfl ?_
    refine cont_fact (F := (0 < k → (A : Option Addr) = pB g) ∧ (plcL W X Y s (splB W H al px ca cb cc cd xsz) i).length = k ∧ k ≤ cp ∧ cp ≤ maxLen) (fun w hT => Row.factsR (hT.ok 1 _ rfl)) (fun hr10_ => ?_)
    obtain ⟨hr10_a, hr10_l, hr10_c, hr10_m⟩ := hr10_
    unfold maxLen at hr10_m
    obtain ⟨hb0, hb1, hb2, hb3⟩ := hbx (by omega)
    have hcx := cell_bd hb0 hb1 hs
    have hcy := cell_bd hb2 hb3 hs
    refine bS [0, 0, 0, 2, 0, 0, 2, 0] 8 35 [(1, .slice Az nz capz), (2, .bool true), (3, .pointer (pB b1)), (8, iq ((i : Nat) : Int)), (9, iq (((i : Nat) : Int) % W)), (10, iq (((i : Nat) : Int) / W)), (39, .pointer (pB b5)), (40, iq (pa (px.getD (i : Nat) 0))), (41, .bool false), (42, .bool false), (43, .pointer (some ⟨b1, 7, none⟩)), (44, iq al), (45, .bool false), (46, .bool false), (54, .slice Az nz capz), (55, iq (((i : Nat) : Int) % W)), (56, iq (((i : Nat) : Int) / W)), (57, .bool true), (59, .slice A k cp), (62, iq X), (66, iq (IntKind.i64.wrap ((((i : Nat) : Int) % W) * s)))] ?_
    refine cont_recast 66 (iq (IntKind.i64.wrap ((((i : Nat) : Int) % W) * s))) (iq ((((i : Nat) : Int) % W) * s)) rfl (wrapI (by omega) (by omega)) ?_
    refine bS [0] 9 34 [(1, .slice Az nz capz), (2, .bool true), (3, .pointer (pB b1)), (8, iq ((i : Nat) : Int)), (9, iq (((i : Nat) : Int) % W)), (10, iq (((i : Nat) : Int) / W)), (39, .pointer (pB b5)), (40, iq (pa (px.getD (i : Nat) 0))), (41, .bool false), (42, .bool false), (43, .pointer (some ⟨b1, 7, none⟩)), (44, iq al), (45, .bool false), (46, .bool false), (54, .slice Az nz capz), (55, iq (((i : Nat) : Int) % W)), (56, iq (((i : Nat) : Int) / W)), (57, .bool true), (59, .slice A k cp), (67, iq (IntKind.i64.wrap (X + ((((i : Nat) : Int) % W) * s))))] ?_
    refine cont_recast 67 (iq (IntKind.i64.wrap (X + ((((i : Nat) : Int) % W) * s)))) (iq (X + ((((i : Nat) : Int) % W) * s))) rfl (wrapI (by omega) (by omega)) ?_
    refine bS [0, 0, 2, 0, 0, 2, 0] 16 27 [(1, .slice Az nz capz), (2, .bool true), (3, .pointer (pB b1)), (8, iq ((i : Nat) : Int)), (9, iq (((i : Nat) : Int) % W)), (10, iq (((i : Nat) : Int) / W)), (39, .pointer (pB b5)), (40, iq (pa (px.getD (i : Nat) 0))), (41, .bool false), (42, .bool false), (43, .pointer (some ⟨b1, 7, none⟩)), (44, iq al), (45, .bool false), (46, .bool false), (54, .slice Az nz capz), (55, iq (((i : Nat) : Int) % W)), (56, iq (((i : Nat) : Int) / W)), (57, .bool true), (59, .slice A k cp), (67, iq (X + ((((i : Nat) : Int) % W) * s))), (70, iq Y), (74, iq (IntKind.i64.wrap ((((i : Nat) : Int) / W) * s)))] ?_
    refine cont_recast 74 (iq (IntKind.i64.wrap ((((i : Nat) : Int) / W) * s))) (iq ((((i : Nat) : Int) / W) * s)) rfl (wrapI (by omega) (by omega)) ?_
    refine bS [0] 17 26 [(1, .slice Az nz capz), (2, .bool true), (3, .pointer (pB b1)), (8, iq ((i : Nat) : Int)), (9, iq (((i : Nat) : Int) % W)), (10, iq (((i : Nat) : Int) / W)), (39, .pointer (pB b5)), (40, iq (pa (px.getD (i : Nat) 0))), (41, .bool false), (42, .bool false), (43, .pointer (some ⟨b1, 7, none⟩)), (44, iq al), (45, .bool false), (46, .bool false), (54, .slice Az nz capz), (55, iq (((i : Nat) : Int) % W)), (56, iq (((i : Nat) : Int) / W)), (57, .bool true), (59, .slice A k cp), (67, iq (X + ((((i : Nat) : Int) % W) * s))), (75, iq (IntKind.i64.wrap (Y + ((((i : Nat) : Int) / W) * s))))] ?_
    refine cont_recast 75 (iq (IntKind.i64.wrap (Y + ((((i : Nat) : Int) / W) * s)))) (iq (Y + ((((i : Nat) : Int) / W) * s))) rfl (wrapI (by omega) (by omega)) ?_
    refine bS [0, 0, 2, 0, 0, 2, 0] 24 19 [(1, .slice Az nz capz), (2, .bool true), (3, .pointer (pB b1)), (8, iq ((i : Nat) : Int)), (10, iq (((i : Nat) : Int) / W)), (39, .pointer (pB b5)), (40, iq (pa (px.getD (i : Nat) 0))), (41, .bool false), (42, .bool false), (43, .pointer (some ⟨b1, 7, none⟩)), (44, iq al), (45, .bool false), (46, .bool false), (54, .slice Az nz capz), (55, iq (((i : Nat) : Int) % W)), (56, iq (((i : Nat) : Int) / W)), (57, .bool true), (59, .slice A k cp), (67, iq (X + ((((i : Nat) : Int) % W) * s))), (75, iq (Y + ((((i : Nat) : Int) / W) * s))), (78, iq X), (82, iq (IntKind.i64.wrap ((((i : Nat) : Int) % W) * s)))] ?_
    refine cont_recast 82 (iq (IntKind.i64.wrap ((((i : Nat) : Int) % W) * s))) (iq ((((i : Nat) : Int) % W) * s)) rfl (wrapI (by omega) (by omega)) ?_
    refine bS [0] 25 18 [(1, .slice Az nz capz), (2, .bool true), (3, .pointer (pB b1)), (8, iq ((i : Nat) : Int)), (10, iq (((i : Nat) : Int) / W)), (39, .pointer (pB b5)), (40, iq (pa (px.getD (i : Nat) 0))), (41, .bool false), (42, .bool false), (43, .pointer (some ⟨b1, 7, none⟩)), (44, iq al), (45, .bool false), (46, .bool false), (54, .slice Az nz capz), (55, iq (((i : Nat) : Int) % W)), (56, iq (((i : Nat) : Int) / W)), (57, .bool true), (59, .slice A k cp), (67, iq (X + ((((i : Nat) : Int) % W) * s))), (75, iq (Y + ((((i : Nat) : Int) / W) * s))), (83, iq (IntKind.i64.wrap (X + ((((i : Nat) : Int) % W) * s))))] ?_
    refine cont_recast 83 (iq (IntKind.i64.wrap (X + ((((i : Nat) : Int) % W) * s)))) (iq (X + ((((i : Nat) : Int) % W) * s))) rfl (wrapI (by omega) (by omega)) ?_
    refine bS [0, 2, 0] 28 15 [(1, .slice Az nz capz), (2, .bool true), (3, .pointer (pB b1)), (8, iq ((i : Nat) : Int)), (10, iq (((i : Nat) : Int) / W)), (39, .pointer (pB b5)), (40, iq (pa (px.getD (i : Nat) 0))), (41, .bool false), (42, .bool false), (43, .pointer (some ⟨b1, 7, none⟩)), (44, iq al), (45, .bool false), (46, .bool false), (54, .slice Az nz capz), (55, iq (((i : Nat) : Int) % W)), (56, iq (((i : Nat) : Int) / W)), (57, .bool true), (59, .slice A k cp), (67, iq (X + ((((i : Nat) : Int) % W) * s))), (75, iq (Y + ((((i : Nat) : Int) / W) * s))), (86, iq (IntKind.i64.wrap ((X + ((((i : Nat) : Int) % W) * s)) + s)))] ?_
    refine cont_recast 86 (iq (IntKind.i64.wrap ((X + ((((i : Nat) : Int) % W) * s)) + s))) (iq ((X + ((((i : Nat) : Int) % W) * s)) + s)) rfl (wrapI (by omega) (by omega)) ?_
    refine bS [0, 0, 2, 0, 0, 2, 0] 35 8 [(1, .slice Az nz capz), (2, .bool true), (3, .pointer (pB b1)), (8, iq ((i : Nat) : Int)), (39, .pointer (pB b5)), (40, iq (pa (px.getD (i : Nat) 0))), (41, .bool false), (42, .bool false), (43, .pointer (some ⟨b1, 7, none⟩)), (44, iq al), (45, .bool false), (46, .bool false), (54, .slice Az nz capz), (55, iq (((i : Nat) : Int) % W)), (56, iq (((i : Nat) : Int) / W)), (57, .bool true), (59, .slice A k cp), (67, iq (X + ((((i : Nat) : Int) % W) * s))), (75, iq (Y + ((((i : Nat) : Int) / W) * s))), (86, iq ((X + ((((i : Nat) : Int) % W) * s)) + s)), (89, iq Y), (93, iq (IntKind.i64.wrap ((((i : Nat) : Int) / W) * s)))] ?_
    refine cont_recast 93 (iq (IntKind.i64.wrap ((((i : Nat) : Int) / W) * s))) (iq ((((i : Nat) : Int) / W) * s)) rfl (wrapI (by omega) (by omega)) ?_
    refine bS [0] 36 7 [(1, .slice Az nz capz), (2, .bool true), (3, .pointer (pB b1)), (8, iq ((i : Nat) : Int)), (39, .pointer (pB b5)), (40, iq (pa (px.getD (i : Nat) 0))), (41, .bool false), (42, .bool false), (43, .pointer (some ⟨b1, 7, none⟩)), (44, iq al), (45, .bool false), (46, .bool false), (54, .slice Az nz capz), (55, iq (((i : Nat) : Int) % W)), (56, iq (((i : Nat) : Int) / W)), (57, .bool true), (59, .slice A k cp), (67, iq (X + ((((i : Nat) : Int) % W) * s))), (75, iq (Y + ((((i : Nat) : Int) / W) * s))), (86, iq ((X + ((((i : Nat) : Int) % W) * s)) + s)), (94, iq (IntKind.i64.wrap (Y + ((((i : Nat) : Int) / W) * s))))] ?_
    refine cont_recast 94 (iq (IntKind.i64.wrap (Y + ((((i : Nat) : Int) / W) * s)))) (iq (Y + ((((i : Nat) : Int) / W) * s))) rfl (wrapI (by omega) (by omega)) ?_
    refine bS [0, 2, 0] 39 4 [(1, .slice Az nz capz), (2, .bool true), (3, .pointer (pB b1)), (8, iq ((i : Nat) : Int)), (39, .pointer (pB b5)), (40, iq (pa (px.getD (i : Nat) 0))), (41, .bool false), (42, .bool false), (43, .pointer (some ⟨b1, 7, none⟩)), (44, iq al), (45, .bool false), (46, .bool false), (54, .slice Az nz capz), (55, iq (((i : Nat) : Int) % W)), (56, iq (((i : Nat) : Int) / W)), (57, .bool true), (59, .slice A k cp), (67, iq (X + ((((i : Nat) : Int) % W) * s))), (75, iq (Y + ((((i : Nat) : Int) / W) * s))), (86, iq ((X + ((((i : Nat) : Int) % W) * s)) + s)), (97, iq (IntKind.i64.wrap ((Y + ((((i : Nat) : Int) / W) * s)) + s)))] ?_
    refine cont_recast 97 (iq (IntKind.i64.wrap ((Y + ((((i : Nat) : Int) / W) * s)) + s))) (iq ((Y + ((((i : Nat) : Int) / W) * s)) + s)) rfl (wrapI (by omega) (by omega)) ?_
    refine batch1 [0, 0] 41 2 (fun b11 => [(1, .slice Az nz capz), (2, .bool true), (3, .pointer (pB b1)), (8, iq ((i : Nat) : Int)), (39, .pointer (pB b5)), (40, iq (pa (px.getD (i : Nat) 0))), (41, .bool false), (42, .bool false), (43, .pointer (some ⟨b1, 7, none⟩)), (44, iq al), (45, .bool false), (46, .bool false), (54, .slice Az nz capz), (55, iq (((i : Nat) : Int) % W)), (56, iq (((i : Nat) : Int) / W)), (57, .bool true), (59, .slice A k cp), (99, .slice (pB b11) 1 1)]) (fun b11 => [.cells b11 [iq (X + ((((i : Nat) : Int) % W) * s)), iq (Y + ((((i : Nat) : Int) / W) * s)), iq ((X + ((((i : Nat) : Int) % W) * s)) + s), iq ((Y + ((((i : Nat) : Int) / W) * s)) + s)] 28 true, .cells b5 [iq (pa (px.getD (i : Nat) 0)), iq (pr (px.getD (i : Nat) 0)), iq (pg (px.getD (i : Nat) 0)), iq (pb (px.getD (i : Nat) 0))] 85 true, .gen (rowE (A) g k cp 28 4 (rvals (plcL W X Y s (splB W H al px ca cb cc cd xsz) i)) true), .cells b1 [.bool true, iq W, iq H, .slice (pB r) n cap, iq X, iq Y, iq s, iq al, iq ca, iq cb, iq cc, iq cd] 30 true, .gen (rdE (pB r) r 0 n 1 (ivals .u32 px)), .gen (rdE (Az) gz oz nz 4 (rvals xsz))]) rfl rfl [1, 2, 3, 8, 39, 40, 41, 42, 43, 44, 45, 46, 54, 55, 56, 57, 59, 99] (fun _ => rfl) (fun b11 => by kernel_rfl) (fun b11 => by kernel_rfl) (fun b11 => ?_)
    refine pl_step 42 1 rfl rfl ?_
    refine sem_stepW (α := Option Addr × Nat × Nat) 100 (Builtin.append_ #[33, 33] 33 #[.slice A k cp, .slice (pB b11) 1 1]) (fun x_ => .slice x_.1 (k + 1) x_.2.2) (fun x_ => [.cells b11 [iq (X + ((((i : Nat) : Int) % W) * s)), iq (Y + ((((i : Nat) : Int) / W) * s)), iq ((X + ((((i : Nat) : Int) % W) * s)) + s), iq ((Y + ((((i : Nat) : Int) / W) * s)) + s)] 28 true, .cells b5 [iq (pa (px.getD (i : Nat) 0)), iq (pr (px.getD (i : Nat) 0)), iq (pg (px.getD (i : Nat) 0)), iq (pb (px.getD (i : Nat) 0))] 85 true, .gen (rowE (x_.1) x_.2.1 (k + 1) x_.2.2 28 4 (rvals ((plcL W X Y s (splB W H al px ca cb cc cd xsz) i) ++ [(⟨X + ((((i : Nat) : Int) % W) * s), Y + ((((i : Nat) : Int) / W) * s), (X + ((((i : Nat) : Int) % W) * s)) + s, (Y + ((((i : Nat) : Int) / W) * s)) + s⟩ : Rect)])) true), .cells b1 [.bool true, iq W, iq H, .slice (pB r) n cap, iq X, iq Y, iq s, iq al, iq ca, iq cb, iq cc, iq cd] 30 true, .gen (rdE (pB r) r 0 n 1 (ivals .u32 px)), .gen (rdE (Az) gz oz nz 4 (rvals xsz))]) (fun _ => True) (by kernel_rfl) (fun w hT => append_own (n' := (k + 1)) (z := .agg #[iq 0, iq 0, iq 0, iq 0]) hT (i := 2) (bytes := 32) rfl (by kernel_rfl) (by kernel_rfl) rfl (by decide) (by decide) (Rd.ofCells (vals := rvals [(⟨X + ((((i : Nat) : Int) % W) * s), Y + ((((i : Nat) : Int) / W) * s), (X + ((((i : Nat) : Int) % W) * s)) + s, (Y + ((((i : Nat) : Int) / W) * s)) + s⟩ : Rect)]) (hT.ok 0 _ rfl) rfl rfl) (rvals_one [(⟨X + ((((i : Nat) : Int) % W) * s), Y + ((((i : Nat) : Int) / W) * s), (X + ((((i : Nat) : Int) % W) * s)) + s, (Y + ((((i : Nat) : Int) / W) * s)) + s⟩ : Rect)]) (by omega) (rvals_append (plcL W X Y s (splB W H al px ca cb cc cd xsz) i) [(⟨X + ((((i : Nat) : Int) % W) * s), Y + ((((i : Nat) : Int) / W) * s), (X + ((((i : Nat) : Int) % W) * s)) + s, (Y + ((((i : Nat) : Int) / W) * s)) + s⟩ : Rect)]) rfl) ?_
    rintro ⟨A12, g12, cp12⟩ -
    refine cont_norm [(1, .slice Az nz capz), (2, .bool true), (3, .pointer (pB b1)), (8, iq ((i : Nat) : Int)), (39, .pointer (pB b5)), (40, iq (pa (px.getD (i : Nat) 0))), (41, .bool false), (42, .bool false), (43, .pointer (some ⟨b1, 7, none⟩)), (44, iq al), (45, .bool false), (46, .bool false), (54, .slice Az nz capz), (55, iq (((i : Nat) : Int) % W)), (56, iq (((i : Nat) : Int) / W)), (57, .bool true), (59, .slice A k cp), (99, .slice (pB b11) 1 1), (100, .slice A12 (k + 1) cp12)] _ (by kernel_rfl) rfl ?_
    refine cont_fact (F := (0 < (k + 1) → (A12 : Option Addr) = pB g12) ∧ ((plcL W X Y s (splB W H al px ca cb cc cd xsz) i) ++ [(⟨X + ((((i : Nat) : Int) % W) * s), Y + ((((i : Nat) : Int) / W) * s), (X + ((((i : Nat) : Int) % W) * s)) + s, (Y + ((((i : Nat) : Int) / W) * s)) + s⟩ : Rect)]).length = (k + 1) ∧ (k + 1) ≤ cp12 ∧ cp12 ≤ maxLen) (fun w hT => Row.factsR (hT.ok 2 _ rfl)) (fun hr13_ => ?_)
    obtain ⟨hr13_a, hr13_l, hr13_c, hr13_m⟩ := hr13_
    unfold maxLen at hr13_m
    refine bS [0] 43 0 [(1, .slice Az nz capz), (2, .bool true), (3, .pointer (pB b1)), (7, .slice A12 (k + 1) cp12), (8, iq ((i : Nat) : Int)), (39, .pointer (pB b5)), (40, iq (pa (px.getD (i : Nat) 0))), (41, .bool false), (42, .bool false), (43, .pointer (some ⟨b1, 7, none⟩)), (44, iq al), (45, .bool false), (46, .bool false), (54, .slice Az nz capz), (55, iq (((i : Nat) : Int) % W)), (56, iq (((i : Nat) : Int) / W)), (57, .bool true)] ?_
    refine cont_forget 0 rfl ?_
    refine cont_done ?_
    refine blk_normal ?_
    refine then_normal ?_
    refine cont_region 3 rfl ?_
    refine bS [0, 0] 2 1 [(1, .slice Az nz capz), (2, .bool true), (3, .pointer (pB b1)), (7, .slice A12 (k + 1) cp12), (19, iq (IntKind.i64.wrap (((i : Nat) : Int) + 1))), (39, .pointer (pB b5)), (40, iq (pa (px.getD (i : Nat) 0))), (41, .bool false), (42, .bool false), (43, .pointer (some ⟨b1, 7, none⟩)), (44, iq al), (45, .bool false), (46, .bool false), (54, .slice Az nz capz), (55, iq (((i : Nat) : Int) % W)), (56, iq (((i : Nat) : Int) / W)), (57, .bool true)] ?_
    refine cont_recast 19 (iq (IntKind.i64.wrap (((i : Nat) : Int) + 1))) (iq (((i : Nat) : Int) + 1)) rfl (wrapI (by omega) (by omega)) ?_
    refine bS [0] 3 0 [(1, .slice Az nz capz), (2, .bool true), (3, .pointer (pB b1)), (7, .slice A12 (k + 1) cp12), (8, iq (((i : Nat) : Int) + 1)), (39, .pointer (pB b5)), (40, iq (pa (px.getD (i : Nat) 0))), (41, .bool false), (42, .bool false), (43, .pointer (some ⟨b1, 7, none⟩)), (44, iq al), (45, .bool false), (46, .bool false), (54, .slice Az nz capz), (55, iq (((i : Nat) : Int) % W)), (56, iq (((i : Nat) : Int) / W)), (57, .bool true)] ?_
    refine cont_done ?_
    refine then_normal ?_
    refine cont_forget 0 rfl ?_
    refine cont_rowEqR 0 ((plcL W X Y s (splB W H al px ca cb cc cd xsz) i) ++ [(⟨X + ((((i : Nat) : Int) % W) * s), Y + ((((i : Nat) : Int) / W) * s), (X + ((((i : Nat) : Int) % W) * s)) + s, (Y + ((((i : Nat) : Int) / W) * s)) + s⟩ : Rect)]) (plcL W X Y s (splB W H al px ca cb cc cd xsz) (i + 1)) rfl (plcL_yes hB_) ?_
    refine cont_again (i + 1, A12, g12, (k + 1), cp12) (show (i + 1) ≤ n from (by omega)) (show n - (i + 1) < n - i from by omega) (by kernel_rfl) (by kernel_rfl)
   refine cont_recast 57 (.bool (hasL xsz (((i : Nat) : Int) % W) (((i : Nat) : Int) / W))) (.bool false) rfl (congrArg Value.bool c9_) ?_
   have hB_ : (splB W H al px ca cb cc cd xsz) ((i : Int) % W) ((i : Int) / W) = false := spl_no3 hw1 hnum (by omega) (plcB_no (.inr c9_))
   refine cont_false rfl ?_
   refine cont_skip ?_
   refine blk_normal ?_
   refine then_normal ?_
   refine cont_region 3 rfl ?_
   refine bS [0, 0] 2 1 [(1, .slice Az nz capz), (2, .bool true), (3, .pointer (pB b1)), (7, .slice A k cp), (19, iq (IntKind.i64.wrap (((i : Nat) : Int) + 1))), (39, .pointer (pB b5)), (40, iq (pa (px.getD (i : Nat) 0))), (41, .bool false), (42, .bool false), (43, .pointer (some ⟨b1, 7, none⟩)), (44, iq al), (45, .bool false), (46, .bool false), (54, .slice Az nz capz), (55, iq (((i : Nat) : Int) % W)), (56, iq (((i : Nat) : Int) / W)), (57, .bool false)] ?_
   refine cont_recast 19 (iq (IntKind.i64.wrap (((i : Nat) : Int) + 1))) (iq (((i : Nat) : Int) + 1)) rfl (wrapI (by omega) (by omega)) ?_
   refine bS [0] 3 0 [(1, .slice Az nz capz), (2, .bool true), (3, .pointer (pB b1)), (7, .slice A k cp), (8, iq (((i : Nat) : Int) + 1)), (39, .pointer (pB b5)), (40, iq (pa (px.getD (i : Nat) 0))), (41, .bool false), (42, .bool false), (43, .pointer (some ⟨b1, 7, none⟩)), (44, iq al), (45, .bool false), (46, .bool false), (54, .slice Az nz capz), (55, iq (((i : Nat) : Int) % W)), (56, iq (((i : Nat) : Int) / W)), (57, .bool false)] ?_
   refine cont_done ?_
   refine then_normal ?_
   refine cont_forget 0 rfl ?_
   refine cont_rowEqR 0 (plcL W X Y s (splB W H al px ca cb cc cd xsz) i) (plcL W X Y s (splB W H al px ca cb cc cd xsz) (i + 1)) rfl (plcL_no hB_) ?_
   refine cont_again (i + 1, A, g, k, cp) (show (i + 1) ≤ n from (by omega)) (show n - (i + 1) < n - i from by omega) (by kernel_rfl) (by kernel_rfl)
  have hB_ : (splB W H al px ca cb cc cd xsz) ((i : Int) % W) ((i : Int) / W) = false := spl_no3 hw1 hnum (by omega) (plcB_no (.inl c8_))
  refine bS [0, 0, 0, 0, 0] 11 0 [(1, .slice Az nz capz), (2, .bool true), (3, .pointer (pB b1)), (7, .slice A k cp), (8, iq ((i : Nat) : Int)), (9, iq (((i : Nat) : Int) % W)), (10, iq (((i : Nat) : Int) / W)), (39, .pointer (pB b5)), (40, iq (pa (px.getD (i : Nat) 0))), (41, .bool false), (42, .bool false), (43, .pointer (some ⟨b1, 7, none⟩)), (44, iq al), (45, .bool false), (46, .bool false), (54, undef), (55, undef), (56, undef), (57, undef), (58, .bool false)] ?_
  refine cont_done ?_
  refine then_normal ?_
  refine cont_false rfl ?_
  refine cont_skip ?_
  refine blk_normal ?_
  refine then_normal ?_
  refine cont_region 3 rfl ?_
  refine bS [0, 0] 2 1 [(1, .slice Az nz capz), (2, .bool true), (3, .pointer (pB b1)), (7, .slice A k cp), (19, iq (IntKind.i64.wrap (((i : Nat) : Int) + 1))), (39, .pointer (pB b5)), (40, iq (pa (px.getD (i : Nat) 0))), (41, .bool false), (42, .bool false), (43, .pointer (some ⟨b1, 7, none⟩)), (44, iq al), (45, .bool false), (46, .bool false), (54, undef), (55, undef), (56, undef), (57, undef)] ?_
  refine cont_recast 19 (iq (IntKind.i64.wrap (((i : Nat) : Int) + 1))) (iq (((i : Nat) : Int) + 1)) rfl (wrapI (by omega) (by omega)) ?_
  refine bS [0] 3 0 [(1, .slice Az nz capz), (2, .bool true), (3, .pointer (pB b1)), (7, .slice A k cp), (8, iq (((i : Nat) : Int) + 1)), (39, .pointer (pB b5)), (40, iq (pa (px.getD (i : Nat) 0))), (41, .bool false), (42, .bool false), (43, .pointer (some ⟨b1, 7, none⟩)), (44, iq al), (45, .bool false), (46, .bool false), (54, undef), (55, undef), (56, undef), (57, undef)] ?_
  refine cont_done ?_
  refine then_normal ?_
  refine cont_forget 0 rfl ?_
  refine cont_rowEqR 0 (plcL W X Y s (splB W H al px ca cb cc cd xsz) i) (plcL W X Y s (splB W H al px ca cb cc cd xsz) (i + 1)) rfl (plcL_no hB_) ?_
  refine cont_again (i + 1, A, g, k, cp) (show (i + 1) ≤ n from (by omega)) (show n - (i + 1) < n - i from by omega) (by kernel_rfl) (by kernel_rfl)
 replace c4_ := of_decide_eq_false c4_
 refine cont_false rfl ?_
 refine cont_exit ?_
 refine then_exit ?_
 refine then_exit ?_
 refine blk_exit ?_
 refine then_normal ?_
 refine cont_seq ?_
 refine cont_region 3 rfl ?_
 refine cont_fact (F := (0 < k → (A : Option Addr) = pB g) ∧ (plcL W X Y s (splB W H al px ca cb cc cd xsz) i).length = k ∧ k ≤ cp ∧ cp ≤ maxLen) (fun w hT => Row.factsR (hT.ok 0 _ rfl)) (fun hr14_ => ?_)
 obtain ⟨hr14_a, hr14_l, hr14_c, hr14_m⟩ := hr14_
 unfold maxLen at hr14_m
 refine bS [0] 1 2 [(101, .slice A k cp)] ?_
 refine cont_forget 1 rfl ?_
 refine pl_step 2 1 rfl rfl ?_
 refine call_gen (d := 102) (α := Option Addr × Nat × Nat × Nat) (fun x_ => .slice x_.1 x_.2.2.1 x_.2.2.2) (fun x_ => [.gen (rowE (x_.1) x_.2.1 x_.2.2.1 x_.2.2.2 28 4 (rvals (canR (plcL W X Y s (splB W H al px ca cb cc cd xsz) i))) true), .gen (rowE (A) g k cp 28 4 (rvals (plcL W X Y s (splB W H al px ca cb cc cd xsz) i)) true), .gen (rdE (pB r) r 0 n 1 (ivals .u32 px)), .gen (rdE (Az) gz oz nz 4 (rvals xsz))]) (fun x_ => True) (by kernel_rfl) (fun w hT => (refOf A g 0 k cp (plcL W X Y s (splB W H al px ca cb cc cd xsz) i) w (hT.viewRo (.cons (i := 0) rfl Vw.rowRd .nil) rfl) (by omega)).mono fun e w' ⟨A15, g16, k17, cp18, he_, ht_⟩ => ⟨(A15, g16, k17, cp18), he_, trivial, hT.news ht_ rfl⟩) ?_
 rintro ⟨A15, g16, k17, cp18⟩ hf19_
 refine cont_norm [(101, .slice A k cp), (102, .slice A15 k17 cp18)] _ (by kernel_rfl) rfl ?_
 refine cont_fact (F := (0 < k17 → (A15 : Option Addr) = pB g16) ∧ (canR (plcL W X Y s (splB W H al px ca cb cc cd xsz) i)).length = k17 ∧ k17 ≤ cp18 ∧ cp18 ≤ maxLen) (fun w hT => Row.factsR (hT.ok 0 _ rfl)) (fun hr20_ => ?_)
 obtain ⟨hr20_a, hr20_l, hr20_c, hr20_m⟩ := hr20_
 unfold maxLen at hr20_m
 refine bS [0] 3 0 [(6, .slice A15 k17 cp18)] ?_
 refine cont_done ?_
 refine then_normal ?_
 refine cont_ret ?_
 refine ret_one (.inl rfl) rfl 0 (.slice A15 k17 cp18) (by kernel_rfl) (by kernel_rfl) (fun w hT => ?_)
 replace hT := hT.erase 3 (fun e h hw => by cases h; first | rfl | cases hw)
 replace hT := hT.erase 2 (fun e h hw => by cases h; first | rfl | cases hw)
 replace hT := hT.erase 1 (fun e h hw => by cases h; first | rfl | cases hw)
 have hin : i = n := by omega
 subst hin
 exact ⟨_, _, _, _, rfl, hT⟩

theorem paySolidU (m : Nat) (W H : Int) (r n cap : Nat) (px : List Int) (X Y s al ca cb cc cd : Int) (Az : Option Addr) (gz oz nz capz : Nat) (xsz : List Rect) (w : World) (hT0 : Tab w w [.ro m [.int .i64 W, .int .i64 H, .slice (some ⟨r, 0, none⟩) n cap] 91, .gen (rdE (some ⟨r, 0, none⟩) r 0 n 1 (ivals .u32 px)), .gen (rdE (Az) gz oz nz 4 (rvals xsz))]) (hcap : n ≤ cap) (hok : ImgOk W H n px) (hs : 1 ≤ s ∧ s ≤ 8) (hX : -1000000 ≤ X ∧ X ≤ 1000000) (hY : -1000000 ≤ Y ∧ Y ≤ 1000000) (hnz : nz ≤ 200000) (hcz : (canR xsz).length ≤ 200000) :
    Calls Tryz.prog 19 #[.agg #[.pointer (some ⟨m, 0, none⟩), .int .i64 X, .int .i64 Y, .int .i64 s, .int .i64 al, .int .i64 ca, .int .i64 cb, .int .i64 cc, .int .i64 cd], .slice Az nz capz] w fun e w' => ∃ (A_ : Option Addr) (g_ k_ cp_ : Nat), e = .returned (.slice A_ k_ cp_) ∧ Tab w w' [.gen (rowE (A_) g_ k_ cp_ 28 4 (rvals (canR (plcL W X Y s (splB W H al px ca cb cc cd xsz) n))) true)] := by
  by_cases h : al = 255
  · subst h
    refine (paySolid m W H r n cap px X Y s ca cb cc cd Az gz oz nz capz xsz w hT0 _ rfl hcap hok hs hX hY hnz hcz).mono fun e w' hp => ?_
    obtain ⟨os, ho, A_, g_, k_, cp_, he, hT⟩ := hp
    rw [solid_same xsz hs hX hY ⟨hok.w1, hok.w2⟩ ⟨hok.h1, hok.h2⟩ hok.num ho] at hT
    exact ⟨A_, g_, k_, cp_, he, hT⟩
  · refine (paySolidN m X Y s al ca cb cc cd Az nz capz w h).mono fun e w' hp => ?_
    refine ⟨none, 0, 0, 0, hp.1, ?_⟩
    rw [solid_none xsz n h]
    rw [show canR [] = [] from by first | rfl | decide +kernel | simp [canR]]
    exact ((Tab.start w).below hp.2).nilR _ _


end Go.Proofs.YtgpcgfjfmjehgaaGreat

