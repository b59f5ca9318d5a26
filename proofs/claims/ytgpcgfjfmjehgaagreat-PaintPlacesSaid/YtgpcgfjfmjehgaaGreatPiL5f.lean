/- Contracts of functions of the given program, printed by a program of this project. -/
import Derived.Test.YtgpcgfjfmjehgaaGreatPiL5e
import Derived.Test.YtgpcgfjfmjehgaaGreatPiDz
import Derived.Test.YtgpcgfjfmjehgaaGreatProg
set_option linter.unusedVariables false
set_option linter.unusedSimpArgs false
namespace Go.Proofs.YtgpcgfjfmjehgaaGreat
open Go Go.RowKit
set_option maxRecDepth 100000
set_option maxHeartbeats 8000000

theorem payPlace (m : Nat) (W H : Int) (r n cap : Nat) (px : List Int) (X Y s al ca cb cc cd : Int) (Az : Option Addr) (gz oz nz capz : Nat) (xsz : List Rect) (w : World) (hT0 : Tab w w [.ro m [.int .i64 W, .int .i64 H, .slice (some ⟨r, 0, none⟩) n cap] 91, .gen (rdE (some ⟨r, 0, none⟩) r 0 n 1 (ivals .u32 px)), .gen (rdE (Az) gz oz nz 4 (rvals xsz))]) (R : List Rect) (hR : R = regM andB (canR xsz) (canR [(⟨ca, cb, cc, cd⟩ : Rect)])) (hcap : n ≤ cap) (hok : ImgOk W H n px) (hs : 1 ≤ s ∧ s ≤ 8) (hX : -1000000 ≤ X ∧ X ≤ 1000000) (hY : -1000000 ≤ Y ∧ Y ≤ 1000000) (hnz : nz ≤ 200000) (hcz : (canR xsz).length ≤ 200000) (hRl : R.length ≤ 200000) :
    Calls Tryz.prog 16 #[.agg #[.pointer (some ⟨m, 0, none⟩), .int .i64 X, .int .i64 Y, .int .i64 s, .int .i64 al, .int .i64 ca, .int .i64 cb, .int .i64 cc, .int .i64 cd], .slice Az nz capz] w fun e w' => ∃ (A_ : Option Addr) (g_ k_ cp_ : Nat), e = .returned (.slice A_ k_ cp_) ∧ Tab w w' [.gen (rowE (A_) g_ k_ cp_ 28 4 (rvals (canR (R.map (shQ W H X Y s)))) true)] := by
 have hw1 := hok.w1
 have hw2 := hok.w2
 have hh1 := hok.h1
 have hh2 := hok.h2
 have hnum := hok.num
 have hlen := hok.len
 have hle := hok.le
 obtain ⟨hraz, hrlz⟩ := Rd.factsR (hT0.ok 2 _ rfl)
 refine enter 32 [(0, .agg #[.pointer (pB m), iq X, iq Y, iq s, iq al, iq ca, iq cb, iq cc, iq cd]), (1, .slice Az nz capz)] [.ro m [iq W, iq H, .slice (pB r) n cap] 91, .gen (rdE (pB r) r 0 n 1 (ivals .u32 px)), .gen (rdE (Az) gz oz nz 4 (rvals xsz))] Tryz.func16 rfl Tryz.ntmps16 rfl (by kernel_rfl) hT0 ?_
 refine cont_seq ?_
 refine cont_region 2 rfl ?_
 refine batch1 [0, 0] 2 0 (fun b1 => [(1, .slice Az nz capz), (2, .pointer (pB b1))]) (fun b1 => [.cells b1 [.pointer (pB m), iq X, iq Y, iq s, iq al, iq ca, iq cb, iq cc, iq cd] 47 true, .ro m [iq W, iq H, .slice (pB r) n cap] 91, .gen (rdE (pB r) r 0 n 1 (ivals .u32 px)), .gen (rdE (Az) gz oz nz 4 (rvals xsz))]) rfl rfl [1, 2] (fun _ => rfl) (fun b1 => by kernel_rfl) (fun b1 => by kernel_rfl) (fun b1 => ?_)
 refine cont_done ?_
 refine then_normal ?_
 refine cont_seq ?_
 refine cont_region 1 rfl ?_
 refine bS [0] 1 0 [(1, .slice Az nz capz), (2, .pointer (pB b1)), (5, .slice none 0 0)] ?_
 refine cont_done ?_
 refine then_normal ?_
 refine cont_seq ?_
 refine cont_seq ?_
 refine cont_region 6 rfl ?_
 refine bS [0, 0, 0] 3 3 [(2, .pointer (pB b1)), (5, .slice none 0 0), (10, .slice Az nz capz), (12, .agg #[iq ca, iq cb, iq cc, iq cd])] ?_
 refine pl_step 4 2 rfl rfl ?_
 refine call_gen (d := 13) (α := Option Addr × Nat × Nat × Nat) (fun x_ => .slice x_.1 x_.2.2.1 x_.2.2.2) (fun x_ => [.gen (rowE (x_.1) x_.2.1 x_.2.2.1 x_.2.2.2 28 4 (rvals (regM andB (canR xsz) (canR [(⟨ca, cb, cc, cd⟩ : Rect)]))) true), .cells b1 [.pointer (pB m), iq X, iq Y, iq s, iq al, iq ca, iq cb, iq cc, iq cd] 47 true, .ro m [iq W, iq H, .slice (pB r) n cap] 91, .gen (rdE (pB r) r 0 n 1 (ivals .u32 px)), .gen (rdE (Az) gz oz nz 4 (rvals xsz))]) (fun x_ => True) (by kernel_rfl) (fun w hT => (payWithin Az gz oz nz capz xsz ca cb cc cd w (hT.viewRo (.cons (i := 3) rfl Vw.rd .nil) rfl) hnz hcz).mono fun e w' ⟨A2, g3, k4, cp5, he_, ht_⟩ => ⟨(A2, g3, k4, cp5), he_, trivial, hT.news ht_ rfl⟩) ?_
 rintro ⟨A2, g3, k4, cp5⟩ hf6_
 refine cont_norm [(2, .pointer (pB b1)), (5, .slice none 0 0), (10, .slice Az nz capz), (12, .agg #[iq ca, iq cb, iq cc, iq cd]), (13, .slice A2 k4 cp5)] _ (by kernel_rfl) rfl ?_
 refine cont_fact (F := (0 < k4 → (A2 : Option Addr) = pB g3) ∧ (regM andB (canR xsz) (canR [(⟨ca, cb, cc, cd⟩ : Rect)])).length = k4 ∧ k4 ≤ cp5 ∧ cp5 ≤ maxLen) (fun w hT => Row.factsR (hT.ok 0 _ rfl)) (fun hr7_ => ?_)
 obtain ⟨hr7_a, hr7_l, hr7_c, hr7_m⟩ := hr7_
 unfold maxLen at hr7_m
 refine bS [0, 0] 6 0 [(2, .pointer (pB b1)), (5, .slice none 0 0), (13, .slice A2 k4 cp5), (14, iq (k4 : Int)), (15, iq 0)] ?_
 refine cont_done ?_
 refine then_normal ?_
 refine cont_block ?_
 refine cont_rowEqR 0 (regM andB (canR xsz) (canR [(⟨ca, cb, cc, cd⟩ : Rect)])) (R) rfl hR.symm ?_
 refine cont_fact (F := (0 < k4 → (A2 : Option Addr) = pB g3) ∧ R.length = k4 ∧ k4 ≤ cp5 ∧ cp5 ≤ maxLen) (fun w hT => Row.factsR (hT.ok 0 _ rfl)) (fun hr8_ => ?_)
 obtain ⟨hr8_a, hr8_l, hr8_c, hr8_m⟩ := hr8_
 unfold maxLen at hr8_m
 refine cont_nilrow 28 4 ?_
 refine cont_norm [(2, .pointer (pB b1)), (5, .slice none 0 0), (13, .slice A2 k4 cp5), (14, iq (k4 : Int)), (15, iq 0)] _ (by kernel_rfl) rfl ?_
 refine cont_rowEqR 0 ([]) ((R.take 0).map (shQ W H X Y s)) rfl rfl ?_
 refine cont_loop (α := Nat × Option Addr × Nat × Nat) (fun x_ : Nat × Option Addr × Nat × Nat => x_.1 ≤ k4) (fun x_ : Nat × Option Addr × Nat × Nat => [(2, .pointer (pB b1)), (5, .slice x_.2.1 x_.1 x_.2.2.2), (13, .slice A2 k4 cp5), (14, iq (k4 : Int)), (15, iq ((x_.1 : Nat) : Int))]) (fun x_ : Nat × Option Addr × Nat × Nat => [.gen (rowE (x_.2.1) x_.2.2.1 x_.1 x_.2.2.2 28 4 (rvals ((R.take x_.1).map (shQ W H X Y s))) true), .gen (rowE (A2) g3 k4 cp5 28 4 (rvals R) true), .cells b1 [.pointer (pB m), iq X, iq Y, iq s, iq al, iq ca, iq cb, iq cc, iq cd] 47 true, .ro m [iq W, iq H, .slice (pB r) n cap] 91, .gen (rdE (pB r) r 0 n 1 (ivals .u32 px)), .gen (rdE (Az) gz oz nz 4 (rvals xsz))]) (fun x_ : Nat × Option Addr × Nat × Nat => k4 - x_.1) (0, none, 0, 0) (show (0) ≤ k4 from (by omega)) (by kernel_rfl) (by kernel_rfl) ?_
 rintro ⟨i, Aq, gq, cq⟩ hinv10_
 replace hinv10_ : i ≤ k4 := hinv10_
 refine cont_norm [(2, .pointer (pB b1)), (5, .slice Aq i cq), (13, .slice A2 k4 cp5), (14, iq (k4 : Int)), (15, iq ((i : Nat) : Int))] _ (by kernel_rfl) rfl ?_
 have hi := hinv10_
 refine cont_seq ?_
 refine cont_region 1 rfl ?_
 refine bS [0] 1 0 [(2, .pointer (pB b1)), (5, .slice Aq i cq), (13, .slice A2 k4 cp5), (14, iq (k4 : Int)), (15, iq ((i : Nat) : Int)), (16, .bool (decide (((i : Nat) : Int) < (k4 : Int))))] ?_
 refine cont_done ?_
 refine then_normal ?_
 refine cont_seq ?_
 refine cont_split 16 (decide (((i : Nat) : Int) < (k4 : Int))) rfl (fun c11_ => ?_) (fun c11_ => ?_)
 ·
  replace c11_ := of_decide_eq_true c11_
  refine cont_true rfl ?_
  refine cont_skip ?_
  refine then_normal ?_
  refine cont_seq ?_
  refine cont_block ?_
  refine cont_seq ?_
  refine cont_region 4 rfl ?_
  refine pl_step 1 3 rfl rfl ?_
  refine cont_recast 13 (.slice A2 k4 cp5) (.slice (pB g3) k4 cp5) rfl (by rw [hr8_a (by omega)]) ?_
  refine sem_step 17 (Instr.indexAt 33 (.slice (pB g3) k4 cp5) (iq ((i : Nat) : Int))) (.pointer (some ⟨g3, (i : Nat) * 4, none⟩)) (by kernel_rfl) (fun w hT => run_indexAt (e := 28) (sz := 4) _ (by kernel_rfl) (by kernel_rfl) (by omega) (by omega) (by omega) w) ?_
  refine pl_step 2 2 rfl rfl ?_
  refine sem_step 18 (Instr.loadAt 28 (.pointer (some ⟨g3, (i : Nat) * 4, none⟩))) (.agg #[iq ((rget R (i : Nat)).x0), iq ((rget R (i : Nat)).y0), iq ((rget R (i : Nat)).x1), iq ((rget R (i : Nat)).y1)]) (by kernel_rfl) (fun w hT => run_loadN (m := 4) (cs := rcells (rget R (i : Nat))) (by kernel_rfl) (by kernel_rfl) rfl (Rd.rect0 (Row.rd (hT.ok 1 _ rfl)) (by omega))) ?_
  refine batch1 [0, 0] 4 0 (fun b12 => [(2, .pointer (pB b1)), (5, .slice Aq i cq), (7, .pointer (pB b12)), (13, .slice (pB g3) k4 cp5), (14, iq (k4 : Int)), (15, iq ((i : Nat) : Int))]) (fun b12 => [.cells b12 [iq ((rget R (i : Nat)).x0), iq ((rget R (i : Nat)).y0), iq ((rget R (i : Nat)).x1), iq ((rget R (i : Nat)).y1)] 28 true, .gen (rowE (Aq) gq i cq 28 4 (rvals ((R.take i).map (shQ W H X Y s))) true), .gen (rowE (A2) g3 k4 cp5 28 4 (rvals R) true), .cells b1 [.pointer (pB m), iq X, iq Y, iq s, iq al, iq ca, iq cb, iq cc, iq cd] 47 true, .ro m [iq W, iq H, .slice (pB r) n cap] 91, .gen (rdE (pB r) r 0 n 1 (ivals .u32 px)), .gen (rdE (Az) gz oz nz 4 (rvals xsz))]) rfl rfl [2, 5, 7, 13, 14, 15] (fun _ => rfl) (fun b12 => by kernel_rfl) (fun b12 => by kernel_rfl) (fun b12 => ?_)
  refine cont_done ?_
  refine then_normal ?_
  refine cont_seq ?_
  refine cont_region 9 rfl ?_
  refine bS [3, 0] 2 7 [(2, .pointer (pB b1)), (5, .slice Aq i cq), (13, .slice (pB g3) k4 cp5), (14, iq (k4 : Int)), (15, iq ((i : Nat) : Int)), (20, .agg #[.pointer (pB m), iq X, iq Y, iq s, iq al, iq ca, iq cb, iq cc, iq cd]), (21, .agg #[iq ((rget R (i : Nat)).x0), iq ((rget R (i : Nat)).y0), iq ((rget R (i : Nat)).x1), iq ((rget R (i : Nat)).y1)])] ?_
  refine cont_forget 0 rfl ?_
  refine pl_step 3 6 rfl rfl ?_
  refine call_pure (d := 22) (.tuple #[.agg #[iq ((shwR W H X Y s ((rget R (i : Nat)).x0) ((rget R (i : Nat)).y0) ((rget R (i : Nat)).x1) ((rget R (i : Nat)).y1)).x0), iq ((shwR W H X Y s ((rget R (i : Nat)).x0) ((rget R (i : Nat)).y0) ((rget R (i : Nat)).x1) ((rget R (i : Nat)).y1)).y0), iq ((shwR W H X Y s ((rget R (i : Nat)).x0) ((rget R (i : Nat)).y0) ((rget R (i : Nat)).x1) ((rget R (i : Nat)).y1)).x1), iq ((shwR W H X Y s ((rget R (i : Nat)).x0) ((rget R (i : Nat)).y0) ((rget R (i : Nat)).x1) ((rget R (i : Nat)).y1)).y1)], .bool (shwB W H X Y s ((rget R (i : Nat)).x0) ((rget R (i : Nat)).y0) ((rget R (i : Nat)).x1) ((rget R (i : Nat)).y1))]) (by kernel_rfl) (fun w hT => layShown m W H r n cap px X Y s al ca cb cc cd ((rget R (i : Nat)).x0) ((rget R (i : Nat)).y0) ((rget R (i : Nat)).x1) ((rget R (i : Nat)).y1) w ⟨hT.ok 3 _ rfl, hT.ok 4 _ rfl, by omega⟩ hok) ?_
  refine batch1 [0, 0, 0, 0, 0, 0] 9 0 (fun b13 => [(2, .pointer (pB b1)), (5, .slice Aq i cq), (8, .pointer (pB b13)), (13, .slice (pB g3) k4 cp5), (14, iq (k4 : Int)), (15, iq ((i : Nat) : Int))]) (fun b13 => [.cells b13 [iq ((shwR W H X Y s ((rget R (i : Nat)).x0) ((rget R (i : Nat)).y0) ((rget R (i : Nat)).x1) ((rget R (i : Nat)).y1)).x0), iq ((shwR W H X Y s ((rget R (i : Nat)).x0) ((rget R (i : Nat)).y0) ((rget R (i : Nat)).x1) ((rget R (i : Nat)).y1)).y0), iq ((shwR W H X Y s ((rget R (i : Nat)).x0) ((rget R (i : Nat)).y0) ((rget R (i : Nat)).x1) ((rget R (i : Nat)).y1)).x1), iq ((shwR W H X Y s ((rget R (i : Nat)).x0) ((rget R (i : Nat)).y0) ((rget R (i : Nat)).x1) ((rget R (i : Nat)).y1)).y1)] 28 true, .gen (rowE (Aq) gq i cq 28 4 (rvals ((R.take i).map (shQ W H X Y s))) true), .gen (rowE (A2) g3 k4 cp5 28 4 (rvals R) true), .cells b1 [.pointer (pB m), iq X, iq Y, iq s, iq al, iq ca, iq cb, iq cc, iq cd] 47 true, .ro m [iq W, iq H, .slice (pB r) n cap] 91, .gen (rdE (pB r) r 0 n 1 (ivals .u32 px)), .gen (rdE (Az) gz oz nz 4 (rvals xsz))]) rfl rfl [2, 5, 8, 13, 14, 15] (fun _ => rfl) (fun b13 => by kernel_rfl) (fun b13 => by kernel_rfl) (fun b13 => ?_)
  refine cont_done ?_
  refine then_normal ?_
  refine cont_region 5 rfl ?_
  refine batch1 [0, 0, 0] 3 2 (fun b14 => [(2, .pointer (pB b1)), (13, .slice (pB g3) k4 cp5), (14, iq (k4 : Int)), (15, iq ((i : Nat) : Int)), (25, .slice Aq i cq), (27, .slice (pB b14) 1 1)]) (fun b14 => [.cells b14 [iq ((shwR W H X Y s ((rget R (i : Nat)).x0) ((rget R (i : Nat)).y0) ((rget R (i : Nat)).x1) ((rget R (i : Nat)).y1)).x0), iq ((shwR W H X Y s ((rget R (i : Nat)).x0) ((rget R (i : Nat)).y0) ((rget R (i : Nat)).x1) ((rget R (i : Nat)).y1)).y0), iq ((shwR W H X Y s ((rget R (i : Nat)).x0) ((rget R (i : Nat)).y0) ((rget R (i : Nat)).x1) ((rget R (i : Nat)).y1)).x1), iq ((shwR W H X Y s ((rget R (i : Nat)).x0) ((rget R (i : Nat)).y0) ((rget R (i : Nat)).x1) ((rget R (i : Nat)).y1)).y1)] 28 true, .cells b13 [iq ((shwR W H X Y s ((rget R (i : Nat)).x0) ((rget R (i : Nat)).y0) ((rget R (i : Nat)).x1) ((rget R (i : Nat)).y1)).x0), iq ((shwR W H X Y s ((rget R (i : Nat)).x0) ((rget R (i : Nat)).y0) ((rget R (i : Nat)).x1) ((rget R (i : Nat)).y1)).y0), iq ((shwR W H X Y s ((rget R (i : Nat)).x0) ((rget R (i : Nat)).y0) ((rget R (i : Nat)).x1) ((rget R (i : Nat)).y1)).x1), iq ((shwR W H X Y s ((rget R (i : Nat)).x0) ((rget R (i : Nat)).y0) ((rget R (i : Nat)).x1) ((rget R (i : Nat)).y1)).y1)] 28 true, .gen (rowE (Aq) gq i cq 28 4 (rvals ((R.take i).map (shQ W H X Y s))) true), .gen (rowE (A2) g3 k4 cp5 28 4 (rvals R) true), .cells b1 [.pointer (pB m), iq X, iq Y, iq s, iq al, iq ca, iq cb, iq cc, iq cd] 47 true, .ro m [iq W, iq H, .slice (pB r) n cap] 91, .gen (rdE (pB r) r 0 n 1 (ivals .u32 px)), .gen (rdE (Az) gz oz nz 4 (rvals xsz))]) rfl rfl [2, 13, 14, 15, 25, 27] (fun _ => rfl) (fun b14 => by kernel_rfl) (fun b14 => by kernel_rfl) (fun b14 => ?_)
  refine cont_forget 1 rfl ?_
  refine pl_step 4 1 rfl rfl ?_
  refine sem_stepW (α := Option Addr × Nat × Nat) 28 (Builtin.append_ #[33, 33] 33 #[.slice Aq i cq, .slice (pB b14) 1 1]) (fun x_ => .slice x_.1 (i + 1) x_.2.2) (fun x_ => [.cells b14 [iq ((shwR W H X Y s ((rget R (i : Nat)).x0) ((rget R (i : Nat)).y0) ((rget R (i : Nat)).x1) ((rget R (i : Nat)).y1)).x0), iq ((shwR W H X Y s ((rget R (i : Nat)).x0) ((rget R (i : Nat)).y0) ((rget R (i : Nat)).x1) ((rget R (i : Nat)).y1)).y0), iq ((shwR W H X Y s ((rget R (i : Nat)).x0) ((rget R (i : Nat)).y0) ((rget R (i : Nat)).x1) ((rget R (i : Nat)).y1)).x1), iq ((shwR W H X Y s ((rget R (i : Nat)).x0) ((rget R (i : Nat)).y0) ((rget R (i : Nat)).x1) ((rget R (i : Nat)).y1)).y1)] 28 true, .gen (rowE (x_.1) x_.2.1 (i + 1) x_.2.2 28 4 (rvals (((R.take i).map (shQ W H X Y s)) ++ [(⟨(shwR W H X Y s ((rget R (i : Nat)).x0) ((rget R (i : Nat)).y0) ((rget R (i : Nat)).x1) ((rget R (i : Nat)).y1)).x0, (shwR W H X Y s ((rget R (i : Nat)).x0) ((rget R (i : Nat)).y0) ((rget R (i : Nat)).x1) ((rget R (i : Nat)).y1)).y0, (shwR W H X Y s ((rget R (i : Nat)).x0) ((rget R (i : Nat)).y0) ((rget R (i : Nat)).x1) ((rget R (i : Nat)).y1)).x1, (shwR W H X Y s ((rget R (i : Nat)).x0) ((rget R (i : Nat)).y0) ((rget R (i : Nat)).x1) ((rget R (i : Nat)).y1)).y1⟩ : Rect)])) true), .gen (rowE (A2) g3 k4 cp5 28 4 (rvals R) true), .cells b1 [.pointer (pB m), iq X, iq Y, iq s, iq al, iq ca, iq cb, iq cc, iq cd] 47 true, .ro m [iq W, iq H, .slice (pB r) n cap] 91, .gen (rdE (pB r) r 0 n 1 (ivals .u32 px)), .gen (rdE (Az) gz oz nz 4 (rvals xsz))]) (fun _ => True) (by kernel_rfl) (fun w hT => append_own (n' := (i + 1)) (z := .agg #[iq 0, iq 0, iq 0, iq 0]) hT (i := 1) (bytes := 32) rfl (by kernel_rfl) (by kernel_rfl) rfl (by decide) (by decide) (Rd.ofCells (vals := rvals [(⟨(shwR W H X Y s ((rget R (i : Nat)).x0) ((rget R (i : Nat)).y0) ((rget R (i : Nat)).x1) ((rget R (i : Nat)).y1)).x0, (shwR W H X Y s ((rget R (i : Nat)).x0) ((rget R (i : Nat)).y0) ((rget R (i : Nat)).x1) ((rget R (i : Nat)).y1)).y0, (shwR W H X Y s ((rget R (i : Nat)).x0) ((rget R (i : Nat)).y0) ((rget R (i : Nat)).x1) ((rget R (i : Nat)).y1)).x1, (shwR W H X Y s ((rget R (i : Nat)).x0) ((rget R (i : Nat)).y0) ((rget R (i : Nat)).x1) ((rget R (i : Nat)).y1)).y1⟩ : Rect)]) (hT.ok 0 _ rfl) rfl rfl) (rvals_one [(⟨(shwR W H X Y s ((rget R (i : Nat)).x0) ((rget R (i : Nat)).y0) ((rget R (i : Nat)).x1) ((rget R (i : Nat)).y1)).x0, (shwR W H X Y s ((rget R (i : Nat)).x0) ((rget R (i : Nat)).y0) ((rget R (i : Nat)).x1) ((rget R (i : Nat)).y1)).y0, (shwR W H X Y s ((rget R (i : Nat)).x0) ((rget R (i : Nat)).y0) ((rget R (i : Nat)).x1) ((rget R (i : Nat)).y1)).x1, (shwR W H X Y s ((rget R (i : Nat)).x0) ((rget R (i : Nat)).y0) ((rget R (i : Nat)).x1) ((rget R (i : Nat)).y1)).y1⟩ : Rect)]) (by omega) (rvals_append ((R.take i).map (shQ W H X Y s)) [(⟨(shwR W H X Y s ((rget R (i : Nat)).x0) ((rget R (i : Nat)).y0) ((rget R (i : Nat)).x1) ((rget R (i : Nat)).y1)).x0, (shwR W H X Y s ((rget R (i : Nat)).x0) ((rget R (i : Nat)).y0) ((rget R (i : Nat)).x1) ((rget R (i : Nat)).y1)).y0, (shwR W H X Y s ((rget R (i : Nat)).x0) ((rget R (i : Nat)).y0) ((rget R (i : Nat)).x1) ((rget R (i : Nat)).y1)).x1, (shwR W H X Y s ((rget R (i : Nat)).x0) ((rget R (i : Nat)).y0) ((rget R (i : Nat)).x1) ((rget R (i : Nat)).y1)).y1⟩ : Rect)]) rfl) ?_
  rintro ⟨A15, g15, cp15⟩ -
  refine cont_norm [(2, .pointer (pB b1)), (13, .slice (pB g3) k4 cp5), (14, iq (k4 : Int)), (15, iq ((i : Nat) : Int)), (25, .slice Aq i cq), (27, .slice (pB b14) 1 1), (28, .slice A15 (i + 1) cp15)] _ (by kernel_rfl) rfl ?_
  refine cont_fact (F := (0 < (i + 1) → (A15 : Option Addr) = pB g15) ∧ (((R.take i).map (shQ W H X Y s)) ++ [(⟨(shwR W H X Y s ((rget R (i : Nat)).x0) ((rget R (i : Nat)).y0) ((rget R (i : Nat)).x1) ((rget R (i : Nat)).y1)).x0, (shwR W H X Y s ((rget R (i : Nat)).x0) ((rget R (i : Nat)).y0) ((rget R (i : Nat)).x1) ((rget R (i : Nat)).y1)).y0, (shwR W H X Y s ((rget R (i : Nat)).x0) ((rget R (i : Nat)).y0) ((rget R (i : Nat)).x1) ((rget R (i : Nat)).y1)).x1, (shwR W H X Y s ((rget R (i : Nat)).x0) ((rget R (i : Nat)).y0) ((rget R (i : Nat)).x1) ((rget R (i : Nat)).y1)).y1⟩ : Rect)]).length = (i + 1) ∧ (i + 1) ≤ cp15 ∧ cp15 ≤ maxLen) (fun w hT => Row.factsR (hT.ok 1 _ rfl)) (fun hr16_ => ?_)
  obtain ⟨hr16_a, hr16_l, hr16_c, hr16_m⟩ := hr16_
  unfold maxLen at hr16_m
  refine bS [0] 5 0 [(2, .pointer (pB b1)), (5, .slice A15 (i + 1) cp15), (13, .slice (pB g3) k4 cp5), (14, iq (k4 : Int)), (15, iq ((i : Nat) : Int))] ?_
  refine cont_forget 0 rfl ?_
  refine cont_done ?_
  refine blk_normal ?_
  refine then_normal ?_
  refine cont_region 2 rfl ?_
  refine bS [0] 1 1 [(2, .pointer (pB b1)), (5, .slice A15 (i + 1) cp15), (13, .slice (pB g3) k4 cp5), (14, iq (k4 : Int)), (29, iq (IntKind.i64.wrap (((i : Nat) : Int) + 1)))] ?_
  refine cont_recast 29 (iq (IntKind.i64.wrap (((i : Nat) : Int) + 1))) (iq (((i : Nat) : Int) + 1)) rfl (wrapI (by omega) (by omega)) ?_
  refine bS [0] 2 0 [(2, .pointer (pB b1)), (5, .slice A15 (i + 1) cp15), (13, .slice (pB g3) k4 cp5), (14, iq (k4 : Int)), (15, iq (((i : Nat) : Int) + 1))] ?_
  refine cont_done ?_
  refine then_normal ?_
  refine cont_recast 13 (.slice (pB g3) k4 cp5) (.slice A2 k4 cp5) rfl (by rw [hr8_a (by omega)]) ?_
  refine cont_rowEqR 0 (((R.take i).map (shQ W H X Y s)) ++ [(⟨(shwR W H X Y s ((rget R (i : Nat)).x0) ((rget R (i : Nat)).y0) ((rget R (i : Nat)).x1) ((rget R (i : Nat)).y1)).x0, (shwR W H X Y s ((rget R (i : Nat)).x0) ((rget R (i : Nat)).y0) ((rget R (i : Nat)).x1) ((rget R (i : Nat)).y1)).y0, (shwR W H X Y s ((rget R (i : Nat)).x0) ((rget R (i : Nat)).y0) ((rget R (i : Nat)).x1) ((rget R (i : Nat)).y1)).x1, (shwR W H X Y s ((rget R (i : Nat)).x0) ((rget R (i : Nat)).y0) ((rget R (i : Nat)).x1) ((rget R (i : Nat)).y1)).y1⟩ : Rect)]) ((R.take (i + 1)).map (shQ W H X Y s)) rfl (map_put (f := (shQ W H X Y s)) (by omega)) ?_
  refine cont_again (i + 1, A15, g15, cp15) (show (i + 1) ≤ k4 from (by omega)) (show k4 - (i + 1) < k4 - i from by omega) (by kernel_rfl) (by kernel_rfl)
 replace c11_ := of_decide_eq_false c11_
 refine cont_false rfl ?_
 refine cont_exit ?_
 refine then_exit ?_
 refine then_exit ?_
 refine blk_exit ?_
 refine then_normal ?_
 refine cont_seq ?_
 refine cont_region 3 rfl ?_
 refine bS [0] 1 2 [(30, .slice Aq i cq)] ?_
 refine cont_forget 2 rfl ?_
 refine pl_step 2 1 rfl rfl ?_
 refine call_gen (d := 31) (α := Option Addr × Nat × Nat × Nat) (fun x_ => .slice x_.1 x_.2.2.1 x_.2.2.2) (fun x_ => [.gen (rowE (x_.1) x_.2.1 x_.2.2.1 x_.2.2.2 28 4 (rvals (canR ((R.take i).map (shQ W H X Y s)))) true), .gen (rowE (Aq) gq i cq 28 4 (rvals ((R.take i).map (shQ W H X Y s))) true), .gen (rowE (A2) g3 k4 cp5 28 4 (rvals R) true), .ro m [iq W, iq H, .slice (pB r) n cap] 91, .gen (rdE (pB r) r 0 n 1 (ivals .u32 px)), .gen (rdE (Az) gz oz nz 4 (rvals xsz))]) (fun x_ => True) (by kernel_rfl) (fun w hT => (regOf Aq gq 0 i cq ((R.take i).map (shQ W H X Y s)) w (hT.viewRo (.cons (i := 0) rfl Vw.rowRd .nil) rfl) (by omega)).mono fun e w' ⟨A17, g18, k19, cp20, he_, ht_⟩ => ⟨(A17, g18, k19, cp20), he_, trivial, hT.news ht_ rfl⟩) ?_
 rintro ⟨A17, g18, k19, cp20⟩ hf21_
 refine cont_norm [(30, .slice Aq i cq), (31, .slice A17 k19 cp20)] _ (by kernel_rfl) rfl ?_
 refine cont_fact (F := (0 < k19 → (A17 : Option Addr) = pB g18) ∧ (canR ((R.take i).map (shQ W H X Y s))).length = k19 ∧ k19 ≤ cp20 ∧ cp20 ≤ maxLen) (fun w hT => Row.factsR (hT.ok 0 _ rfl)) (fun hr22_ => ?_)
 obtain ⟨hr22_a, hr22_l, hr22_c, hr22_m⟩ := hr22_
 unfold maxLen at hr22_m
 refine bS [0] 3 0 [(4, .slice A17 k19 cp20)] ?_
 refine cont_done ?_
 refine then_normal ?_
 refine cont_ret ?_
 refine ret_one (.inl rfl) rfl 0 (.slice A17 k19 cp20) (by kernel_rfl) (by kernel_rfl) (fun w hT => ?_)
 replace hT := hT.erase 5 (fun e h hw => by cases h; first | rfl | cases hw)
 replace hT := hT.erase 4 (fun e h hw => by cases h; first | rfl | cases hw)
 replace hT := hT.erase 3 (fun e h hw => by cases h; first | rfl | cases hw)
 replace hT := hT.erase 2 (fun e h hw => by cases h; first | rfl | cases hw)
 replace hT := hT.erase 1 (fun e h hw => by cases h; first | rfl | cases hw)
 have hik : i = R.length := by omega
 subst hik
 rw [List.take_length] at hT
 exact ⟨_, _, _, _, rfl, hT⟩

theorem paySolidN (m : Nat) (X Y s al ca cb cc cd : Int) (Az : Option Addr) (nz capz : Nat) (w : World) (hal : al ≠ 255) :
    Calls Tryz.prog 19 #[.agg #[.pointer (some ⟨m, 0, none⟩), .int .i64 X, .int .i64 Y, .int .i64 s, .int .i64 al, .int .i64 ca, .int .i64 cb, .int .i64 cc, .int .i64 cd], .slice Az nz capz] w fun e w' => e = .returned (.slice none 0 0) ∧ Below w.heap.size w w' := by
 refine enter 82 [(0, .agg #[.pointer (pB m), iq X, iq Y, iq s, iq al, iq ca, iq cb, iq cc, iq cd]), (1, .slice Az nz capz)] [] Tryz.func19 rfl Tryz.ntmps19 rfl (by kernel_rfl) (Tab.start w) ?_
 refine cont_seq ?_
 refine cont_region 2 rfl ?_
 refine batch1 [0, 0] 2 0 (fun b1 => [(1, .slice Az nz capz), (2, .pointer (pB b1))]) (fun b1 => [.cells b1 [.pointer (pB m), iq X, iq Y, iq s, iq al, iq ca, iq cb, iq cc, iq cd] 47 true]) rfl rfl [1, 2] (fun _ => rfl) (fun b1 => by kernel_rfl) (fun b1 => by kernel_rfl) (fun b1 => ?_)
 refine cont_done ?_
 refine then_normal ?_
 refine cont_seq ?_
 refine cont_seq ?_
 refine cont_region 3 rfl ?_
 refine bS [0, 0, 0] 3 0 [(1, .slice Az nz capz), (2, .pointer (pB b1)), (13, .bool (al != 255))] ?_
 refine cont_done ?_
 refine then_normal ?_
 refine cont_recast 13 (.bool (al != 255)) (.bool true) rfl (congrArg Value.bool (by simpa using hal)) ?_
 refine cont_true rfl ?_
 refine cont_seq ?_
 refine cont_region 1 rfl ?_
 refine bS [0] 1 0 [(4, .slice none 0 0)] ?_
 refine cont_forget 0 rfl ?_
 refine cont_done ?_
 refine then_normal ?_
 refine cont_ret ?_
 refine then_ret ?_
 refine ret_one (.inl rfl) rfl 0 (.slice none 0 0) (by kernel_rfl) (by kernel_rfl) (fun w hT => ?_)
 exact ⟨rfl, hT.post rfl⟩

theorem paySolid (m : Nat) (W H : Int) (r n cap : Nat) (px : List Int) (X Y s ca cb cc cd : Int) (Az : Option Addr) (gz oz nz capz : Nat) (xsz : List Rect) (w : World) (hT0 : Tab w w [.ro m [.int .i64 W, .int .i64 H, .slice (some ⟨r, 0, none⟩) n cap] 91, .gen (rdE (some ⟨r, 0, none⟩) r 0 n 1 (ivals .u32 px)), .gen (rdE (Az) gz oz nz 4 (rvals xsz))]) (R : List Rect) (hR : R = regM andB (canR xsz) (canR [cutR ca cb cc cd 0 0 W H])) (hcap : n ≤ cap) (hok : ImgOk W H n px) (hs : 1 ≤ s ∧ s ≤ 8) (hX : -1000000 ≤ X ∧ X ≤ 1000000) (hY : -1000000 ≤ Y ∧ Y ≤ 1000000) (hnz : nz ≤ 200000) (hcz : (canR xsz).length ≤ 200000) :
    Calls Tryz.prog 19 #[.agg #[.pointer (some ⟨m, 0, none⟩), .int .i64 X, .int .i64 Y, .int .i64 s, .int .i64 255, .int .i64 ca, .int .i64 cb, .int .i64 cc, .int .i64 cd], .slice Az nz capz] w fun e w' => ∃ os : List Rect, (∀ p q, hasL os p q = (hasL R p q && solB W H px p q)) ∧ ∃ (A_ : Option Addr) (g_ k_ cp_ : Nat), e = .returned (.slice A_ k_ cp_) ∧ Tab w w' [.gen (rowE (A_) g_ k_ cp_ 28 4 (rvals (placeP W H X Y s os ⟨ca, cb, cc, cd⟩)) true)] := by
 have hw1 := hok.w1
 have hw2 := hok.w2
 have hh1 := hok.h1
 have hh2 := hok.h2
 have hnum := hok.num
 have hlen := hok.len
 have hle := hok.le
 obtain ⟨hraz, hrlz⟩ := Rd.factsR (hT0.ok 2 _ rfl)
 have hOn : OnImg W H R := by rw [hR]; exact onImg_cut _ hok.w1 hok.h1
 have hReg : IsReg R (hasL R) := by rw [hR]; exact (regM_isReg rfl _ _).self
 have hR64 := fun r hr => r64_of (reg_in hReg hOn r hr) hok.w2 hok.h2
 have hRl := regP_len hReg hOn hok.w1 hok.num
 have hcl := cntL_le W n R
 refine enterM 82 [(0, .agg #[.pointer (pB m), iq X, iq Y, iq s, iq 255, iq ca, iq cb, iq cc, iq cd]), (1, .slice Az nz capz)] [.ro m [iq W, iq H, .slice (pB r) n cap] 91, .gen (rdE (pB r) r 0 n 1 (ivals .u32 px)), .gen (rdE (Az) gz oz nz 4 (rvals xsz))] Tryz.func19 rfl Tryz.ntmps19 rfl (by kernel_rfl) hT0 ?_
 refine cont_seq ?_
 refine cont_region 2 rfl ?_
 refine batch1 [0, 0] 2 0 (fun b1 => [(1, .slice Az nz capz), (2, .pointer (pB b1))]) (fun b1 => [.cells b1 [.pointer (pB m), iq X, iq Y, iq s, iq 255, iq ca, iq cb, iq cc, iq cd] 47 true, .ro m [iq W, iq H, .slice (pB r) n cap] 91, .gen (rdE (pB r) r 0 n 1 (ivals .u32 px)), .gen (rdE (Az) gz oz nz 4 (rvals xsz))]) rfl rfl [1, 2] (fun _ => rfl) (fun b1 => by kernel_rfl) (fun b1 => by kernel_rfl) (fun b1 => ?_)
 refine cont_done ?_
 refine then_normal ?_
 refine cont_seq ?_
 refine cont_seq ?_
 refine cont_region 3 rfl ?_
 refine bS [0, 0, 0] 3 0 [(1, .slice Az nz capz), (2, .pointer (pB b1)), (13, .bool false)] ?_
 refine cont_done ?_
 refine then_normal ?_
 refine cont_false rfl ?_
 refine cont_skip ?_
 refine then_normal ?_
 refine cont_seq ?_
 refine cont_region 1 rfl ?_
 refine batch1 [0] 1 0 (fun b2 => [(1, .slice Az nz capz), (2, .pointer (pB b1)), (5, .pointer (pB b2))]) (fun b2 => [.cells b2 [.slice none 0 0] 33 true, .cells b1 [.pointer (pB m), iq X, iq Y, iq s, iq 255, iq ca, iq cb, iq cc, iq cd] 47 true, .ro m [iq W, iq H, .slice (pB r) n cap] 91, .gen (rdE (pB r) r 0 n 1 (ivals .u32 px)), .gen (rdE (Az) gz oz nz 4 (rvals xsz))]) rfl rfl [1, 2, 5] (fun _ => rfl) (fun b2 => by kernel_rfl) (fun b2 => by kernel_rfl) (fun b2 => ?_)
 refine cont_done ?_
 refine then_normal ?_
 refine cont_seq ?_
 refine cont_seq ?_
 refine drawn_enter 9 [] rfl (by kernel_rfl) ?_
 refine takes 0 [] [(0, 0), (1, 0), (3, 0), (2, 1), (4, 1)] 4 [4, 2, 3, 1, 0] [(2, .pointer (pB b1)), (5, .pointer (pB b2)), (14, .slice Az nz capz), (16, .agg #[iq ca, iq cb, iq cc, iq cd]), (18, .pointer (pB m))] (by kernel_rfl) (pok_then (pok_then pok_np)) (by kernel_rfl) rfl rfl (by kernel_rfl) (by kernel_rfl) ?_
 refine drawn_one 5 3 rfl (by kernel_rfl) ?_
 refine call_pure (d := 19) (.agg #[iq 0, iq 0, iq W, iq H]) (by kernel_rfl) (fun w hT => imgBox m W H r n cap px  w ⟨hT.ok 2 _ rfl, hT.ok 3 _ rfl, by omega⟩ hok) ?_
 refine drawn_next 0 [] (by kernel_rfl) ?_
 refine drawn_one 6 2 rfl (by kernel_rfl) ?_
 refine call_pure (d := 20) (.agg #[iq ((cutR ca cb cc cd 0 0 W H).x0), iq ((cutR ca cb cc cd 0 0 W H).y0), iq ((cutR ca cb cc cd 0 0 W H).x1), iq ((cutR ca cb cc cd 0 0 W H).y1)]) (by kernel_rfl) (fun w hT => rectCut ca cb cc cd 0 0 W H w) ?_
 refine drawn_next 0 [] (by kernel_rfl) ?_
 refine drawn_one 7 1 rfl (by kernel_rfl) ?_
 refine call_gen (d := 21) (α := Option Addr × Nat × Nat × Nat) (fun x_ => .slice x_.1 x_.2.2.1 x_.2.2.2) (fun x_ => [.gen (rowE (x_.1) x_.2.1 x_.2.2.1 x_.2.2.2 28 4 (rvals (regM andB (canR xsz) (canR [(⟨(cutR ca cb cc cd 0 0 W H).x0, (cutR ca cb cc cd 0 0 W H).y0, (cutR ca cb cc cd 0 0 W H).x1, (cutR ca cb cc cd 0 0 W H).y1⟩ : Rect)]))) true), .cells b2 [.slice none 0 0] 33 true, .cells b1 [.pointer (pB m), iq X, iq Y, iq s, iq 255, iq ca, iq cb, iq cc, iq cd] 47 true, .ro m [iq W, iq H, .slice (pB r) n cap] 91, .gen (rdE (pB r) r 0 n 1 (ivals .u32 px)), .gen (rdE (Az) gz oz nz 4 (rvals xsz))]) (fun x_ => True) (by kernel_rfl) (fun w hT => (payWithin Az gz oz nz capz xsz ((cutR ca cb cc cd 0 0 W H).x0) ((cutR ca cb cc cd 0 0 W H).y0) ((cutR ca cb cc cd 0 0 W H).x1) ((cutR ca cb cc cd 0 0 W H).y1) w (hT.viewRo (.cons (i := 4) rfl Vw.rd .nil) rfl) hnz hcz).mono fun e w' ⟨A3, g4, k5, cp6, he_, ht_⟩ => ⟨(A3, g4, k5, cp6), he_, trivial, hT.news ht_ rfl⟩) ?_
 rintro ⟨A3, g4, k5, cp6⟩ hf7_
 refine cont_norm [(2, .pointer (pB b1)), (5, .pointer (pB b2)), (14, .slice Az nz capz), (16, .agg #[iq ca, iq cb, iq cc, iq cd]), (18, .pointer (pB m)), (19, .agg #[iq 0, iq 0, iq W, iq H]), (20, .agg #[iq ((cutR ca cb cc cd 0 0 W H).x0), iq ((cutR ca cb cc cd 0 0 W H).y0), iq ((cutR ca cb cc cd 0 0 W H).x1), iq ((cutR ca cb cc cd 0 0 W H).y1)]), (21, .slice A3 k5 cp6)] _ (by kernel_rfl) rfl ?_
 refine cont_fact (F := (0 < k5 → (A3 : Option Addr) = pB g4) ∧ (regM andB (canR xsz) (canR [(⟨(cutR ca cb cc cd 0 0 W H).x0, (cutR ca cb cc cd 0 0 W H).y0, (cutR ca cb cc cd 0 0 W H).x1, (cutR ca cb cc cd 0 0 W H).y1⟩ : Rect)])).length = k5 ∧ k5 ≤ cp6 ∧ cp6 ≤ maxLen) (fun w hT => Row.factsR (hT.ok 0 _ rfl)) (fun hr8_ => ?_)
 obtain ⟨hr8_a, hr8_l, hr8_c, hr8_m⟩ := hr8_
 unfold maxLen at hr8_m
 refine drawn_next 1 [] (by kernel_rfl) ?_
 refine drawn_one 8 0 rfl (by kernel_rfl) ?_
 refine call_gen (d := 22) (α := Nat) (fun x_ => .func (.func 55) #[] #[.pointer (pB x_)]) (fun x_ => [.cells x_ [.slice A3 k5 cp6] 33 true, .gen (rowE (A3) g4 k5 cp6 28 4 (rvals (regM andB (canR xsz) (canR [(⟨(cutR ca cb cc cd 0 0 W H).x0, (cutR ca cb cc cd 0 0 W H).y0, (cutR ca cb cc cd 0 0 W H).x1, (cutR ca cb cc cd 0 0 W H).y1⟩ : Rect)]))) true), .cells b2 [.slice none 0 0] 33 true, .cells b1 [.pointer (pB m), iq X, iq Y, iq s, iq 255, iq ca, iq cb, iq cc, iq cd] 47 true, .ro m [iq W, iq H, .slice (pB r) n cap] 91, .gen (rdE (pB r) r 0 n 1 (ivals .u32 px)), .gen (rdE (Az) gz oz nz 4 (rvals xsz))]) (fun x_ => True) (by kernel_rfl) (fun w hT => (payPoints A3 k5 cp6 w).mono fun e w' ⟨kb9, he_, ht_⟩ => ⟨kb9, he_, trivial, hT.news ht_ rfl⟩) ?_
 rintro kb9 hf10_
 refine cont_norm [(2, .pointer (pB b1)), (5, .pointer (pB b2)), (14, .slice Az nz capz), (16, .agg #[iq ca, iq cb, iq cc, iq cd]), (18, .pointer (pB m)), (19, .agg #[iq 0, iq 0, iq W, iq H]), (20, .agg #[iq ((cutR ca cb cc cd 0 0 W H).x0), iq ((cutR ca cb cc cd 0 0 W H).y0), iq ((cutR ca cb cc cd 0 0 W H).x1), iq ((cutR ca cb cc cd 0 0 W H).y1)]), (21, .slice A3 k5 cp6), (22, .func (.func 55) #[] #[.pointer (pB kb9)])] _ (by kernel_rfl) rfl ?_
 refine drawn_next 2 [] (by kernel_rfl) ?_
 refine drawn_done (by kernel_rfl) ?_
 refine then_normal ?_
 refine cont_block ?_
 refine cont_fact (F := (0 < k5 → (A3 : Option Addr) = pB g4) ∧ (regM andB (canR xsz) (canR [(⟨(cutR ca cb cc cd 0 0 W H).x0, (cutR ca cb cc cd 0 0 W H).y0, (cutR ca cb cc cd 0 0 W H).x1, (cutR ca cb cc cd 0 0 W H).y1⟩ : Rect)])).length = k5 ∧ k5 ≤ cp6 ∧ cp6 ≤ maxLen) (fun w hT => Row.factsR (hT.ok 1 _ rfl)) (fun hr11_ => ?_)
 obtain ⟨hr11_a, hr11_l, hr11_c, hr11_m⟩ := hr11_
 unfold maxLen at hr11_m
 refine cont_rowEqR 1 (regM andB (canR xsz) (canR [(⟨(cutR ca cb cc cd 0 0 W H).x0, (cutR ca cb cc cd 0 0 W H).y0, (cutR ca cb cc cd 0 0 W H).x1, (cutR ca cb cc cd 0 0 W H).y1⟩ : Rect)])) (R) rfl hR.symm ?_
 refine cont_weaken 0 (.ro kb9 [.slice A3 k5 cp6] 33) rfl rfl Vw.roc rfl ?_
 refine cont_norm [(2, .pointer (pB b1)), (5, .pointer (pB b2)), (14, .slice Az nz capz), (16, .agg #[iq ca, iq cb, iq cc, iq cd]), (18, .pointer (pB m)), (19, .agg #[iq 0, iq 0, iq W, iq H]), (20, .agg #[iq ((cutR ca cb cc cd 0 0 W H).x0), iq ((cutR ca cb cc cd 0 0 W H).y0), iq ((cutR ca cb cc cd 0 0 W H).x1), iq ((cutR ca cb cc cd 0 0 W H).y1)]), (21, .slice A3 k5 cp6), (22, .func (.func 55) #[] #[.pointer (pB kb9)])] _ (by kernel_rfl) rfl ?_
 refine cont_weaken 1 (.gen (rdE (A3) g4 0 k5 4 (rvals R))) rfl rfl Vw.rowRd rfl ?_
 refine cont_norm [(2, .pointer (pB b1)), (5, .pointer (pB b2)), (14, .slice Az nz capz), (16, .agg #[iq ca, iq cb, iq cc, iq cd]), (18, .pointer (pB m)), (19, .agg #[iq 0, iq 0, iq W, iq H]), (20, .agg #[iq ((cutR ca cb cc cd 0 0 W H).x0), iq ((cutR ca cb cc cd 0 0 W H).y0), iq ((cutR ca cb cc cd 0 0 W H).x1), iq ((cutR ca cb cc cd 0 0 W H).y1)]), (21, .slice A3 k5 cp6), (22, .func (.func 55) #[] #[.pointer (pB kb9)])] _ (by kernel_rfl) rfl ?_
 refine cont_nilrow 28 4 ?_
 refine cont_norm [(2, .pointer (pB b1)), (5, .pointer (pB b2)), (14, .slice Az nz capz), (16, .agg #[iq ca, iq cb, iq cc, iq cd]), (18, .pointer (pB m)), (19, .agg #[iq 0, iq 0, iq W, iq H]), (20, .agg #[iq ((cutR ca cb cc cd 0 0 W H).x0), iq ((cutR ca cb cc cd 0 0 W H).y0), iq ((cutR ca cb cc cd 0 0 W H).x1), iq ((cutR ca cb cc cd 0 0 W H).y1)]), (21, .slice A3 k5 cp6), (22, .func (.func 55) #[] #[.pointer (pB kb9)])] _ (by kernel_rfl) rfl ?_
 refine cont_pick [1, 2, 0, 3, 4, 5, 6, 7] [.ro kb9 [.slice A3 k5 cp6] 33, .gen (rdE (A3) g4 0 k5 4 (rvals R)), .gen (rowE (none) 0 0 0 28 4 (rvals []) true), .cells b2 [.slice none 0 0] 33 true, .cells b1 [.pointer (pB m), iq X, iq Y, iq s, iq 255, iq ca, iq cb, iq cc, iq cd] 47 true, .ro m [iq W, iq H, .slice (pB r) n cap] 91, .gen (rdE (pB r) r 0 n 1 (ivals .u32 px)), .gen (rdE (Az) gz oz nz 4 (rvals xsz))] (by decide) rfl rfl ?_
 refine cont_rangeFunc (X := Int × Int) (β := List Rect × Option Addr × Nat × Nat × Nat) (γ := Unit) (gf := 55) (lb := #[.pointer (pB kb9)]) (fun z_ : Int × Int => #[iq z_.1, iq z_.2]) [.ro kb9 [.slice A3 k5 cp6] 33, .gen (rdE (A3) g4 0 k5 4 (rvals R))] (fun z_ : Int × Int => []) (fun xs_ => xs_ = regP R) (fun xs_ => xs_ <+: regP R) (fun (pre : List (Int × Int)) (x_ : List Rect × Option Addr × Nat × Nat × Nat) => SolI (solB W H px) x_.1 pre ∧ 0 = 0) (fun x_ : List Rect × Option Addr × Nat × Nat × Nat => [.gen (rowE (x_.2.1) x_.2.2.1 x_.2.2.2.1 x_.2.2.2.2 28 4 (rvals x_.1) true), .cells b2 [.slice x_.2.1 x_.2.2.2.1 x_.2.2.2.2] 33 true, .cells b1 [.pointer (pB m), iq X, iq Y, iq s, iq 255, iq ca, iq cb, iq cc, iq cd] 47 true, .ro m [iq W, iq H, .slice (pB r) n cap] 91, .gen (rdE (pB r) r 0 n 1 (ivals .u32 px)), .gen (rdE (Az) gz oz nz 4 (rvals xsz))]) (fun (_ : Code) (_ : Unit) => False) (fun x_ : Unit => []) (([] : List Rect), none, 0, 0, 0) rfl (fun _ _ => rfl) (fun _ => rfl) (by kernel_rfl) (ptsIter kb9 A3 g4 0 k5 cp6 R (by omega) hR64 _) (⟨SolI.nil _, rfl⟩) rfl ?_ ?_ ?_ ?_
 ·
  rintro l_ z13_ e13_ e13b_ e13q_ pre ⟨x, y⟩ ⟨os, Ao, gw, ko, co⟩ B_ hinv14_ hsp_ hB_
  replace hinv14_ : SolI (solB W H px) os pre ∧ 0 = 0 := hinv14_
  replace hsp_ : (pre ++ [(x, y)]) <+: regP R := hsp_
  refine cont_norm [(2, .pointer (pB b1)), (5, .pointer (pB b2)), (23, iq x), (24, iq y)] _ (by kernel_rfl) rfl ?_
  refine mcont_seq ?_
  refine mcont_region 1 rfl (by kernel_rfl) ?_
  refine bS [0] 1 0 [(2, .pointer (pB b1)), (5, .pointer (pB b2)), (6, iq x), (24, iq y)] ?_
  refine cont_done ?_
  refine then_normal ?_
  refine mcont_region 1 rfl (by kernel_rfl) ?_
  refine bS [0] 1 0 [(2, .pointer (pB b1)), (5, .pointer (pB b2)), (6, iq x), (7, iq y)] ?_
  refine cont_done ?_
  refine then_normal ?_
  refine hB_ [(2, .pointer (pB b1)), (5, .pointer (pB b2)), (6, iq x), (7, iq y)] [z13_] [e13q_, .ro kb9 [.slice A3 k5 cp6] 33, .gen (rdE (A3) g4 0 k5 4 (rvals R)), .gen (rowE (Ao) gw ko co 28 4 (rvals os) true), .cells b2 [.slice Ao ko co] 33 true, .cells b1 [.pointer (pB m), iq X, iq Y, iq s, iq 255, iq ca, iq cb, iq cc, iq cd] 47 true, .ro m [iq W, iq H, .slice (pB r) n cap] 91, .gen (rdE (pB r) r 0 n 1 (ivals .u32 px)), .gen (rdE (Az) gz oz nz 4 (rvals xsz))] ?_
  refine cont_norm [(2, .pointer (pB b1)), (5, .pointer (pB b2)), (6, iq x), (7, iq y)] _ (by kernel_rfl) rfl ?_
  obtain ⟨hso, hok_⟩ := hinv14_
  have hmem := hasL_of_pre hsp_
  obtain ⟨hx0, hx1, hy0, hy1⟩ := hOn _ _ hmem
  have hlen2 := pre_len hsp_ hRl
  have hat := hok.atC_range x y
  have hsl := hso.len
  refine mcont_block ?_
  refine mcont_seq ?_
  refine mcont_region 10 rfl (by kernel_rfl) ?_
  refine bS [0, 7, 0, 0] 4 6 [(5, .pointer (pB b2)), (6, iq x), (7, iq y), (27, .pointer (pB m)), (28, iq x), (29, iq y)] ?_
  refine pl_step 5 5 rfl rfl ?_
  refine call_pure (d := 30) (.tuple #[.int .u32 (atC W H px x y), .bool (hasB 0 0 W H x y)]) (by kernel_rfl) (fun w hT => imgAt m W H r n cap px x y w ⟨hT.ok 8 _ rfl, hT.ok 9 _ rfl, by omega⟩ hok) ?_
  refine bS [0, 0, 0, 0, 0] 10 0 [(5, .pointer (pB b2)), (6, iq x), (7, iq y), (8, .int .u32 (atC W H px x y))] ?_
  refine cont_done ?_
  refine then_normal ?_
  refine mcont_seq ?_
  refine mcont_region 4 rfl (by kernel_rfl) ?_
  refine cont_fact (F := (0 < ko → (Ao : Option Addr) = pB gw) ∧ os.length = ko ∧ ko ≤ co ∧ co ≤ maxLen) (fun w hT => Row.factsR (hT.ok 5 _ rfl)) (fun hr15_ => ?_)
  obtain ⟨hr15_a, hr15_l, hr15_c, hr15_m⟩ := hr15_
  unfold maxLen at hr15_m
  have hroa := hr15_a
  refine bS [6, 0, 0] 3 1 [(5, .pointer (pB b2)), (6, iq x), (7, iq y), (8, .int .u32 (atC W H px x y)), (35, iq (IntKind.i64.wrap ((ko : Int) - 1)))] ?_
  refine cont_recast 35 (iq (IntKind.i64.wrap ((ko : Int) - 1))) (iq ((ko : Int) - 1)) rfl (wrapI (by omega) (by omega)) ?_
  refine bS [0] 4 0 [(5, .pointer (pB b2)), (6, iq x), (7, iq y), (8, .int .u32 (atC W H px x y)), (10, iq ((ko : Int) - 1))] ?_
  refine cont_done ?_
  refine then_normal ?_
  refine mcont_block ?_
  refine mcont_seq ?_
  refine mcont_region 4 rfl (by kernel_rfl) ?_
  refine bS [0] 1 3 [(5, .pointer (pB b2)), (6, iq x), (7, iq y), (10, iq ((ko : Int) - 1)), (47, .int .u32 (atC W H px x y))] ?_
  refine pl_step 2 2 rfl rfl ?_
  refine call_pure (d := 48) (.bool ((pa (atC W H px x y)) == 255)) (by kernel_rfl) (fun w hT => colorSolid (atC W H px x y) w (by omega) (by omega)) ?_
  refine bS [0, 0] 4 0 [(5, .pointer (pB b2)), (6, iq x), (7, iq y), (10, iq ((ko : Int) - 1)), (46, .bool (!((pa (atC W H px x y)) == 255)))] ?_
  refine cont_done ?_
  refine then_normal ?_
  refine cont_split 46 (!((pa (atC W H px x y)) == 255)) rfl (fun c16_ => ?_) (fun c16_ => ?_)
  ·
   replace c16_ : ((pa (atC W H px x y)) == 255) = false := by simpa using c16_
   replace c16_ := ne_of_beqf c16_
   have hsk : solB W H px x y = false := by unfold solB; simpa using c16_
   refine mcont_true rfl ?_
   refine mcont_skip ?_
   refine blk_normal ?_
   refine blk_normal ?_
   refine rq_next (os, Ao, gw, ko, co) (show SolI (solB W H px) (os) (pre ++ [(x, y)]) ∧ 0 = 0 from ⟨(hso.skip hsk), by omega⟩) rfl
  replace c16_ : ((pa (atC W H px x y)) == 255) = true := by simpa using c16_
  replace c16_ := eq_of_beqt c16_
  have hsk : solB W H px x y = true := by unfold solB; simpa using c16_
  refine mcont_false rfl ?_
  refine mcont_seq ?_
  refine mcont_region 21 rfl (by kernel_rfl) ?_
  refine bS [0, 0, 0] 3 18 [(5, .pointer (pB b2)), (6, iq x), (7, iq y), (10, iq ((ko : Int) - 1)), (53, .bool (decide (((ko : Int) - 1) ≥ 0)))] ?_
  refine cont_split 53 (decide (((ko : Int) - 1) ≥ 0)) rfl (fun c17_ => ?_) (fun c17_ => ?_)
  ·
   replace c17_ := of_decide_eq_true c17_
   refine bS [6, 0] 5 16 [(5, .pointer (pB b2)), (6, iq x), (7, iq y), (10, iq ((ko : Int) - 1)), (53, .bool true), (54, .slice Ao ko co), (55, iq ((ko : Int) - 1))] ?_
   refine pl_step 6 15 rfl rfl ?_
   refine cont_recast 54 (.slice Ao ko co) (.slice (pB gw) ko co) rfl (by rw [hroa (by omega)]) ?_
   refine sem_step 56 (Instr.indexAt 33 (.slice (pB gw) ko co) (iq ((ko : Int) - 1))) (.pointer (some ⟨gw, (Int.toNat ((ko : Int) - 1)) * 4, none⟩)) (by kernel_rfl) (fun w hT => run_indexAt (e := 28) (sz := 4) _ (by kernel_rfl) (by kernel_rfl) (by omega) (by omega) (by omega) w) ?_
   refine bS [0] 7 14 [(5, .pointer (pB b2)), (6, iq x), (7, iq y), (10, iq ((ko : Int) - 1)), (53, .bool true), (57, .pointer (some ⟨gw, (Int.toNat ((ko : Int) - 1)) * 4 + 1, none⟩))] ?_
   refine pl_step 8 13 rfl rfl ?_
   refine sem_step 58 (Instr.loadAt 3 (.pointer (some ⟨gw, (Int.toNat ((ko : Int) - 1)) * 4 + 1, none⟩))) (iq ((rget os (Int.toNat ((ko : Int) - 1))).y0)) (by kernel_rfl) (fun w hT => run_load1 (by kernel_rfl) (Rd.cellF0 (Row.rd (hT.ok 5 _ rfl)) (Int.toNat ((ko : Int) - 1)) 1 _ (by omega) rfl)) ?_
   refine bS [0, 0, 0, 0] 12 9 [(5, .pointer (pB b2)), (6, iq x), (7, iq y), (10, iq ((ko : Int) - 1)), (62, .bool (((rget os (Int.toNat ((ko : Int) - 1))).y0) == y))] ?_
   refine cont_split 62 (((rget os (Int.toNat ((ko : Int) - 1))).y0) == y) rfl (fun c18_ => ?_) (fun c18_ => ?_)
   ·
    replace c18_ := eq_of_beqt c18_
    refine bS [6, 0] 14 7 [(5, .pointer (pB b2)), (6, iq x), (7, iq y), (10, iq ((ko : Int) - 1)), (62, .bool true), (63, .slice Ao ko co), (64, iq ((ko : Int) - 1))] ?_
    refine pl_step 15 6 rfl rfl ?_
    refine cont_recast 63 (.slice Ao ko co) (.slice (pB gw) ko co) rfl (by rw [hroa (by omega)]) ?_
    refine sem_step 65 (Instr.indexAt 33 (.slice (pB gw) ko co) (iq ((ko : Int) - 1))) (.pointer (some ⟨gw, (Int.toNat ((ko : Int) - 1)) * 4, none⟩)) (by kernel_rfl) (fun w hT => run_indexAt (e := 28) (sz := 4) _ (by kernel_rfl) (by kernel_rfl) (by omega) (by omega) (by omega) w) ?_
    refine bS [0] 16 5 [(5, .pointer (pB b2)), (6, iq x), (7, iq y), (10, iq ((ko : Int) - 1)), (62, .bool true), (66, .pointer (some ⟨gw, (Int.toNat ((ko : Int) - 1)) * 4 + 2, none⟩))] ?_
    refine pl_step 17 4 rfl rfl ?_
    refine sem_step 67 (Instr.loadAt 3 (.pointer (some ⟨gw, (Int.toNat ((ko : Int) - 1)) * 4 + 2, none⟩))) (iq ((rget os (Int.toNat ((ko : Int) - 1))).x1)) (by kernel_rfl) (fun w hT => run_load1 (by kernel_rfl) (Rd.cellF0 (Row.rd (hT.ok 5 _ rfl)) (Int.toNat ((ko : Int) - 1)) 2 _ (by omega) rfl)) ?_
    refine bS [0, 0, 0, 0] 21 0 [(5, .pointer (pB b2)), (6, iq x), (7, iq y), (10, iq ((ko : Int) - 1)), (50, .bool (((rget os (Int.toNat ((ko : Int) - 1))).x1) == x))] ?_
    refine cont_done ?_
    refine then_normal ?_
    refine cont_split 50 (((rget os (Int.toNat ((ko : Int) - 1))).x1) == x) rfl (fun c19_ => ?_) (fun c19_ => ?_)
    ·
     replace c19_ := eq_of_beqt c19_
     refine mcont_true rfl ?_
     refine mcont_region 9 rfl (by kernel_rfl) ?_
     refine bS [6, 0] 2 7 [(71, .slice Ao ko co), (72, iq ((ko : Int) - 1))] ?_
     refine pl_step 3 6 rfl rfl ?_
     refine cont_recast 71 (.slice Ao ko co) (.slice (pB gw) ko co) rfl (by rw [hroa (by omega)]) ?_
     refine sem_step 73 (Instr.indexAt 33 (.slice (pB gw) ko co) (iq ((ko : Int) - 1))) (.pointer (some ⟨gw, (Int.toNat ((ko : Int) - 1)) * 4, none⟩)) (by kernel_rfl) (fun w hT => run_indexAt (e := 28) (sz := 4) _ (by kernel_rfl) (by kernel_rfl) (by omega) (by omega) (by omega) w) ?_
     refine bS [0] 4 5 [(71, .slice (pB gw) ko co), (72, iq ((ko : Int) - 1)), (74, .pointer (some ⟨gw, (Int.toNat ((ko : Int) - 1)) * 4 + 2, none⟩))] ?_
     refine pl_step 5 4 rfl rfl ?_
     refine sem_step 75 (Instr.loadAt 3 (.pointer (some ⟨gw, (Int.toNat ((ko : Int) - 1)) * 4 + 2, none⟩))) (iq ((rget os (Int.toNat ((ko : Int) - 1))).x1)) (by kernel_rfl) (fun w hT => run_load1 (by kernel_rfl) (Rd.cellF0 (Row.rd (hT.ok 5 _ rfl)) (Int.toNat ((ko : Int) - 1)) 2 _ (by omega) rfl)) ?_
     refine bS [0] 6 3 [(71, .slice (pB gw) ko co), (72, iq ((ko : Int) - 1)), (76, iq (IntKind.i64.wrap (((rget os (Int.toNat ((ko : Int) - 1))).x1) + 1)))] ?_
     refine cont_recast 76 (iq (IntKind.i64.wrap (((rget os (Int.toNat ((ko : Int) - 1))).x1) + 1))) (iq (((rget os (Int.toNat ((ko : Int) - 1))).x1) + 1)) rfl (wrapI (by omega) (by omega)) ?_
     refine pl_step 7 2 rfl rfl ?_
     refine sem_step 77 (Instr.indexAt 33 (.slice (pB gw) ko co) (iq ((ko : Int) - 1))) (.pointer (some ⟨gw, (Int.toNat ((ko : Int) - 1)) * 4, none⟩)) (by kernel_rfl) (fun w hT => run_indexAt (e := 28) (sz := 4) _ (by kernel_rfl) (by kernel_rfl) (by omega) (by omega) (by omega) w) ?_
     refine bS [0] 8 1 [(76, iq (((rget os (Int.toNat ((ko : Int) - 1))).x1) + 1)), (78, .pointer (some ⟨gw, (Int.toNat ((ko : Int) - 1)) * 4 + 2, none⟩))] ?_
     refine pl_step 9 0 rfl rfl ?_
     refine sem_stepU (Instr.storeAt 3 (.pointer (some ⟨gw, (Int.toNat ((ko : Int) - 1)) * 4 + 2, none⟩)) (iq (((rget os (Int.toNat ((ko : Int) - 1))).x1) + 1))) (fun _ => [z13_, e13b_, e13q_, .ro kb9 [.slice A3 k5 cp6] 33, .gen (rdE (A3) g4 0 k5 4 (rvals R)), .gen (rowE (Ao) gw ko co 28 4 (rvals (os.set (Int.toNat ((ko : Int) - 1)) { rget os (Int.toNat ((ko : Int) - 1)) with x1 := ((rget os (Int.toNat ((ko : Int) - 1))).x1) + 1 })) true), .cells b2 [.slice Ao ko co] 33 true, .cells b1 [.pointer (pB m), iq X, iq Y, iq s, iq 255, iq ca, iq cb, iq cc, iq cd] 47 true, .ro m [iq W, iq H, .slice (pB r) n cap] 91, .gen (rdE (pB r) r 0 n 1 (ivals .u32 px)), .gen (rdE (Az) gz oz nz 4 (rvals xsz))]) (fun _ => True) (by kernel_rfl) (fun w hT => store_fieldR hT (i := 5) (J := Int.toNat ((ko : Int) - 1)) (k := 2) { rget os (Int.toNat ((ko : Int) - 1)) with x1 := ((rget os (Int.toNat ((ko : Int) - 1))).x1) + 1 } rfl (by kernel_rfl) (by omega) (by decide) (by omega) rfl) (fun _ _ => ?_)
     refine cont_done ?_
     refine blk_normal ?_
     refine blk_normal ?_
     refine rq_next (os.set (Int.toNat ((ko : Int) - 1)) { rget os (Int.toNat ((ko : Int) - 1)) with x1 := ((rget os (Int.toNat ((ko : Int) - 1))).x1) + 1 }, Ao, gw, ko, co) (show SolI (solB W H px) (os.set (Int.toNat ((ko : Int) - 1)) { rget os (Int.toNat ((ko : Int) - 1)) with x1 := ((rget os (Int.toNat ((ko : Int) - 1))).x1) + 1 }) (pre ++ [(x, y)]) ∧ 0 = 0 from ⟨(hso.ext (by omega) (by omega) (by omega) hsk ⟨by omega, by omega⟩ ⟨by omega, by omega⟩), by omega⟩) rfl
    replace c19_ := ne_of_beqf c19_
    refine mcont_false rfl ?_
    refine mcont_region 11 rfl (by kernel_rfl) ?_
    refine bS [6, 0, 0, 0, 0] 5 6 [(5, .pointer (pB b2)), (7, iq y), (36, .slice Ao ko co), (37, iq x), (38, iq y), (40, iq (IntKind.i64.wrap (x + 1)))] ?_
    refine cont_recast 40 (iq (IntKind.i64.wrap (x + 1))) (iq (x + 1)) rfl (wrapI (by omega) (by omega)) ?_
    refine bS [0, 0] 7 4 [(5, .pointer (pB b2)), (36, .slice Ao ko co), (37, iq x), (38, iq y), (40, iq (x + 1)), (42, iq (IntKind.i64.wrap (y + 1)))] ?_
    refine cont_recast 42 (iq (IntKind.i64.wrap (y + 1))) (iq (y + 1)) rfl (wrapI (by omega) (by omega)) ?_
    refine batch1 [0, 0] 9 2 (fun b20 => [(5, .pointer (pB b2)), (36, .slice Ao ko co), (44, .slice (pB b20) 1 1)]) (fun b20 => [.cells b20 [iq x, iq y, iq (x + 1), iq (y + 1)] 28 true, z13_, e13b_, e13q_, .ro kb9 [.slice A3 k5 cp6] 33, .gen (rdE (A3) g4 0 k5 4 (rvals R)), .gen (rowE (Ao) gw ko co 28 4 (rvals os) true), .cells b2 [.slice Ao ko co] 33 true, .cells b1 [.pointer (pB m), iq X, iq Y, iq s, iq 255, iq ca, iq cb, iq cc, iq cd] 47 true, .ro m [iq W, iq H, .slice (pB r) n cap] 91, .gen (rdE (pB r) r 0 n 1 (ivals .u32 px)), .gen (rdE (Az) gz oz nz 4 (rvals xsz))]) rfl rfl [5, 36, 44] (fun _ => rfl) (fun b20 => by kernel_rfl) (fun b20 => by kernel_rfl) (fun b20 => ?_)
    refine pl_step 10 1 rfl rfl ?_
    refine sem_stepW (α := Option Addr × Nat × Nat) 45 (Builtin.append_ #[33, 33] 33 #[.slice Ao ko co, .slice (pB b20) 1 1]) (fun x_ => .slice x_.1 (ko + 1) x_.2.2) (fun x_ => [.cells b20 [iq x, iq y, iq (x + 1), iq (y + 1)] 28 true, z13_, e13b_, e13q_, .ro kb9 [.slice A3 k5 cp6] 33, .gen (rdE (A3) g4 0 k5 4 (rvals R)), .gen (rowE (x_.1) x_.2.1 (ko + 1) x_.2.2 28 4 (rvals (os ++ [(⟨x, y, x + 1, y + 1⟩ : Rect)])) true), .cells b2 [.slice Ao ko co] 33 true, .cells b1 [.pointer (pB m), iq X, iq Y, iq s, iq 255, iq ca, iq cb, iq cc, iq cd] 47 true, .ro m [iq W, iq H, .slice (pB r) n cap] 91, .gen (rdE (pB r) r 0 n 1 (ivals .u32 px)), .gen (rdE (Az) gz oz nz 4 (rvals xsz))]) (fun _ => True) (by kernel_rfl) (fun w hT => append_own (n' := (ko + 1)) (z := .agg #[iq 0, iq 0, iq 0, iq 0]) hT (i := 6) (bytes := 32) rfl (by kernel_rfl) (by kernel_rfl) rfl (by decide) (by decide) (Rd.ofCells (vals := rvals [(⟨x, y, x + 1, y + 1⟩ : Rect)]) (hT.ok 0 _ rfl) rfl rfl) (rvals_one [(⟨x, y, x + 1, y + 1⟩ : Rect)]) (by omega) (rvals_append os [(⟨x, y, x + 1, y + 1⟩ : Rect)]) rfl) ?_
    rintro ⟨A21, g21, cp21⟩ -
    refine cont_norm [(5, .pointer (pB b2)), (36, .slice Ao ko co), (44, .slice (pB b20) 1 1), (45, .slice A21 (ko + 1) cp21)] _ (by kernel_rfl) rfl ?_
    refine cont_fact (F := (0 < (ko + 1) → (A21 : Option Addr) = pB g21) ∧ (os ++ [(⟨x, y, x + 1, y + 1⟩ : Rect)]).length = (ko + 1) ∧ (ko + 1) ≤ cp21 ∧ cp21 ≤ maxLen) (fun w hT => Row.factsR (hT.ok 6 _ rfl)) (fun hr22_ => ?_)
    obtain ⟨hr22_a, hr22_l, hr22_c, hr22_m⟩ := hr22_
    unfold maxLen at hr22_m
    refine batch0 [7] 11 0 [] [.cells b20 [iq x, iq y, iq (x + 1), iq (y + 1)] 28 true, z13_, e13b_, e13q_, .ro kb9 [.slice A3 k5 cp6] 33, .gen (rdE (A3) g4 0 k5 4 (rvals R)), .gen (rowE (A21) g21 (ko + 1) cp21 28 4 (rvals (os ++ [(⟨x, y, x + 1, y + 1⟩ : Rect)])) true), .cells b2 [.slice A21 (ko + 1) cp21] 33 true, .cells b1 [.pointer (pB m), iq X, iq Y, iq s, iq 255, iq ca, iq cb, iq cc, iq cd] 47 true, .ro m [iq W, iq H, .slice (pB r) n cap] 91, .gen (rdE (pB r) r 0 n 1 (ivals .u32 px)), .gen (rdE (Az) gz oz nz 4 (rvals xsz))] rfl rfl (by kernel_rfl) (by kernel_rfl) ?_
    refine cont_forget 0 rfl ?_
    refine cont_done ?_
    refine blk_normal ?_
    refine blk_normal ?_
    refine rq_next (os ++ [(⟨x, y, x + 1, y + 1⟩ : Rect)], A21, g21, (ko + 1), cp21) (show SolI (solB W H px) (os ++ [(⟨x, y, x + 1, y + 1⟩ : Rect)]) (pre ++ [(x, y)]) ∧ 0 = 0 from ⟨(hso.new hsk ⟨by omega, by omega⟩ ⟨by omega, by omega⟩), by omega⟩) rfl
   replace c18_ := ne_of_beqf c18_
   refine bS [0, 0, 0, 0, 0, 0, 0, 0, 0] 21 0 [(5, .pointer (pB b2)), (6, iq x), (7, iq y), (10, iq ((ko : Int) - 1)), (50, .bool false)] ?_
   refine cont_done ?_
   refine then_normal ?_
   refine mcont_false rfl ?_
   refine mcont_region 11 rfl (by kernel_rfl) ?_
   refine bS [6, 0, 0, 0, 0] 5 6 [(5, .pointer (pB b2)), (7, iq y), (36, .slice Ao ko co), (37, iq x), (38, iq y), (40, iq (IntKind.i64.wrap (x + 1)))] ?_
   refine cont_recast 40 (iq (IntKind.i64.wrap (x + 1))) (iq (x + 1)) rfl (wrapI (by omega) (by omega)) ?_
   refine bS [0, 0] 7 4 [(5, .pointer (pB b2)), (36, .slice Ao ko co), (37, iq x), (38, iq y), (40, iq (x + 1)), (42, iq (IntKind.i64.wrap (y + 1)))] ?_
   refine cont_recast 42 (iq (IntKind.i64.wrap (y + 1))) (iq (y + 1)) rfl (wrapI (by omega) (by omega)) ?_
   refine batch1 [0, 0] 9 2 (fun b23 => [(5, .pointer (pB b2)), (36, .slice Ao ko co), (44, .slice (pB b23) 1 1)]) (fun b23 => [.cells b23 [iq x, iq y, iq (x + 1), iq (y + 1)] 28 true, z13_, e13b_, e13q_, .ro kb9 [.slice A3 k5 cp6] 33, .gen (rdE (A3) g4 0 k5 4 (rvals R)), .gen (rowE (Ao) gw ko co 28 4 (rvals os) true), .cells b2 [.slice Ao ko co] 33 true, .cells b1 [.pointer (pB m), iq X, iq Y, iq s, iq 255, iq ca, iq cb, iq cc, iq cd] 47 true, .ro m [iq W, iq H, .slice (pB r) n cap] 91, .gen (rdE (pB r) r 0 n 1 (ivals .u32 px)), .gen (rdE (Az) gz oz nz 4 (rvals xsz))]) rfl rfl [5, 36, 44] (fun _ => rfl) (fun b23 => by kernel_rfl) (fun b23 => by kernel_rfl) (fun b23 => ?_)
   refine pl_step 10 1 rfl rfl ?_
   refine sem_stepW (α := Option Addr × Nat × Nat) 45 (Builtin.append_ #[33, 33] 33 #[.slice Ao ko co, .slice (pB b23) 1 1]) (fun x_ => .slice x_.1 (ko + 1) x_.2.2) (fun x_ => [.cells b23 [iq x, iq y, iq (x + 1), iq (y + 1)] 28 true, z13_, e13b_, e13q_, .ro kb9 [.slice A3 k5 cp6] 33, .gen (rdE (A3) g4 0 k5 4 (rvals R)), .gen (rowE (x_.1) x_.2.1 (ko + 1) x_.2.2 28 4 (rvals (os ++ [(⟨x, y, x + 1, y + 1⟩ : Rect)])) true), .cells b2 [.slice Ao ko co] 33 true, .cells b1 [.pointer (pB m), iq X, iq Y, iq s, iq 255, iq ca, iq cb, iq cc, iq cd] 47 true, .ro m [iq W, iq H, .slice (pB r) n cap] 91, .gen (rdE (pB r) r 0 n 1 (ivals .u32 px)), .gen (rdE (Az) gz oz nz 4 (rvals xsz))]) (fun _ => True) (by kernel_rfl) (fun w hT => append_own (n' := (ko + 1)) (z := .agg #[iq 0, iq 0, iq 0, iq 0]) hT (i := 6) (bytes := 32) rfl (by kernel_rfl) (by kernel_rfl) rfl (by decide) (by decide) (Rd.ofCells (vals := rvals [(⟨x, y, x + 1, y + 1⟩ : Rect)]) (hT.ok 0 _ rfl) rfl rfl) (rvals_one [(⟨x, y, x + 1, y + 1⟩ : Rect)]) (by omega) (rvals_append os [(⟨x, y, x + 1, y + 1⟩ : Rect)]) rfl) ?_
   rintro ⟨A24, g24, cp24⟩ -
   refine cont_norm [(5, .pointer (pB b2)), (36, .slice Ao ko co), (44, .slice (pB b23) 1 1), (45, .slice A24 (ko + 1) cp24)] _ (by kernel_rfl) rfl ?_
   refine cont_fact (F := (0 < (ko + 1) → (A24 : Option Addr) = pB g24) ∧ (os ++ [(⟨x, y, x + 1, y + 1⟩ : Rect)]).length = (ko + 1) ∧ (ko + 1) ≤ cp24 ∧ cp24 ≤ maxLen) (fun w hT => Row.factsR (hT.ok 6 _ rfl)) (fun hr25_ => ?_)
   obtain ⟨hr25_a, hr25_l, hr25_c, hr25_m⟩ := hr25_
   unfold maxLen at hr25_m
   refine batch0 [7] 11 0 [] [.cells b23 [iq x, iq y, iq (x + 1), iq (y + 1)] 28 true, z13_, e13b_, e13q_, .ro kb9 [.slice A3 k5 cp6] 33, .gen (rdE (A3) g4 0 k5 4 (rvals R)), .gen (rowE (A24) g24 (ko + 1) cp24 28 4 (rvals (os ++ [(⟨x, y, x + 1, y + 1⟩ : Rect)])) true), .cells b2 [.slice A24 (ko + 1) cp24] 33 true, .cells b1 [.pointer (pB m), iq X, iq Y, iq s, iq 255, iq ca, iq cb, iq cc, iq cd] 47 true, .ro m [iq W, iq H, .slice (pB r) n cap] 91, .gen (rdE (pB r) r 0 n 1 (ivals .u32 px)), .gen (rdE (Az) gz oz nz 4 (rvals xsz))] rfl rfl (by kernel_rfl) (by kernel_rfl) ?_
   refine cont_forget 0 rfl ?_
   refine cont_done ?_
   refine blk_normal ?_
   refine blk_normal ?_
   refine rq_next (os ++ [(⟨x, y, x + 1, y + 1⟩ : Rect)], A24, g24, (ko + 1), cp24) (show SolI (solB W H px) (os ++ [(⟨x, y, x + 1, y + 1⟩ : Rect)]) (pre ++ [(x, y)]) ∧ 0 = 0 from ⟨(hso.new hsk ⟨by omega, by omega⟩ ⟨by omega, by omega⟩), by omega⟩) rfl
  replace c17_ := of_decide_eq_false c17_
  refine bS [0, 0, 0, 0, 0, 0, 0, 0, 0, 0, 0, 0, 0, 0, 0, 0, 0, 0] 21 0 [(5, .pointer (pB b2)), (6, iq x), (7, iq y), (10, iq ((ko : Int) - 1)), (50, .bool false)] ?_
  refine cont_done ?_
  refine then_normal ?_
  refine mcont_false rfl ?_
  refine mcont_region 11 rfl (by kernel_rfl) ?_
  refine bS [6, 0, 0, 0, 0] 5 6 [(5, .pointer (pB b2)), (7, iq y), (36, .slice Ao ko co), (37, iq x), (38, iq y), (40, iq (IntKind.i64.wrap (x + 1)))] ?_
  refine cont_recast 40 (iq (IntKind.i64.wrap (x + 1))) (iq (x + 1)) rfl (wrapI (by omega) (by omega)) ?_
  refine bS [0, 0] 7 4 [(5, .pointer (pB b2)), (36, .slice Ao ko co), (37, iq x), (38, iq y), (40, iq (x + 1)), (42, iq (IntKind.i64.wrap (y + 1)))] ?_
  refine cont_recast 42 (iq (IntKind.i64.wrap (y + 1))) (iq (y + 1)) rfl (wrapI (by omega) (by omega)) ?_
  refine batch1 [0, 0] 9 2 (fun b26 => [(5, .pointer (pB b2)), (36, .slice Ao ko co), (44, .slice (pB b26) 1 1)]) (fun b26 => [.cells b26 [iq x, iq y, iq (x + 1), iq (y + 1)] 28 true, z13_, e13b_, e13q_, .ro kb9 [.slice A3 k5 cp6] 33, .gen (rdE (A3) g4 0 k5 4 (rvals R)), .gen (rowE (Ao) gw ko co 28 4 (rvals os) true), .cells b2 [.slice Ao ko co] 33 true, .cells b1 [.pointer (pB m), iq X, iq Y, iq s, iq 255, iq ca, iq cb, iq cc, iq cd] 47 true, .ro m [iq W, iq H, .slice (pB r) n cap] 91, .gen (rdE (pB r) r 0 n 1 (ivals .u32 px)), .gen (rdE (Az) gz oz nz 4 (rvals xsz))]) rfl rfl [5, 36, 44] (fun _ => rfl) (fun b26 => by kernel_rfl) (fun b26 => by kernel_rfl) (fun b26 => ?_)
  refine pl_step 10 1 rfl rfl ?_
  refine sem_stepW (α := Option Addr × Nat × Nat) 45 (Builtin.append_ #[33, 33] 33 #[.slice Ao ko co, .slice (pB b26) 1 1]) (fun x_ => .slice x_.1 (ko + 1) x_.2.2) (fun x_ => [.cells b26 [iq x, iq y, iq (x + 1), iq (y + 1)] 28 true, z13_, e13b_, e13q_, .ro kb9 [.slice A3 k5 cp6] 33, .gen (rdE (A3) g4 0 k5 4 (rvals R)), .gen (rowE (x_.1) x_.2.1 (ko + 1) x_.2.2 28 4 (rvals (os ++ [(⟨x, y, x + 1, y + 1⟩ : Rect)])) true), .cells b2 [.slice Ao ko co] 33 true, .cells b1 [.pointer (pB m), iq X, iq Y, iq s, iq 255, iq ca, iq cb, iq cc, iq cd] 47 true, .ro m [iq W, iq H, .slice (pB r) n cap] 91, .gen (rdE (pB r) r 0 n 1 (ivals .u32 px)), .gen (rdE (Az) gz oz nz 4 (rvals xsz))]) (fun _ => True) (by kernel_rfl) (fun w hT => append_own (n' := (ko + 1)) (z := .agg #[iq 0, iq 0, iq 0, iq 0]) hT (i := 6) (bytes := 32) rfl (by kernel_rfl) (by kernel_rfl) rfl (by decide) (by decide) (Rd.ofCells (vals := rvals [(⟨x, y, x + 1, y + 1⟩ : Rect)]) (hT.ok 0 _ rfl) rfl rfl) (rvals_one [(⟨x, y, x + 1, y + 1⟩ : Rect)]) (by omega) (rvals_append os [(⟨x, y, x + 1, y + 1⟩ : Rect)]) rfl) ?_
  rintro ⟨A27, g27, cp27⟩ -
  refine cont_norm [(5, .pointer (pB b2)), (36, .slice Ao ko co), (44, .slice (pB b26) 1 1), (45, .slice A27 (ko + 1) cp27)] _ (by kernel_rfl) rfl ?_
  refine cont_fact (F := (0 < (ko + 1) → (A27 : Option Addr) = pB g27) ∧ (os ++ [(⟨x, y, x + 1, y + 1⟩ : Rect)]).length = (ko + 1) ∧ (ko + 1) ≤ cp27 ∧ cp27 ≤ maxLen) (fun w hT => Row.factsR (hT.ok 6 _ rfl)) (fun hr28_ => ?_)
  obtain ⟨hr28_a, hr28_l, hr28_c, hr28_m⟩ := hr28_
  unfold maxLen at hr28_m
  refine batch0 [7] 11 0 [] [.cells b26 [iq x, iq y, iq (x + 1), iq (y + 1)] 28 true, z13_, e13b_, e13q_, .ro kb9 [.slice A3 k5 cp6] 33, .gen (rdE (A3) g4 0 k5 4 (rvals R)), .gen (rowE (A27) g27 (ko + 1) cp27 28 4 (rvals (os ++ [(⟨x, y, x + 1, y + 1⟩ : Rect)])) true), .cells b2 [.slice A27 (ko + 1) cp27] 33 true, .cells b1 [.pointer (pB m), iq X, iq Y, iq s, iq 255, iq ca, iq cb, iq cc, iq cd] 47 true, .ro m [iq W, iq H, .slice (pB r) n cap] 91, .gen (rdE (pB r) r 0 n 1 (ivals .u32 px)), .gen (rdE (Az) gz oz nz 4 (rvals xsz))] rfl rfl (by kernel_rfl) (by kernel_rfl) ?_
  refine cont_forget 0 rfl ?_
  refine cont_done ?_
  refine blk_normal ?_
  refine blk_normal ?_
  refine rq_next (os ++ [(⟨x, y, x + 1, y + 1⟩ : Rect)], A27, g27, (ko + 1), cp27) (show SolI (solB W H px) (os ++ [(⟨x, y, x + 1, y + 1⟩ : Rect)]) (pre ++ [(x, y)]) ∧ 0 = 0 from ⟨(hso.new hsk ⟨by omega, by omega⟩ ⟨by omega, by omega⟩), by omega⟩) rfl
 ·
  rintro D30_ xs_ ⟨os, Ao, gw, ko, co⟩ hS_ hinv29_
  replace hinv29_ : SolI (solB W H px) os xs_ ∧ 0 = 0 := hinv29_
  replace hS_ : xs_ = regP R := hS_
  refine cont_norm [(2, .pointer (pB b1)), (5, .pointer (pB b2))] _ (by kernel_rfl) rfl ?_
  obtain ⟨hso, hok_⟩ := hinv29_
  refine cont_fact (F := (0 < ko → (Ao : Option Addr) = pB gw) ∧ os.length = ko ∧ ko ≤ co ∧ co ≤ maxLen) (fun w hT => Row.factsR (hT.ok 3 _ rfl)) (fun hr31_ => ?_)
  obtain ⟨hr31_a, hr31_l, hr31_c, hr31_m⟩ := hr31_
  unfold maxLen at hr31_m
  have hRl2 := hso.len
  have hOo := sol_on hso hS_ hOn
  have hkl : os.length ≤ 65536 := by rw [hS_, hRl] at hRl2; omega
  refine blk_normal ?_
  refine then_normal ?_
  refine cont_seq ?_
  refine cont_region 4 rfl ?_
  refine bS [5, 4] 2 2 [(79, .agg #[.pointer (pB m), iq X, iq Y, iq s, iq 255, iq ca, iq cb, iq cc, iq cd]), (80, .slice Ao ko co)] ?_
  refine cont_forget 4 rfl ?_
  refine cont_forget 4 rfl ?_
  refine pl_step 3 1 rfl rfl ?_
  refine call_gen (d := 81) (α := Option Addr × Nat × Nat × Nat) (fun x_ => .slice x_.1 x_.2.2.1 x_.2.2.2) (fun x_ => [.gen (rowE (x_.1) x_.2.1 x_.2.2.1 x_.2.2.2 28 4 (rvals (placeP W H X Y s os ⟨ca, cb, cc, cd⟩)) true), markE D30_, .ro kb9 [.slice A3 k5 cp6] 33, .gen (rdE (A3) g4 0 k5 4 (rvals R)), .gen (rowE (Ao) gw ko co 28 4 (rvals os) true), .ro m [iq W, iq H, .slice (pB r) n cap] 91, .gen (rdE (pB r) r 0 n 1 (ivals .u32 px)), .gen (rdE (Az) gz oz nz 4 (rvals xsz))]) (fun x_ => True) (by kernel_rfl) (fun w hT => (payPlace m W H r n cap px X Y s 255 ca cb cc cd Ao gw 0 ko co os w (hT.viewRo (.cons (i := 4) rfl Vw.ro (.cons (i := 5) rfl Vw.rd (.cons (i := 3) rfl Vw.rowRd .nil))) rfl) _ rfl (by omega) hok (by omega) (by omega) (by omega) (by omega) (Nat.le_trans (reg_len_img (canR_isReg _) (onImg_can hOo) hw1 hnum) (by omega)) (Nat.le_trans (reg_len_img (regM_isReg rfl _ _) (onImg_andl _ (onImg_can hOo)) hw1 hnum) (by omega))).mono fun e w' ⟨A32, g33, k34, cp35, he_, ht_⟩ => ⟨(A32, g33, k34, cp35), he_, trivial, hT.news ht_ rfl⟩) ?_
  rintro ⟨A32, g33, k34, cp35⟩ hf36_
  refine cont_norm [(79, .agg #[.pointer (pB m), iq X, iq Y, iq s, iq 255, iq ca, iq cb, iq cc, iq cd]), (80, .slice Ao ko co), (81, .slice A32 k34 cp35)] _ (by kernel_rfl) rfl ?_
  refine cont_fact (F := (0 < k34 → (A32 : Option Addr) = pB g33) ∧ (placeP W H X Y s os ⟨ca, cb, cc, cd⟩).length = k34 ∧ k34 ≤ cp35 ∧ cp35 ≤ maxLen) (fun w hT => Row.factsR (hT.ok 0 _ rfl)) (fun hr37_ => ?_)
  obtain ⟨hr37_a, hr37_l, hr37_c, hr37_m⟩ := hr37_
  unfold maxLen at hr37_m
  refine bS [0] 4 0 [(4, .slice A32 k34 cp35)] ?_
  refine cont_done ?_
  refine then_normal ?_
  refine cont_ret ?_
  refine mark_end 1 rfl (.inl rfl) ?_
  refine cont_norm [(4, .slice A32 k34 cp35)] _ (by kernel_rfl) rfl ?_
  refine ret_one (.inl rfl) rfl 0 (.slice A32 k34 cp35) (by kernel_rfl) (by kernel_rfl) (fun w hT => ?_)
  replace hT := hT.erase 7 (fun e h hw => by cases h; first | rfl | cases hw)
  replace hT := hT.erase 6 (fun e h hw => by cases h; first | rfl | cases hw)
  replace hT := hT.erase 5 (fun e h hw => by cases h; first | rfl | cases hw)
  replace hT := hT.erase 4 (fun e h hw => by cases h; first | rfl | cases hw)
  replace hT := hT.erase 3 (fun e h hw => by cases h; first | rfl | cases hw)
  replace hT := hT.erase 2 (fun e h hw => by cases h; first | rfl | cases hw)
  replace hT := hT.erase 1 (fun e h hw => by cases h; first | rfl | cases hw)
  refine ⟨os, ?_, _, _, _, _, rfl, hT⟩
  intro p q
  rw [hso.has, hS_]
  congr 1
  rw [Bool.eq_iff_iff, decide_eq_true_eq, regP_mem]
 ·
  intro D_  c_ h_; exact h_.elim
 ·
  intro D_ id_ c_ h_; exact h_.elim

end Go.Proofs.YtgpcgfjfmjehgaaGreat

