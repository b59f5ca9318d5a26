/- Contracts of functions of the given program, printed by a program of this project. -/
import Derived.Test.YtgpcgfjfmjehgaaGreatPhL5d
import Derived.Test.YtgpcgfjfmjehgaaGreatPhDy
import Derived.Test.YtgpcgfjfmjehgaaGreatProg
set_option linter.unusedVariables false
set_option linter.unusedSimpArgs false
namespace Go.Proofs.YtgpcgfjfmjehgaaGreat
open Go Go.RowKit
set_option maxRecDepth 100000
set_option maxHeartbeats 8000000

theorem payClear (m : Nat) (W H : Int) (r n cap : Nat) (px : List Int) (Az : Option Addr) (gz oz nz capz : Nat) (xsz : List Rect) (c : Int) (w : World) (hT0 : Tab w w [.ro m [.int .i64 W, .int .i64 H, .slice (some ⟨r, 0, none⟩) n cap] 91, .gen (rowE (some ⟨r, 0, none⟩) r n cap 35 1 (ivals .u32 px) false), .gen (rdE (Az) gz oz nz 4 (rvals xsz))]) (R : List Rect) (hR : R = regM andB (canR xsz) (canR [(⟨0, 0, W, H⟩ : Rect)])) (hcap : n ≤ cap) (hok : ImgOk W H n px) (hc : InC c) (hnz : nz ≤ 200000) (hcz : (canR xsz).length ≤ 200000) :
    Calls Tryz.prog 14 #[.pointer (some ⟨m, 0, none⟩), .slice Az nz capz, .int .u32 c] w fun e w' => e = .returned (.int .i64 (clrN c ((cntL W n R : Nat) : Int))) ∧ Tab w w' [.ro m [.int .i64 W, .int .i64 H, .slice (some ⟨r, 0, none⟩) n cap] 91, .gen (rowE (some ⟨r, 0, none⟩) r n cap 35 1 (ivals .u32 (mixL W (clrB c R) (clrG c) px)) false), .gen (rdE (Az) gz oz nz 4 (rvals xsz))] := by
 have hw1 := hok.w1
 have hw2 := hok.w2
 have hh1 := hok.h1
 have hh2 := hok.h2
 have hnum := hok.num
 have hlen := hok.len
 have hle := hok.le
 obtain ⟨hraz, hrlz⟩ := Rd.factsR (hT0.ok 2 _ rfl)
 have hOn : OnImg W H R := by rw [hR]; exact onImg_and _ (onImg_can (onImg_one ⟨by simp only; omega, by simp only; omega, by simp only; omega, by simp only; omega⟩))
 have hReg : IsReg R (hasL R) := by rw [hR]; exact (regM_isReg rfl _ _).self
 refine enter 27 [(0, .pointer (pB m)), (1, .slice Az nz capz), (2, .int .u32 c)] [.ro m [iq W, iq H, .slice (pB r) n cap] 91, .gen (rowE (pB r) r n cap 35 1 (ivals .u32 px) false), .gen (rdE (Az) gz oz nz 4 (rvals xsz))] Tryz.func14 rfl Tryz.ntmps14 rfl (by kernel_rfl) hT0 ?_
 refine cont_seq ?_
 refine cont_region 1 rfl ?_
 refine bS [0] 1 0 [(0, .pointer (pB m)), (1, .slice Az nz capz), (2, .int .u32 c)] ?_
 refine cont_done ?_
 refine then_normal ?_
 refine cont_seq ?_
 refine cont_region 1 rfl ?_
 refine bS [0] 1 0 [(0, .pointer (pB m)), (1, .slice Az nz capz), (2, .int .u32 c), (7, iq 0)] ?_
 refine cont_done ?_
 refine then_normal ?_
 refine cont_seq ?_
 refine cont_seq ?_
 refine cont_region 6 rfl ?_
 refine bS [0, 0] 2 4 [(0, .pointer (pB m)), (2, .int .u32 c), (7, iq 0), (10, .slice Az nz capz), (11, .pointer (pB m))] ?_
 refine pl_step 3 3 rfl rfl ?_
 refine call_pure (d := 12) (.agg #[iq 0, iq 0, iq W, iq H]) (by kernel_rfl) (fun w hT => imgBox m W H r n cap px  w ⟨hT.ok 0 _ rfl, Row.rd (hT.ok 1 _ rfl), Row.capLe (hT.ok 1 _ rfl)⟩ hok) ?_
 refine pl_step 4 2 rfl rfl ?_
 refine call_gen (d := 13) (α := Option Addr × Nat × Nat × Nat) (fun x_ => .slice x_.1 x_.2.2.1 x_.2.2.2) (fun x_ => [.gen (rowE (x_.1) x_.2.1 x_.2.2.1 x_.2.2.2 28 4 (rvals (regM andB (canR xsz) (canR [(⟨0, 0, W, H⟩ : Rect)]))) true), .ro m [iq W, iq H, .slice (pB r) n cap] 91, .gen (rowE (pB r) r n cap 35 1 (ivals .u32 px) false), .gen (rdE (Az) gz oz nz 4 (rvals xsz))]) (fun x_ => True) (by kernel_rfl) (fun w hT => (payWithin Az gz oz nz capz xsz 0 0 W H w (hT.viewRo (.cons (i := 2) rfl Vw.rd .nil) rfl) hnz hcz).mono fun e w' ⟨A1, g2, k3, cp4, he_, ht_⟩ => ⟨(A1, g2, k3, cp4), he_, trivial, hT.news ht_ rfl⟩) ?_
 rintro ⟨A1, g2, k3, cp4⟩ hf5_
 refine cont_norm [(0, .pointer (pB m)), (2, .int .u32 c), (7, iq 0), (10, .slice Az nz capz), (11, .pointer (pB m)), (12, .agg #[iq 0, iq 0, iq W, iq H]), (13, .slice A1 k3 cp4)] _ (by kernel_rfl) rfl ?_
 refine cont_fact (F := (0 < k3 → (A1 : Option Addr) = pB g2) ∧ (regM andB (canR xsz) (canR [(⟨0, 0, W, H⟩ : Rect)])).length = k3 ∧ k3 ≤ cp4 ∧ cp4 ≤ maxLen) (fun w hT => Row.factsR (hT.ok 0 _ rfl)) (fun hr6_ => ?_)
 obtain ⟨hr6_a, hr6_l, hr6_c, hr6_m⟩ := hr6_
 unfold maxLen at hr6_m
 refine bS [0, 0] 6 0 [(0, .pointer (pB m)), (2, .int .u32 c), (7, iq 0), (13, .slice A1 k3 cp4), (14, iq (k3 : Int)), (15, iq 0)] ?_
 refine cont_done ?_
 refine then_normal ?_
 refine cont_block ?_
 refine cont_rowEqR 0 (regM andB (canR xsz) (canR [(⟨0, 0, W, H⟩ : Rect)])) (R) rfl hR.symm ?_
 refine cont_fact (F := (0 < k3 → (A1 : Option Addr) = pB g2) ∧ R.length = k3 ∧ k3 ≤ cp4 ∧ cp4 ≤ maxLen) (fun w hT => Row.factsR (hT.ok 0 _ rfl)) (fun hr7_ => ?_)
 obtain ⟨hr7_a, hr7_l, hr7_c, hr7_m⟩ := hr7_
 unfold maxLen at hr7_m
 refine cont_rowEq (k := .u32) 2 (px) (mixL W (clrB c (R.take 0)) (clrG c) px) rfl (clear_none W px c) ?_
 refine cont_recast 7 (iq 0) (iq (clrN c (areaL (R.take 0)))) rfl (congrArg (Value.int .i64) (by unfold clrN; split <;> rfl)) ?_
 refine cont_loop (α := Nat) (fun x_ : Nat => x_ ≤ k3) (fun x_ : Nat => [(0, .pointer (pB m)), (2, .int .u32 c), (7, iq (clrN c (areaL (R.take x_)))), (13, .slice A1 k3 cp4), (14, iq (k3 : Int)), (15, iq ((x_ : Nat) : Int))]) (fun x_ : Nat => [.gen (rowE (A1) g2 k3 cp4 28 4 (rvals R) true), .ro m [iq W, iq H, .slice (pB r) n cap] 91, .gen (rowE (pB r) r n cap 35 1 (ivals .u32 (mixL W (clrB c (R.take x_)) (clrG c) px)) false), .gen (rdE (Az) gz oz nz 4 (rvals xsz))]) (fun x_ : Nat => k3 - x_) 0 (by omega) (by kernel_rfl) (by kernel_rfl) ?_
 rintro i hinv8_
 replace hinv8_ : i ≤ k3 := hinv8_
 refine cont_norm [(0, .pointer (pB m)), (2, .int .u32 c), (7, iq (clrN c (areaL (R.take i)))), (13, .slice A1 k3 cp4), (14, iq (k3 : Int)), (15, iq ((i : Nat) : Int))] _ (by kernel_rfl) rfl ?_
 have hi := hinv8_
 have hat := area_take hReg hOn hw1 hnum i
 have hat1 := area_take hReg hOn hw1 hnum (i + 1)
 have hq1 := clrN_range c hat
 have hq2 := clrN_range c hat1
 have hsucc : i < k3 → areaL (R.take (i + 1)) = areaL (R.take i) + areaI (rget R i).x0 (rget R i).y0 (rget R i).x1 (rget R i).y1 := fun h_ => areaL_take (by omega)
 refine cont_seq ?_
 refine cont_region 1 rfl ?_
 refine bS [0] 1 0 [(0, .pointer (pB m)), (2, .int .u32 c), (7, iq (clrN c (areaL (R.take i)))), (13, .slice A1 k3 cp4), (14, iq (k3 : Int)), (15, iq ((i : Nat) : Int)), (16, .bool (decide (((i : Nat) : Int) < (k3 : Int))))] ?_
 refine cont_done ?_
 refine then_normal ?_
 refine cont_seq ?_
 refine cont_split 16 (decide (((i : Nat) : Int) < (k3 : Int))) rfl (fun c9_ => ?_) (fun c9_ => ?_)
 ·
  replace c9_ := of_decide_eq_true c9_
  refine cont_true rfl ?_
  refine cont_skip ?_
  refine then_normal ?_
  refine cont_seq ?_
  refine cont_block ?_
  refine cont_seq ?_
  refine cont_region 4 rfl ?_
  refine pl_step 1 3 rfl rfl ?_
  refine cont_recast 13 (.slice A1 k3 cp4) (.slice (pB g2) k3 cp4) rfl (by rw [hr7_a (by omega)]) ?_
  refine sem_step 17 (Instr.indexAt 33 (.slice (pB g2) k3 cp4) (iq ((i : Nat) : Int))) (.pointer (some ⟨g2, (i : Nat) * 4, none⟩)) (by kernel_rfl) (fun w hT => run_indexAt (e := 28) (sz := 4) _ (by kernel_rfl) (by kernel_rfl) (by omega) (by omega) (by omega) w) ?_
  refine pl_step 2 2 rfl rfl ?_
  refine sem_step 18 (Instr.loadAt 28 (.pointer (some ⟨g2, (i : Nat) * 4, none⟩))) (.agg #[iq ((rget R (i : Nat)).x0), iq ((rget R (i : Nat)).y0), iq ((rget R (i : Nat)).x1), iq ((rget R (i : Nat)).y1)]) (by kernel_rfl) (fun w hT => run_loadN (m := 4) (cs := rcells (rget R (i : Nat))) (by kernel_rfl) (by kernel_rfl) rfl (Rd.rect0 (Row.rd (hT.ok 0 _ rfl)) (by omega))) ?_
  refine batch1 [0, 0] 4 0 (fun b10 => [(0, .pointer (pB m)), (2, .int .u32 c), (7, iq (clrN c (areaL (R.take i)))), (9, .pointer (pB b10)), (13, .slice (pB g2) k3 cp4), (14, iq (k3 : Int)), (15, iq ((i : Nat) : Int))]) (fun b10 => [.cells b10 [iq ((rget R (i : Nat)).x0), iq ((rget R (i : Nat)).y0), iq ((rget R (i : Nat)).x1), iq ((rget R (i : Nat)).y1)] 28 true, .gen (rowE (A1) g2 k3 cp4 28 4 (rvals R) true), .ro m [iq W, iq H, .slice (pB r) n cap] 91, .gen (rowE (pB r) r n cap 35 1 (ivals .u32 (mixL W (clrB c (R.take i)) (clrG c) px)) false), .gen (rdE (Az) gz oz nz 4 (rvals xsz))]) rfl rfl [0, 2, 7, 9, 13, 14, 15] (fun _ => rfl) (fun b10 => by kernel_rfl) (fun b10 => by kernel_rfl) (fun b10 => ?_)
  refine cont_done ?_
  refine then_normal ?_
  refine cont_region 7 rfl ?_
  refine bS [0, 0, 0, 0] 4 3 [(0, .pointer (pB m)), (2, .int .u32 c), (13, .slice (pB g2) k3 cp4), (14, iq (k3 : Int)), (15, iq ((i : Nat) : Int)), (19, iq (clrN c (areaL (R.take i)))), (20, .pointer (pB m)), (21, .agg #[iq ((rget R (i : Nat)).x0), iq ((rget R (i : Nat)).y0), iq ((rget R (i : Nat)).x1), iq ((rget R (i : Nat)).y1)]), (22, .int .u32 c)] ?_
  refine cont_forget 0 rfl ?_
  refine pl_step 5 2 rfl rfl ?_
  refine call_gen (d := 23) (α := Unit) (fun _ => iq (fillN W H ((rget R (i : Nat)).x0) ((rget R (i : Nat)).y0) ((rget R (i : Nat)).x1) ((rget R (i : Nat)).y1) c)) (fun _ => [.gen (rowE (A1) g2 k3 cp4 28 4 (rvals R) true), .ro m [iq W, iq H, .slice (pB r) n cap] 91, .gen (rowE (pB r) r n cap 35 1 (ivals .u32 (fillA W H (mixL W (clrB c (R.take i)) (clrG c) px) ((rget R (i : Nat)).x0) ((rget R (i : Nat)).y0) ((rget R (i : Nat)).x1) ((rget R (i : Nat)).y1) c)) false), .gen (rdE (Az) gz oz nz 4 (rvals xsz))]) (fun _ => True) (by kernel_rfl) (fun w hT => (imgFill m W H r n cap (mixL W (clrB c (R.take i)) (clrG c) px) ((rget R (i : Nat)).x0) ((rget R (i : Nat)).y0) ((rget R (i : Nat)).x1) ((rget R (i : Nat)).y1) c w ⟨hT.ok 1 _ rfl, hT.ok 2 _ rfl, fun hne => hT.disj 1 2 _ _ (by omega) rfl rfl (.inr rfl) _ rfl ⟨hne, by simp⟩⟩ (hok.mixL _ (fun _ _ _ _ => hc)) hc).mono fun e w' ⟨he_, hk_, hr_⟩ => ⟨(), he_, trivial, hT.keepBut hk_ (i := 2) rfl hr_⟩) (fun _ _ => ?_)
  have hsucc := hsucc (by omega)
  rw [hsucc, clrN_add] at hq2
  refine cont_recast 23 (iq (fillN W H ((rget R (i : Nat)).x0) ((rget R (i : Nat)).y0) ((rget R (i : Nat)).x1) ((rget R (i : Nat)).y1) c)) (iq (clrN c (areaI (rget R i).x0 (rget R i).y0 (rget R i).x1 (rget R i).y1))) rfl (congrArg (Value.int .i64) (clear_n hReg hOn (by omega) c)) ?_
  refine bS [0] 6 1 [(0, .pointer (pB m)), (2, .int .u32 c), (13, .slice (pB g2) k3 cp4), (14, iq (k3 : Int)), (15, iq ((i : Nat) : Int)), (24, iq (IntKind.i64.wrap ((clrN c (areaL (R.take i))) + (clrN c (areaI (rget R i).x0 (rget R i).y0 (rget R i).x1 (rget R i).y1)))))] ?_
  refine cont_recast 24 (iq (IntKind.i64.wrap ((clrN c (areaL (R.take i))) + (clrN c (areaI (rget R i).x0 (rget R i).y0 (rget R i).x1 (rget R i).y1))))) (iq ((clrN c (areaL (R.take i))) + (clrN c (areaI (rget R i).x0 (rget R i).y0 (rget R i).x1 (rget R i).y1)))) rfl (wrapI (by omega) (by omega)) ?_
  refine bS [0] 7 0 [(0, .pointer (pB m)), (2, .int .u32 c), (7, iq ((clrN c (areaL (R.take i))) + (clrN c (areaI (rget R i).x0 (rget R i).y0 (rget R i).x1 (rget R i).y1)))), (13, .slice (pB g2) k3 cp4), (14, iq (k3 : Int)), (15, iq ((i : Nat) : Int))] ?_
  refine cont_done ?_
  refine blk_normal ?_
  refine then_normal ?_
  refine cont_region 2 rfl ?_
  refine bS [0] 1 1 [(0, .pointer (pB m)), (2, .int .u32 c), (7, iq ((clrN c (areaL (R.take i))) + (clrN c (areaI (rget R i).x0 (rget R i).y0 (rget R i).x1 (rget R i).y1)))), (13, .slice (pB g2) k3 cp4), (14, iq (k3 : Int)), (25, iq (IntKind.i64.wrap (((i : Nat) : Int) + 1)))] ?_
  refine cont_recast 25 (iq (IntKind.i64.wrap (((i : Nat) : Int) + 1))) (iq (((i : Nat) : Int) + 1)) rfl (wrapI (by omega) (by omega)) ?_
  refine bS [0] 2 0 [(0, .pointer (pB m)), (2, .int .u32 c), (7, iq ((clrN c (areaL (R.take i))) + (clrN c (areaI (rget R i).x0 (rget R i).y0 (rget R i).x1 (rget R i).y1)))), (13, .slice (pB g2) k3 cp4), (14, iq (k3 : Int)), (15, iq (((i : Nat) : Int) + 1))] ?_
  refine cont_done ?_
  refine then_normal ?_
  refine cont_recast 13 (.slice (pB g2) k3 cp4) (.slice A1 k3 cp4) rfl (by rw [hr7_a (by omega)]) ?_
  refine cont_rowEq (k := .u32) 2 (fillA W H (mixL W (clrB c (R.take i)) (clrG c) px) ((rget R (i : Nat)).x0) ((rget R (i : Nat)).y0) ((rget R (i : Nat)).x1) ((rget R (i : Nat)).y1) c) (mixL W (clrB c (R.take (i + 1))) (clrG c) px) rfl (clear_step hok (by omega)) ?_
  refine cont_recast 7 (iq ((clrN c (areaL (R.take i))) + (clrN c (areaI (rget R i).x0 (rget R i).y0 (rget R i).x1 (rget R i).y1)))) (iq (clrN c (areaL (R.take (i + 1))))) rfl (congrArg (Value.int .i64) (by rw [hsucc, clrN_add])) ?_
  refine cont_again (i + 1) (show (i + 1) ≤ k3 from (by omega)) (show k3 - (i + 1) < k3 - i from by omega) (by kernel_rfl) (by kernel_rfl)
 replace c9_ := of_decide_eq_false c9_
 refine cont_false rfl ?_
 refine cont_exit ?_
 refine then_exit ?_
 refine then_exit ?_
 refine blk_exit ?_
 refine then_normal ?_
 refine cont_seq ?_
 refine cont_region 2 rfl ?_
 refine bS [0, 0] 2 0 [(6, iq (clrN c (areaL (R.take i))))] ?_
 refine cont_done ?_
 refine then_normal ?_
 refine cont_ret ?_
 refine ret_one (.inl rfl) rfl 0 (iq (clrN c (areaL (R.take i)))) (by kernel_rfl) (by kernel_rfl) (fun w hT => ?_)
 replace hT := hT.erase 0 (fun e h hw => by cases h; first | rfl | cases hw)
 have hik : i = R.length := by omega
 subst hik
 rw [List.take_length] at hT
 exact ⟨ret_int (by rw [List.take_length, clear_area hReg hOn hw1 hnum]), hT⟩

theorem refDraw5 (W H : Int) (r n cap : Nat) (px : List Int) (W' H' : Int) (r' n' cap' : Nat) (px' : List Int) (X Y s al ca cb cc cd : Int) (Az : Option Addr) (gz oz nz capz : Nat) (xsz : List Rect) (w : World) (hT0 : Tab w w [.gen (rdE (some ⟨r, 0, none⟩) r 0 n 1 (ivals .u32 px)), .gen (rdE (some ⟨r', 0, none⟩) r' 0 n' 1 (ivals .u32 px')), .gen (rdE (Az) gz oz nz 4 (rvals xsz))]) (hok : ImgOk W H n px) (hok' : ImgOk W' H' n' px') (hs : 1 ≤ s ∧ s ≤ 8) (hX : -1000000 ≤ X ∧ X ≤ 1000000) (hY : -1000000 ≤ Y ∧ Y ≤ 1000000) (hnz : nz ≤ 200000) :
    Calls Tryz.prog 9 #[.agg #[.int .i64 W, .int .i64 H, .slice (some ⟨r, 0, none⟩) n cap], .agg #[.bool true, .int .i64 W', .int .i64 H', .slice (some ⟨r', 0, none⟩) n' cap', .int .i64 X, .int .i64 Y, .int .i64 s, .int .i64 al, .int .i64 ca, .int .i64 cb, .int .i64 cc, .int .i64 cd], .slice Az nz capz] w fun e w' => ∃ (g cp : Nat), e = .returned (.tuple #[.agg #[.int .i64 W, .int .i64 H, .slice (some ⟨g, 0, none⟩) n cp], .int .i64 ((mixN W (drwB W' H' X Y s ca cb cc cd xsz) n : Nat) : Int)]) ∧ Tab w w' [.gen (rowE (some ⟨g, 0, none⟩) g n cp 35 1 (ivals .u32 (mixL W (drwB W' H' X Y s ca cb cc cd xsz) (drwG (pcolC W' H' X Y s al ca cb cc cd px')) px)) true)] := by
 have hw1 := hok.w1
 have hw2 := hok.w2
 have hh1 := hok.h1
 have hh2 := hok.h2
 have hnum := hok.num
 have hlen := hok.len
 have hle := hok.le
 obtain ⟨hraz, hrlz⟩ := Rd.factsR (hT0.ok 2 _ rfl)
 refine enter 68 [(0, .agg #[iq W, iq H, .slice (pB r) n cap]), (1, .agg #[.bool true, iq W', iq H', .slice (some ⟨r', 0, none⟩) n' cap', iq X, iq Y, iq s, iq al, iq ca, iq cb, iq cc, iq cd]), (2, .slice Az nz capz)] [.gen (rdE (pB r) r 0 n 1 (ivals .u32 px)), .gen (rdE (some ⟨r', 0, none⟩) r' 0 n' 1 (ivals .u32 px')), .gen (rdE (Az) gz oz nz 4 (rvals xsz))] Tryz.func9 rfl Tryz.ntmps9 rfl (by kernel_rfl) hT0 ?_
 refine cont_seq ?_
 refine cont_region 4 rfl ?_
 refine batch3 [0, 0, 0, 0] 4 0 (fun b1 b2 b3 => [(2, .slice Az nz capz), (3, .pointer (pB b1)), (4, .pointer (pB b2)), (6, .pointer (pB b3))]) (fun b1 b2 b3 => [.cells b3 [iq 0, iq 0, .slice none 0 0] 24 true, .cells b2 [.bool true, iq W', iq H', .slice (some ⟨r', 0, none⟩) n' cap', iq X, iq Y, iq s, iq al, iq ca, iq cb, iq cc, iq cd] 30 true, .cells b1 [iq W, iq H, .slice (pB r) n cap] 24 true, .gen (rdE (pB r) r 0 n 1 (ivals .u32 px)), .gen (rdE (some ⟨r', 0, none⟩) r' 0 n' 1 (ivals .u32 px')), .gen (rdE (Az) gz oz nz 4 (rvals xsz))]) rfl rfl [2, 3, 4, 6] (fun _ _ _ => rfl) (fun b1 b2 b3 => by kernel_rfl) (fun b1 b2 b3 => by kernel_rfl) (fun b1 b2 b3 => ?_)
 refine cont_done ?_
 refine then_normal ?_
 refine cont_seq ?_
 refine cont_region 1 rfl ?_
 refine bS [0] 1 0 [(2, .slice Az nz capz), (3, .pointer (pB b1)), (4, .pointer (pB b2)), (6, .pointer (pB b3)), (8, .slice none 0 0)] ?_
 refine cont_done ?_
 refine then_normal ?_
 refine cont_seq ?_
 refine cont_region 1 rfl ?_
 refine bS [0] 1 0 [(2, .slice Az nz capz), (3, .pointer (pB b1)), (4, .pointer (pB b2)), (6, .pointer (pB b3)), (8, .slice none 0 0), (9, iq 0)] ?_
 refine cont_done ?_
 refine then_normal ?_
 refine cont_seq ?_
 refine cont_seq ?_
 refine cont_region 1 rfl ?_
 refine bS [0] 1 0 [(2, .slice Az nz capz), (3, .pointer (pB b1)), (4, .pointer (pB b2)), (6, .pointer (pB b3)), (8, .slice none 0 0), (9, iq 0), (10, iq 0)] ?_
 refine cont_done ?_
 refine then_normal ?_
 refine cont_block ?_
 refine cont_nilrow 35 1 ?_
 refine cont_norm [(2, .slice Az nz capz), (3, .pointer (pB b1)), (4, .pointer (pB b2)), (6, .pointer (pB b3)), (8, .slice none 0 0), (9, iq 0), (10, iq 0)] _ (by kernel_rfl) rfl ?_
 refine cont_rowEq (k := .u32) 0 ([]) ((mixL W (drwB W' H' X Y s ca cb cc cd xsz) (drwG (pcolC W' H' X Y s al ca cb cc cd px')) px).take 0) rfl (by simp) ?_
 refine cont_recast 9 (iq 0) (iq ((mixN W (drwB W' H' X Y s ca cb cc cd xsz) 0 : Nat) : Int)) rfl (congrArg (Value.int .i64) (by simp [mixN])) ?_
 refine cont_loop (α := Nat × Option Addr × Nat × Nat) (fun x_ : Nat × Option Addr × Nat × Nat => x_.1 ≤ n) (fun x_ : Nat × Option Addr × Nat × Nat => [(2, .slice Az nz capz), (3, .pointer (pB b1)), (4, .pointer (pB b2)), (6, .pointer (pB b3)), (8, .slice x_.2.1 x_.1 x_.2.2.2), (9, iq ((mixN W (drwB W' H' X Y s ca cb cc cd xsz) x_.1 : Nat) : Int)), (10, iq ((x_.1 : Nat) : Int))]) (fun x_ : Nat × Option Addr × Nat × Nat => [.gen (rowE (x_.2.1) x_.2.2.1 x_.1 x_.2.2.2 35 1 (ivals .u32 ((mixL W (drwB W' H' X Y s ca cb cc cd xsz) (drwG (pcolC W' H' X Y s al ca cb cc cd px')) px).take x_.1)) true), .cells b3 [iq 0, iq 0, .slice none 0 0] 24 true, .cells b2 [.bool true, iq W', iq H', .slice (some ⟨r', 0, none⟩) n' cap', iq X, iq Y, iq s, iq al, iq ca, iq cb, iq cc, iq cd] 30 true, .cells b1 [iq W, iq H, .slice (pB r) n cap] 24 true, .gen (rdE (pB r) r 0 n 1 (ivals .u32 px)), .gen (rdE (some ⟨r', 0, none⟩) r' 0 n' 1 (ivals .u32 px')), .gen (rdE (Az) gz oz nz 4 (rvals xsz))]) (fun x_ : Nat × Option Addr × Nat × Nat => n - x_.1) (0, none, 0, 0) (show (0) ≤ n from (by omega)) (by kernel_rfl) (by kernel_rfl) ?_
 rintro ⟨i, A, g, cp⟩ hinv5_
 replace hinv5_ : i ≤ n := hinv5_
 refine cont_norm [(2, .slice Az nz capz), (3, .pointer (pB b1)), (4, .pointer (pB b2)), (6, .pointer (pB b3)), (8, .slice A i cp), (9, iq ((mixN W (drwB W' H' X Y s ca cb cc cd xsz) i : Nat) : Int)), (10, iq ((i : Nat) : Int))] _ (by kernel_rfl) rfl ?_
 have hi := hinv5_
 have hem := emod_range i hw1
 have hmn := mixN_le W (drwB W' H' X Y s ca cb cc cd xsz) i
 have hge : i < n → InC (px.getD i 0) := fun h_ => hok.get h_
 refine cont_seq ?_
 refine cont_seq ?_
 refine cont_region 5 rfl ?_
 refine bS [0, 0, 3, 0, 0] 5 0 [(2, .slice Az nz capz), (3, .pointer (pB b1)), (4, .pointer (pB b2)), (6, .pointer (pB b3)), (8, .slice A i cp), (9, iq ((mixN W (drwB W' H' X Y s ca cb cc cd xsz) i : Nat) : Int)), (10, iq ((i : Nat) : Int)), (19, .bool (decide (((i : Nat) : Int) < (n : Int))))] ?_
 refine cont_done ?_
 refine then_normal ?_
 refine cont_split 19 (decide (((i : Nat) : Int) < (n : Int))) rfl (fun c6_ => ?_) (fun c6_ => ?_)
 ·
  replace c6_ := of_decide_eq_true c6_
  refine cont_true rfl ?_
  refine cont_skip ?_
  refine then_normal ?_
  refine cont_seq ?_
  refine cont_block ?_
  refine cont_seq ?_
  refine cont_region 5 rfl ?_
  refine bS [0, 0, 3] 3 2 [(2, .slice Az nz capz), (3, .pointer (pB b1)), (4, .pointer (pB b2)), (6, .pointer (pB b3)), (8, .slice A i cp), (9, iq ((mixN W (drwB W' H' X Y s ca cb cc cd xsz) i : Nat) : Int)), (10, iq ((i : Nat) : Int)), (22, iq ((i : Nat) : Int)), (24, iq W)] ?_
  refine pl_step 4 1 rfl rfl ?_
  refine sem_step 25 (bopS .rem 3 (.tmp 22) (.tmp 24) (iq ((i : Nat) : Int)) (iq W)) (iq (((i : Nat) : Int).tmod W)) (by kernel_rfl) (fun w hT => run_rem (by omega) w) ?_
  refine cont_recast 25 (iq (((i : Nat) : Int).tmod W)) (iq (((i : Nat) : Int) % W)) rfl (tmodI (by omega)) ?_
  refine bS [0] 5 0 [(2, .slice Az nz capz), (3, .pointer (pB b1)), (4, .pointer (pB b2)), (6, .pointer (pB b3)), (8, .slice A i cp), (9, iq ((mixN W (drwB W' H' X Y s ca cb cc cd xsz) i : Nat) : Int)), (10, iq ((i : Nat) : Int)), (11, iq (((i : Nat) : Int) % W))] ?_
  refine cont_done ?_
  refine then_normal ?_
  refine cont_seq ?_
  refine cont_region 5 rfl ?_
  refine bS [0, 0, 3] 3 2 [(2, .slice Az nz capz), (3, .pointer (pB b1)), (4, .pointer (pB b2)), (6, .pointer (pB b3)), (8, .slice A i cp), (9, iq ((mixN W (drwB W' H' X Y s ca cb cc cd xsz) i : Nat) : Int)), (10, iq ((i : Nat) : Int)), (11, iq (((i : Nat) : Int) % W)), (26, iq ((i : Nat) : Int)), (28, iq W)] ?_
  refine pl_step 4 1 rfl rfl ?_
  refine sem_step 29 (bopS .quo 3 (.tmp 26) (.tmp 28) (iq ((i : Nat) : Int)) (iq W)) (iq (IntKind.i64.wrap (((i : Nat) : Int).tdiv W))) (by kernel_rfl) (fun w hT => run_quo (by omega) w) ?_
  refine cont_recast 29 (iq (IntKind.i64.wrap (((i : Nat) : Int).tdiv W))) (iq (((i : Nat) : Int) / W)) rfl (tdivI (by omega) (by omega) (by omega)) ?_
  refine bS [0] 5 0 [(2, .slice Az nz capz), (3, .pointer (pB b1)), (4, .pointer (pB b2)), (6, .pointer (pB b3)), (8, .slice A i cp), (9, iq ((mixN W (drwB W' H' X Y s ca cb cc cd xsz) i : Nat) : Int)), (10, iq ((i : Nat) : Int)), (11, iq (((i : Nat) : Int) % W)), (12, iq (((i : Nat) : Int) / W))] ?_
  refine cont_done ?_
  refine then_normal ?_
  refine cont_seq ?_
  refine cont_region 9 rfl ?_
  refine bS [2, 0, 0] 3 6 [(2, .slice Az nz capz), (3, .pointer (pB b1)), (4, .pointer (pB b2)), (6, .pointer (pB b3)), (8, .slice A i cp), (9, iq ((mixN W (drwB W' H' X Y s ca cb cc cd xsz) i : Nat) : Int)), (10, iq ((i : Nat) : Int)), (11, iq (((i : Nat) : Int) % W)), (12, iq (((i : Nat) : Int) / W)), (31, .agg #[.bool true, iq W', iq H', .slice (some ⟨r', 0, none⟩) n' cap', iq X, iq Y, iq s, iq al, iq ca, iq cb, iq cc, iq cd]), (32, iq (((i : Nat) : Int) % W)), (33, iq (((i : Nat) : Int) / W))] ?_
  refine pl_step 4 5 rfl rfl ?_
  refine call_pure (d := 34) (.tuple #[.int .u32 (pcolC W' H' X Y s al ca cb cc cd px' (((i : Nat) : Int) % W) (((i : Nat) : Int) / W)), .bool (pcolB W' H' X Y s ca cb cc cd (((i : Nat) : Int) % W) (((i : Nat) : Int) / W))]) (by kernel_rfl) (fun w hT => refColor5 W' H' r' n' cap' px' X Y s al ca cb cc cd (((i : Nat) : Int) % W) (((i : Nat) : Int) / W) w (hT.viewRo (.cons (i := 5) rfl Vw.rd .nil) rfl) hok' (by omega) (by omega) (by omega) (by omega) (by omega)) ?_
  refine bS [0, 0, 0, 0, 0] 9 0 [(2, .slice Az nz capz), (3, .pointer (pB b1)), (4, .pointer (pB b2)), (6, .pointer (pB b3)), (8, .slice A i cp), (9, iq ((mixN W (drwB W' H' X Y s ca cb cc cd xsz) i : Nat) : Int)), (10, iq ((i : Nat) : Int)), (11, iq (((i : Nat) : Int) % W)), (12, iq (((i : Nat) : Int) / W)), (13, .int .u32 (pcolC W' H' X Y s al ca cb cc cd px' (((i : Nat) : Int) % W) (((i : Nat) : Int) / W))), (14, .bool (pcolB W' H' X Y s ca cb cc cd (((i : Nat) : Int) % W) (((i : Nat) : Int) / W)))] ?_
  refine cont_done ?_
  refine then_normal ?_
  refine cont_seq ?_
  refine cont_region 7 rfl ?_
  refine bS [0, 0] 2 5 [(2, .slice Az nz capz), (3, .pointer (pB b1)), (4, .pointer (pB b2)), (6, .pointer (pB b3)), (8, .slice A i cp), (9, iq ((mixN W (drwB W' H' X Y s ca cb cc cd xsz) i : Nat) : Int)), (10, iq ((i : Nat) : Int)), (11, iq (((i : Nat) : Int) % W)), (12, iq (((i : Nat) : Int) / W)), (13, .int .u32 (pcolC W' H' X Y s al ca cb cc cd px' (((i : Nat) : Int) % W) (((i : Nat) : Int) / W))), (38, .bool (pcolB W' H' X Y s ca cb cc cd (((i : Nat) : Int) % W) (((i : Nat) : Int) / W)))] ?_
  refine cont_split 38 (pcolB W' H' X Y s ca cb cc cd (((i : Nat) : Int) % W) (((i : Nat) : Int) / W)) rfl (fun c7_ => ?_) (fun c7_ => ?_)
  ·
   refine bS [0, 0, 0] 5 2 [(2, .slice Az nz capz), (3, .pointer (pB b1)), (4, .pointer (pB b2)), (6, .pointer (pB b3)), (8, .slice A i cp), (9, iq ((mixN W (drwB W' H' X Y s ca cb cc cd xsz) i : Nat) : Int)), (10, iq ((i : Nat) : Int)), (13, .int .u32 (pcolC W' H' X Y s al ca cb cc cd px' (((i : Nat) : Int) % W) (((i : Nat) : Int) / W))), (38, .bool true), (39, .slice Az nz capz), (40, iq (((i : Nat) : Int) % W)), (41, iq (((i : Nat) : Int) / W))] ?_
   refine pl_step 6 1 rfl rfl ?_
   refine call_pure (d := 42) (.bool (hasL xsz (((i : Nat) : Int) % W) (((i : Nat) : Int) / W))) (by kernel_rfl) (fun w hT => refHasL Az gz oz nz capz xsz (((i : Nat) : Int) % W) (((i : Nat) : Int) / W) w (hT.viewRo (.cons (i := 6) rfl Vw.rd .nil) rfl) (by omega)) ?_
   refine bS [0] 7 0 [(2, .slice Az nz capz), (3, .pointer (pB b1)), (4, .pointer (pB b2)), (6, .pointer (pB b3)), (8, .slice A i cp), (9, iq ((mixN W (drwB W' H' X Y s ca cb cc cd xsz) i : Nat) : Int)), (10, iq ((i : Nat) : Int)), (13, .int .u32 (pcolC W' H' X Y s al ca cb cc cd px' (((i : Nat) : Int) % W) (((i : Nat) : Int) / W))), (39, .slice Az nz capz), (40, iq (((i : Nat) : Int) % W)), (41, iq (((i : Nat) : Int) / W)), (42, .bool (hasL xsz (((i : Nat) : Int) % W) (((i : Nat) : Int) / W))), (43, .bool (hasL xsz (((i : Nat) : Int) % W) (((i : Nat) : Int) / W)))] ?_
   refine cont_done ?_
   refine then_normal ?_
   refine cont_split 43 (hasL xsz (((i : Nat) : Int) % W) (((i : Nat) : Int) / W)) rfl (fun c8_ => ?_) (fun c8_ => ?_)
   ·
    refine cont_recast 42 (.bool (hasL xsz (((i : Nat) : Int) % W) (((i : Nat) : Int) / W))) (.bool true) rfl (congrArg Value.bool c8_) ?_
    have hB_ : (drwB W' H' X Y s ca cb cc cd xsz) ((i : Int) % W) ((i : Int) / W) = true := drwB_yes c7_ c8_
    refine cont_true rfl ?_
    refine cont_seq ?_
    refine cont_region 11 rfl ?_
    refine bS [0, 0, 0, 3, 0] 5 6 [(2, .slice Az nz capz), (3, .pointer (pB b1)), (4, .pointer (pB b2)), (6, .pointer (pB b3)), (9, iq ((mixN W (drwB W' H' X Y s ca cb cc cd xsz) i : Nat) : Int)), (10, iq ((i : Nat) : Int)), (39, .slice Az nz capz), (40, iq (((i : Nat) : Int) % W)), (41, iq (((i : Nat) : Int) / W)), (42, .bool true), (44, .slice A i cp), (45, .int .u32 (pcolC W' H' X Y s al ca cb cc cd px' (((i : Nat) : Int) % W) (((i : Nat) : Int) / W))), (47, .slice (pB r) n cap), (48, iq ((i : Nat) : Int))] ?_
    refine pl_step 6 5 rfl rfl ?_
    refine sem_step 49 (Instr.indexAt 22 (.slice (pB r) n cap) (iq ((i : Nat) : Int))) (.pointer (some ⟨r, (i : Nat), none⟩)) (by kernel_rfl) (fun w hT => run_indexAt (e := 35) (sz := 1) _ (by kernel_rfl) (by kernel_rfl) (by omega) (by omega) (by omega) w) ?_
    refine pl_step 7 4 rfl rfl ?_
    refine sem_step 50 (Instr.loadAt 35 (.pointer (some ⟨r, (i : Nat), none⟩))) (.int .u32 (px.getD (i : Nat) 0)) (by kernel_rfl) (fun w hT => run_load1 (by kernel_rfl) (Rd.cell0 (hT.ok 4 _ rfl) ((i : Nat)) _ (ivals_get (by omega)))) ?_
    obtain ⟨hge0, hge1⟩ := hge (by omega)
    have hpc := pcolC_in px' W' H' X Y s al ca cb cc cd ((i : Int) % W) ((i : Int) / W)
    obtain ⟨hpc0, hpc1⟩ := hpc
    refine pl_step 8 3 rfl rfl ?_
    refine call_pure (d := 51) (.int .u32 (overC (pcolC W' H' X Y s al ca cb cc cd px' (((i : Nat) : Int) % W) (((i : Nat) : Int) / W)) (px.getD (i : Nat) 0))) (by kernel_rfl) (fun w hT => refOver (pcolC W' H' X Y s al ca cb cc cd px' (((i : Nat) : Int) % W) (((i : Nat) : Int) / W)) (px.getD (i : Nat) 0) w (by omega) (by omega) (by omega) (by omega)) ?_
    refine batch1 [0] 9 2 (fun b9 => [(2, .slice Az nz capz), (3, .pointer (pB b1)), (4, .pointer (pB b2)), (6, .pointer (pB b3)), (9, iq ((mixN W (drwB W' H' X Y s ca cb cc cd xsz) i : Nat) : Int)), (10, iq ((i : Nat) : Int)), (39, .slice Az nz capz), (40, iq (((i : Nat) : Int) % W)), (41, iq (((i : Nat) : Int) / W)), (42, .bool true), (44, .slice A i cp), (52, .slice (pB b9) 1 1)]) (fun b9 => [.cells b9 [.int .u32 (overC (pcolC W' H' X Y s al ca cb cc cd px' (((i : Nat) : Int) % W) (((i : Nat) : Int) / W)) (px.getD (i : Nat) 0))] 35 true, .gen (rowE (A) g i cp 35 1 (ivals .u32 ((mixL W (drwB W' H' X Y s ca cb cc cd xsz) (drwG (pcolC W' H' X Y s al ca cb cc cd px')) px).take i)) true), .cells b3 [iq 0, iq 0, .slice none 0 0] 24 true, .cells b2 [.bool true, iq W', iq H', .slice (some ⟨r', 0, none⟩) n' cap', iq X, iq Y, iq s, iq al, iq ca, iq cb, iq cc, iq cd] 30 true, .cells b1 [iq W, iq H, .slice (pB r) n cap] 24 true, .gen (rdE (pB r) r 0 n 1 (ivals .u32 px)), .gen (rdE (some ⟨r', 0, none⟩) r' 0 n' 1 (ivals .u32 px')), .gen (rdE (Az) gz oz nz 4 (rvals xsz))]) rfl rfl [2, 3, 4, 6, 9, 10, 39, 40, 41, 42, 44, 52] (fun _ => rfl) (fun b9 => by kernel_rfl) (fun b9 => by kernel_rfl) (fun b9 => ?_)
    refine pl_step 10 1 rfl rfl ?_
    refine sem_stepW (α := Option Addr × Nat × Nat) 53 (Builtin.append_ #[22, 22] 22 #[.slice A i cp, .slice (pB b9) 1 1]) (fun x_ => .slice x_.1 (i + 1) x_.2.2) (fun x_ => [.cells b9 [.int .u32 (overC (pcolC W' H' X Y s al ca cb cc cd px' (((i : Nat) : Int) % W) (((i : Nat) : Int) / W)) (px.getD (i : Nat) 0))] 35 true, .gen (rowE (x_.1) x_.2.1 (i + 1) x_.2.2 35 1 (ivals .u32 (((mixL W (drwB W' H' X Y s ca cb cc cd xsz) (drwG (pcolC W' H' X Y s al ca cb cc cd px')) px).take i) ++ [overC (pcolC W' H' X Y s al ca cb cc cd px' (((i : Nat) : Int) % W) (((i : Nat) : Int) / W)) (px.getD (i : Nat) 0)])) true), .cells b3 [iq 0, iq 0, .slice none 0 0] 24 true, .cells b2 [.bool true, iq W', iq H', .slice (some ⟨r', 0, none⟩) n' cap', iq X, iq Y, iq s, iq al, iq ca, iq cb, iq cc, iq cd] 30 true, .cells b1 [iq W, iq H, .slice (pB r) n cap] 24 true, .gen (rdE (pB r) r 0 n 1 (ivals .u32 px)), .gen (rdE (some ⟨r', 0, none⟩) r' 0 n' 1 (ivals .u32 px')), .gen (rdE (Az) gz oz nz 4 (rvals xsz))]) (fun _ => True) (by kernel_rfl) (fun w hT => append_own (n' := (i + 1)) (z := .int .u32 0) hT (i := 1) (bytes := 4) rfl (by kernel_rfl) (by kernel_rfl) rfl (by decide) (by decide) (Rd.ofCells (vals := ivals .u32 [overC (pcolC W' H' X Y s al ca cb cc cd px' (((i : Nat) : Int) % W) (((i : Nat) : Int) / W)) (px.getD (i : Nat) 0)]) (hT.ok 0 _ rfl) rfl rfl) (ivals_one .u32 [overC (pcolC W' H' X Y s al ca cb cc cd px' (((i : Nat) : Int) % W) (((i : Nat) : Int) / W)) (px.getD (i : Nat) 0)]) (by omega) (ivals_append .u32 ((mixL W (drwB W' H' X Y s ca cb cc cd xsz) (drwG (pcolC W' H' X Y s al ca cb cc cd px')) px).take i) [overC (pcolC W' H' X Y s al ca cb cc cd px' (((i : Nat) : Int) % W) (((i : Nat) : Int) / W)) (px.getD (i : Nat) 0)]) rfl) ?_
    rintro ⟨A10, g10, cp10⟩ -
    refine cont_norm [(2, .slice Az nz capz), (3, .pointer (pB b1)), (4, .pointer (pB b2)), (6, .pointer (pB b3)), (9, iq ((mixN W (drwB W' H' X Y s ca cb cc cd xsz) i : Nat) : Int)), (10, iq ((i : Nat) : Int)), (39, .slice Az nz capz), (40, iq (((i : Nat) : Int) % W)), (41, iq (((i : Nat) : Int) / W)), (42, .bool true), (44, .slice A i cp), (52, .slice (pB b9) 1 1), (53, .slice A10 (i + 1) cp10)] _ (by kernel_rfl) rfl ?_
    refine cont_fact (F := (0 < (i + 1) → (A10 : Option Addr) = pB g10) ∧ (((mixL W (drwB W' H' X Y s ca cb cc cd xsz) (drwG (pcolC W' H' X Y s al ca cb cc cd px')) px).take i) ++ [overC (pcolC W' H' X Y s al ca cb cc cd px' (((i : Nat) : Int) % W) (((i : Nat) : Int) / W)) (px.getD (i : Nat) 0)]).length = (i + 1) ∧ (i + 1) ≤ cp10 ∧ cp10 ≤ maxLen) (fun w hT => Row.facts (hT.ok 1 _ rfl)) (fun hr11_ => ?_)
    obtain ⟨hr11_a, hr11_l, hr11_c, hr11_m⟩ := hr11_
    unfold maxLen at hr11_m
    refine bS [0] 11 0 [(2, .slice Az nz capz), (3, .pointer (pB b1)), (4, .pointer (pB b2)), (6, .pointer (pB b3)), (8, .slice A10 (i + 1) cp10), (9, iq ((mixN W (drwB W' H' X Y s ca cb cc cd xsz) i : Nat) : Int)), (10, iq ((i : Nat) : Int)), (39, .slice Az nz capz), (40, iq (((i : Nat) : Int) % W)), (41, iq (((i : Nat) : Int) / W)), (42, .bool true)] ?_
    refine cont_forget 0 rfl ?_
    refine cont_done ?_
    refine then_normal ?_
    refine cont_region 3 rfl ?_
    refine bS [0, 0] 2 1 [(2, .slice Az nz capz), (3, .pointer (pB b1)), (4, .pointer (pB b2)), (6, .pointer (pB b3)), (8, .slice A10 (i + 1) cp10), (10, iq ((i : Nat) : Int)), (39, .slice Az nz capz), (40, iq (((i : Nat) : Int) % W)), (41, iq (((i : Nat) : Int) / W)), (42, .bool true), (55, iq (IntKind.i64.wrap (((mixN W (drwB W' H' X Y s ca cb cc cd xsz) i : Nat) : Int) + 1)))] ?_
    refine cont_recast 55 (iq (IntKind.i64.wrap (((mixN W (drwB W' H' X Y s ca cb cc cd xsz) i : Nat) : Int) + 1))) (iq (((mixN W (drwB W' H' X Y s ca cb cc cd xsz) i : Nat) : Int) + 1)) rfl (wrapI (by omega) (by omega)) ?_
    refine bS [0] 3 0 [(2, .slice Az nz capz), (3, .pointer (pB b1)), (4, .pointer (pB b2)), (6, .pointer (pB b3)), (8, .slice A10 (i + 1) cp10), (9, iq (((mixN W (drwB W' H' X Y s ca cb cc cd xsz) i : Nat) : Int) + 1)), (10, iq ((i : Nat) : Int)), (39, .slice Az nz capz), (40, iq (((i : Nat) : Int) % W)), (41, iq (((i : Nat) : Int) / W)), (42, .bool true)] ?_
    refine cont_done ?_
    refine blk_normal ?_
    refine then_normal ?_
    refine cont_region 3 rfl ?_
    refine bS [0, 0] 2 1 [(2, .slice Az nz capz), (3, .pointer (pB b1)), (4, .pointer (pB b2)), (6, .pointer (pB b3)), (8, .slice A10 (i + 1) cp10), (9, iq (((mixN W (drwB W' H' X Y s ca cb cc cd xsz) i : Nat) : Int) + 1)), (21, iq (IntKind.i64.wrap (((i : Nat) : Int) + 1))), (39, .slice Az nz capz), (40, iq (((i : Nat) : Int) % W)), (41, iq (((i : Nat) : Int) / W)), (42, .bool true)] ?_
    refine cont_recast 21 (iq (IntKind.i64.wrap (((i : Nat) : Int) + 1))) (iq (((i : Nat) : Int) + 1)) rfl (wrapI (by omega) (by omega)) ?_
    refine bS [0] 3 0 [(2, .slice Az nz capz), (3, .pointer (pB b1)), (4, .pointer (pB b2)), (6, .pointer (pB b3)), (8, .slice A10 (i + 1) cp10), (9, iq (((mixN W (drwB W' H' X Y s ca cb cc cd xsz) i : Nat) : Int) + 1)), (10, iq (((i : Nat) : Int) + 1)), (39, .slice Az nz capz), (40, iq (((i : Nat) : Int) % W)), (41, iq (((i : Nat) : Int) / W)), (42, .bool true)] ?_
    refine cont_done ?_
    refine then_normal ?_
    refine cont_rowEq (k := .u32) 0 (((mixL W (drwB W' H' X Y s ca cb cc cd xsz) (drwG (pcolC W' H' X Y s al ca cb cc cd px')) px).take i) ++ [overC (pcolC W' H' X Y s al ca cb cc cd px' (((i : Nat) : Int) % W) (((i : Nat) : Int) / W)) (px.getD (i : Nat) 0)]) ((mixL W (drwB W' H' X Y s ca cb cc cd xsz) (drwG (pcolC W' H' X Y s al ca cb cc cd px')) px).take (i + 1)) rfl (mixL_yes (by omega) hB_) ?_
    refine cont_recast 9 (iq (((mixN W (drwB W' H' X Y s ca cb cc cd xsz) i : Nat) : Int) + 1)) (iq ((mixN W (drwB W' H' X Y s ca cb cc cd xsz) (i + 1) : Nat) : Int)) rfl (congrArg (Value.int .i64) (by rw [mixN_yes hB_]; omega)) ?_
    refine cont_again (i + 1, A10, g10, cp10) (show (i + 1) ≤ n from (by omega)) (show n - (i + 1) < n - i from by omega) (by kernel_rfl) (by kernel_rfl)
   refine cont_recast 42 (.bool (hasL xsz (((i : Nat) : Int) % W) (((i : Nat) : Int) / W))) (.bool false) rfl (congrArg Value.bool c8_) ?_
   have hB_ : (drwB W' H' X Y s ca cb cc cd xsz) ((i : Int) % W) ((i : Int) / W) = false := drwB_no (.inr c8_)
   refine cont_false rfl ?_
   refine cont_region 9 rfl ?_
   refine bS [0, 0, 3, 0] 4 5 [(2, .slice Az nz capz), (3, .pointer (pB b1)), (4, .pointer (pB b2)), (6, .pointer (pB b3)), (9, iq ((mixN W (drwB W' H' X Y s ca cb cc cd xsz) i : Nat) : Int)), (10, iq ((i : Nat) : Int)), (39, .slice Az nz capz), (40, iq (((i : Nat) : Int) % W)), (41, iq (((i : Nat) : Int) / W)), (42, .bool false), (56, .slice A i cp), (58, .slice (pB r) n cap), (59, iq ((i : Nat) : Int))] ?_
   refine pl_step 5 4 rfl rfl ?_
   refine sem_step 60 (Instr.indexAt 22 (.slice (pB r) n cap) (iq ((i : Nat) : Int))) (.pointer (some ⟨r, (i : Nat), none⟩)) (by kernel_rfl) (fun w hT => run_indexAt (e := 35) (sz := 1) _ (by kernel_rfl) (by kernel_rfl) (by omega) (by omega) (by omega) w) ?_
   refine pl_step 6 3 rfl rfl ?_
   refine sem_step 61 (Instr.loadAt 35 (.pointer (some ⟨r, (i : Nat), none⟩))) (.int .u32 (px.getD (i : Nat) 0)) (by kernel_rfl) (fun w hT => run_load1 (by kernel_rfl) (Rd.cell0 (hT.ok 4 _ rfl) ((i : Nat)) _ (ivals_get (by omega)))) ?_
   refine batch1 [0] 7 2 (fun b12 => [(2, .slice Az nz capz), (3, .pointer (pB b1)), (4, .pointer (pB b2)), (6, .pointer (pB b3)), (9, iq ((mixN W (drwB W' H' X Y s ca cb cc cd xsz) i : Nat) : Int)), (10, iq ((i : Nat) : Int)), (39, .slice Az nz capz), (40, iq (((i : Nat) : Int) % W)), (41, iq (((i : Nat) : Int) / W)), (42, .bool false), (56, .slice A i cp), (62, .slice (pB b12) 1 1)]) (fun b12 => [.cells b12 [.int .u32 (px.getD (i : Nat) 0)] 35 true, .gen (rowE (A) g i cp 35 1 (ivals .u32 ((mixL W (drwB W' H' X Y s ca cb cc cd xsz) (drwG (pcolC W' H' X Y s al ca cb cc cd px')) px).take i)) true), .cells b3 [iq 0, iq 0, .slice none 0 0] 24 true, .cells b2 [.bool true, iq W', iq H', .slice (some ⟨r', 0, none⟩) n' cap', iq X, iq Y, iq s, iq al, iq ca, iq cb, iq cc, iq cd] 30 true, .cells b1 [iq W, iq H, .slice (pB r) n cap] 24 true, .gen (rdE (pB r) r 0 n 1 (ivals .u32 px)), .gen (rdE (some ⟨r', 0, none⟩) r' 0 n' 1 (ivals .u32 px')), .gen (rdE (Az) gz oz nz 4 (rvals xsz))]) rfl rfl [2, 3, 4, 6, 9, 10, 39, 40, 41, 42, 56, 62] (fun _ => rfl) (fun b12 => by kernel_rfl) (fun b12 => by kernel_rfl) (fun b12 => ?_)
   refine pl_step 8 1 rfl rfl ?_
   refine sem_stepW (α := Option Addr × Nat × Nat) 63 (Builtin.append_ #[22, 22] 22 #[.slice A i cp, .slice (pB b12) 1 1]) (fun x_ => .slice x_.1 (i + 1) x_.2.2) (fun x_ => [.cells b12 [.int .u32 (px.getD (i : Nat) 0)] 35 true, .gen (rowE (x_.1) x_.2.1 (i + 1) x_.2.2 35 1 (ivals .u32 (((mixL W (drwB W' H' X Y s ca cb cc cd xsz) (drwG (pcolC W' H' X Y s al ca cb cc cd px')) px).take i) ++ [px.getD (i : Nat) 0])) true), .cells b3 [iq 0, iq 0, .slice none 0 0] 24 true, .cells b2 [.bool true, iq W', iq H', .slice (some ⟨r', 0, none⟩) n' cap', iq X, iq Y, iq s, iq al, iq ca, iq cb, iq cc, iq cd] 30 true, .cells b1 [iq W, iq H, .slice (pB r) n cap] 24 true, .gen (rdE (pB r) r 0 n 1 (ivals .u32 px)), .gen (rdE (some ⟨r', 0, none⟩) r' 0 n' 1 (ivals .u32 px')), .gen (rdE (Az) gz oz nz 4 (rvals xsz))]) (fun _ => True) (by kernel_rfl) (fun w hT => append_own (n' := (i + 1)) (z := .int .u32 0) hT (i := 1) (bytes := 4) rfl (by kernel_rfl) (by kernel_rfl) rfl (by decide) (by decide) (Rd.ofCells (vals := ivals .u32 [px.getD (i : Nat) 0]) (hT.ok 0 _ rfl) rfl rfl) (ivals_one .u32 [px.getD (i : Nat) 0]) (by omega) (ivals_append .u32 ((mixL W (drwB W' H' X Y s ca cb cc cd xsz) (drwG (pcolC W' H' X Y s al ca cb cc cd px')) px).take i) [px.getD (i : Nat) 0]) rfl) ?_
   rintro ⟨A13, g13, cp13⟩ -
   refine cont_norm [(2, .slice Az nz capz), (3, .pointer (pB b1)), (4, .pointer (pB b2)), (6, .pointer (pB b3)), (9, iq ((mixN W (drwB W' H' X Y s ca cb cc cd xsz) i : Nat) : Int)), (10, iq ((i : Nat) : Int)), (39, .slice Az nz capz), (40, iq (((i : Nat) : Int) % W)), (41, iq (((i : Nat) : Int) / W)), (42, .bool false), (56, .slice A i cp), (62, .slice (pB b12) 1 1), (63, .slice A13 (i + 1) cp13)] _ (by kernel_rfl) rfl ?_
   refine cont_fact (F := (0 < (i + 1) → (A13 : Option Addr) = pB g13) ∧ (((mixL W (drwB W' H' X Y s ca cb cc cd xsz) (drwG (pcolC W' H' X Y s al ca cb cc cd px')) px).take i) ++ [px.getD (i : Nat) 0]).length = (i + 1) ∧ (i + 1) ≤ cp13 ∧ cp13 ≤ maxLen) (fun w hT => Row.facts (hT.ok 1 _ rfl)) (fun hr14_ => ?_)
   obtain ⟨hr14_a, hr14_l, hr14_c, hr14_m⟩ := hr14_
   unfold maxLen at hr14_m
   refine bS [0] 9 0 [(2, .slice Az nz capz), (3, .pointer (pB b1)), (4, .pointer (pB b2)), (6, .pointer (pB b3)), (8, .slice A13 (i + 1) cp13), (9, iq ((mixN W (drwB W' H' X Y s ca cb cc cd xsz) i : Nat) : Int)), (10, iq ((i : Nat) : Int)), (39, .slice Az nz capz), (40, iq (((i : Nat) : Int) % W)), (41, iq (((i : Nat) : Int) / W)), (42, .bool false)] ?_
   refine cont_forget 0 rfl ?_
   refine cont_done ?_
   refine blk_normal ?_
   refine then_normal ?_
   refine cont_region 3 rfl ?_
   refine bS [0, 0] 2 1 [(2, .slice Az nz capz), (3, .pointer (pB b1)), (4, .pointer (pB b2)), (6, .pointer (pB b3)), (8, .slice A13 (i + 1) cp13), (9, iq ((mixN W (drwB W' H' X Y s ca cb cc cd xsz) i : Nat) : Int)), (21, iq (IntKind.i64.wrap (((i : Nat) : Int) + 1))), (39, .slice Az nz capz), (40, iq (((i : Nat) : Int) % W)), (41, iq (((i : Nat) : Int) / W)), (42, .bool false)] ?_
   refine cont_recast 21 (iq (IntKind.i64.wrap (((i : Nat) : Int) + 1))) (iq (((i : Nat) : Int) + 1)) rfl (wrapI (by omega) (by omega)) ?_
   refine bS [0] 3 0 [(2, .slice Az nz capz), (3, .pointer (pB b1)), (4, .pointer (pB b2)), (6, .pointer (pB b3)), (8, .slice A13 (i + 1) cp13), (9, iq ((mixN W (drwB W' H' X Y s ca cb cc cd xsz) i : Nat) : Int)), (10, iq (((i : Nat) : Int) + 1)), (39, .slice Az nz capz), (40, iq (((i : Nat) : Int) % W)), (41, iq (((i : Nat) : Int) / W)), (42, .bool false)] ?_
   refine cont_done ?_
   refine then_normal ?_
   refine cont_rowEq (k := .u32) 0 (((mixL W (drwB W' H' X Y s ca cb cc cd xsz) (drwG (pcolC W' H' X Y s al ca cb cc cd px')) px).take i) ++ [px.getD (i : Nat) 0]) ((mixL W (drwB W' H' X Y s ca cb cc cd xsz) (drwG (pcolC W' H' X Y s al ca cb cc cd px')) px).take (i + 1)) rfl (mixL_no (by omega) hB_) ?_
   refine cont_recast 9 (iq ((mixN W (drwB W' H' X Y s ca cb cc cd xsz) i : Nat) : Int)) (iq ((mixN W (drwB W' H' X Y s ca cb cc cd xsz) (i + 1) : Nat) : Int)) rfl (congrArg (Value.int .i64) (by rw [mixN_no hB_])) ?_
   refine cont_again (i + 1, A13, g13, cp13) (show (i + 1) ≤ n from (by omega)) (show n - (i + 1) < n - i from by omega) (by kernel_rfl) (by kernel_rfl)
  have hB_ : (drwB W' H' X Y s ca cb cc cd xsz) ((i : Int) % W) ((i : Int) / W) = false := drwB_no (.inl c7_)
  refine bS [0, 0, 0, 0, 0] 7 0 [(2, .slice Az nz capz), (3, .pointer (pB b1)), (4, .pointer (pB b2)), (6, .pointer (pB b3)), (8, .slice A i cp), (9, iq ((mixN W (drwB W' H' X Y s ca cb cc cd xsz) i : Nat) : Int)), (10, iq ((i : Nat) : Int)), (13, .int .u32 (pcolC W' H' X Y s al ca cb cc cd px' (((i : Nat) : Int) % W) (((i : Nat) : Int) / W))), (39, undef), (40, undef), (41, undef), (42, undef), (43, .bool false)] ?_
  refine cont_done ?_
  refine then_normal ?_
  refine cont_false rfl ?_
  refine cont_region 9 rfl ?_
  refine bS [0, 0, 3, 0] 4 5 [(2, .slice Az nz capz), (3, .pointer (pB b1)), (4, .pointer (pB b2)), (6, .pointer (pB b3)), (9, iq ((mixN W (drwB W' H' X Y s ca cb cc cd xsz) i : Nat) : Int)), (10, iq ((i : Nat) : Int)), (39, undef), (40, undef), (41, undef), (42, undef), (56, .slice A i cp), (58, .slice (pB r) n cap), (59, iq ((i : Nat) : Int))] ?_
  refine pl_step 5 4 rfl rfl ?_
  refine sem_step 60 (Instr.indexAt 22 (.slice (pB r) n cap) (iq ((i : Nat) : Int))) (.pointer (some ⟨r, (i : Nat), none⟩)) (by kernel_rfl) (fun w hT => run_indexAt (e := 35) (sz := 1) _ (by kernel_rfl) (by kernel_rfl) (by omega) (by omega) (by omega) w) ?_
  refine pl_step 6 3 rfl rfl ?_
  refine sem_step 61 (Instr.loadAt 35 (.pointer (some ⟨r, (i : Nat), none⟩))) (.int .u32 (px.getD (i : Nat) 0)) (by kernel_rfl) (fun w hT => run_load1 (by kernel_rfl) (Rd.cell0 (hT.ok 4 _ rfl) ((i : Nat)) _ (ivals_get (by omega)))) ?_
  refine batch1 [0] 7 2 (fun b15 => [(2, .slice Az nz capz), (3, .pointer (pB b1)), (4, .pointer (pB b2)), (6, .pointer (pB b3)), (9, iq ((mixN W (drwB W' H' X Y s ca cb cc cd xsz) i : Nat) : Int)), (10, iq ((i : Nat) : Int)), (39, undef), (40, undef), (41, undef), (42, undef), (56, .slice A i cp), (62, .slice (pB b15) 1 1)]) (fun b15 => [.cells b15 [.int .u32 (px.getD (i : Nat) 0)] 35 true, .gen (rowE (A) g i cp 35 1 (ivals .u32 ((mixL W (drwB W' H' X Y s ca cb cc cd xsz) (drwG (pcolC W' H' X Y s al ca cb cc cd px')) px).take i)) true), .cells b3 [iq 0, iq 0, .slice none 0 0] 24 true, .cells b2 [.bool true, iq W', iq H', .slice (some ⟨r', 0, none⟩) n' cap', iq X, iq Y, iq s, iq al, iq ca, iq cb, iq cc, iq cd] 30 true, .cells b1 [iq W, iq H, .slice (pB r) n cap] 24 true, .gen (rdE (pB r) r 0 n 1 (ivals .u32 px)), .gen (rdE (some ⟨r', 0, none⟩) r' 0 n' 1 (ivals .u32 px')), .gen (rdE (Az) gz oz nz 4 (rvals xsz))]) rfl rfl [2, 3, 4, 6, 9, 10, 39, 40, 41, 42, 56, 62] (fun _ => rfl) (fun b15 => by kernel_rfl) (fun b15 => by kernel_rfl) (fun b15 => ?_)
  refine pl_step 8 1 rfl rfl ?_
  refine sem_stepW (α := Option Addr × Nat × Nat) 63 (Builtin.append_ #[22, 22] 22 #[.slice A i cp, .slice (pB b15) 1 1]) (fun x_ => .slice x_.1 (i + 1) x_.2.2) (fun x_ => [.cells b15 [.int .u32 (px.getD (i : Nat) 0)] 35 true, .gen (rowE (x_.1) x_.2.1 (i + 1) x_.2.2 35 1 (ivals .u32 (((mixL W (drwB W' H' X Y s ca cb cc cd xsz) (drwG (pcolC W' H' X Y s al ca cb cc cd px')) px).take i) ++ [px.getD (i : Nat) 0])) true), .cells b3 [iq 0, iq 0, .slice none 0 0] 24 true, .cells b2 [.bool true, iq W', iq H', .slice (some ⟨r', 0, none⟩) n' cap', iq X, iq Y, iq s, iq al, iq ca, iq cb, iq cc, iq cd] 30 true, .cells b1 [iq W, iq H, .slice (pB r) n cap] 24 true, .gen (rdE (pB r) r 0 n 1 (ivals .u32 px)), .gen (rdE (some ⟨r', 0, none⟩) r' 0 n' 1 (ivals .u32 px')), .gen (rdE (Az) gz oz nz 4 (rvals xsz))]) (fun _ => True) (by kernel_rfl) (fun w hT => append_own (n' := (i + 1)) (z := .int .u32 0) hT (i := 1) (bytes := 4) rfl (by kernel_rfl) (by kernel_rfl) rfl (by decide) (by decide) (Rd.ofCells (vals := ivals .u32 [px.getD (i : Nat) 0]) (hT.ok 0 _ rfl) rfl rfl) (ivals_one .u32 [px.getD (i : Nat) 0]) (by omega) (ivals_append .u32 ((mixL W (drwB W' H' X Y s ca cb cc cd xsz) (drwG (pcolC W' H' X Y s al ca cb cc cd px')) px).take i) [px.getD (i : Nat) 0]) rfl) ?_
  rintro ⟨A16, g16, cp16⟩ -
  refine cont_norm [(2, .slice Az nz capz), (3, .pointer (pB b1)), (4, .pointer (pB b2)), (6, .pointer (pB b3)), (9, iq ((mixN W (drwB W' H' X Y s ca cb cc cd xsz) i : Nat) : Int)), (10, iq ((i : Nat) : Int)), (39, undef), (40, undef), (41, undef), (42, undef), (56, .slice A i cp), (62, .slice (pB b15) 1 1), (63, .slice A16 (i + 1) cp16)] _ (by kernel_rfl) rfl ?_
  refine cont_fact (F := (0 < (i + 1) → (A16 : Option Addr) = pB g16) ∧ (((mixL W (drwB W' H' X Y s ca cb cc cd xsz) (drwG (pcolC W' H' X Y s al ca cb cc cd px')) px).take i) ++ [px.getD (i : Nat) 0]).length = (i + 1) ∧ (i + 1) ≤ cp16 ∧ cp16 ≤ maxLen) (fun w hT => Row.facts (hT.ok 1 _ rfl)) (fun hr17_ => ?_)
  obtain ⟨hr17_a, hr17_l, hr17_c, hr17_m⟩ := hr17_
  unfold maxLen at hr17_m
  refine bS [0] 9 0 [(2, .slice Az nz capz), (3, .pointer (pB b1)), (4, .pointer (pB b2)), (6, .pointer (pB b3)), (8, .slice A16 (i + 1) cp16), (9, iq ((mixN W (drwB W' H' X Y s ca cb cc cd xsz) i : Nat) : Int)), (10, iq ((i : Nat) : Int)), (39, undef), (40, undef), (41, undef), (42, undef)] ?_
  refine cont_forget 0 rfl ?_
  refine cont_done ?_
  refine blk_normal ?_
  refine then_normal ?_
  refine cont_region 3 rfl ?_
  refine bS [0, 0] 2 1 [(2, .slice Az nz capz), (3, .pointer (pB b1)), (4, .pointer (pB b2)), (6, .pointer (pB b3)), (8, .slice A16 (i + 1) cp16), (9, iq ((mixN W (drwB W' H' X Y s ca cb cc cd xsz) i : Nat) : Int)), (21, iq (IntKind.i64.wrap (((i : Nat) : Int) + 1))), (39, undef), (40, undef), (41, undef), (42, undef)] ?_
  refine cont_recast 21 (iq (IntKind.i64.wrap (((i : Nat) : Int) + 1))) (iq (((i : Nat) : Int) + 1)) rfl (wrapI (by omega) (by omega)) ?_
  refine bS [0] 3 0 [(2, .slice Az nz capz), (3, .pointer (pB b1)), (4, .pointer (pB b2)), (6, .pointer (pB b3)), (8, .slice A16 (i + 1) cp16), (9, iq ((mixN W (drwB W' H' X Y s ca cb cc cd xsz) i : Nat) : Int)), (10, iq (((i : Nat) : Int) + 1)), (39, undef), (40, undef), (41, undef), (42, undef)] ?_
  refine cont_done ?_
  refine then_normal ?_
  refine cont_rowEq (k := .u32) 0 (((mixL W (drwB W' H' X Y s ca cb cc cd xsz) (drwG (pcolC W' H' X Y s al ca cb cc cd px')) px).take i) ++ [px.getD (i : Nat) 0]) ((mixL W (drwB W' H' X Y s ca cb cc cd xsz) (drwG (pcolC W' H' X Y s al ca cb cc cd px')) px).take (i + 1)) rfl (mixL_no (by omega) hB_) ?_
  refine cont_recast 9 (iq ((mixN W (drwB W' H' X Y s ca cb cc cd xsz) i : Nat) : Int)) (iq ((mixN W (drwB W' H' X Y s ca cb cc cd xsz) (i + 1) : Nat) : Int)) rfl (congrArg (Value.int .i64) (by rw [mixN_no hB_])) ?_
  refine cont_again (i + 1, A16, g16, cp16) (show (i + 1) ≤ n from (by omega)) (show n - (i + 1) < n - i from by omega) (by kernel_rfl) (by kernel_rfl)
 replace c6_ := of_decide_eq_false c6_
 refine cont_false rfl ?_
 refine cont_exit ?_
 refine then_exit ?_
 refine then_exit ?_
 refine blk_exit ?_
 refine then_normal ?_
 refine cont_seq ?_
 refine cont_region 3 rfl ?_
 refine batch0 [0, 0, 3] 3 0 [(3, .pointer (pB b1)), (6, .pointer (pB b3)), (9, iq ((mixN W (drwB W' H' X Y s ca cb cc cd xsz) i : Nat) : Int))] [.gen (rowE (A) g i cp 35 1 (ivals .u32 ((mixL W (drwB W' H' X Y s ca cb cc cd xsz) (drwG (pcolC W' H' X Y s al ca cb cc cd px')) px).take i)) true), .cells b3 [iq 0, iq 0, .slice none 0 0] 24 true, .cells b2 [.bool true, iq W', iq H', .slice (some ⟨r', 0, none⟩) n' cap', iq X, iq Y, iq s, iq al, iq ca, iq cb, iq cc, iq cd] 30 true, .cells b1 [iq W, iq H, .slice A i cp] 24 true, .gen (rdE (pB r) r 0 n 1 (ivals .u32 px)), .gen (rdE (some ⟨r', 0, none⟩) r' 0 n' 1 (ivals .u32 px')), .gen (rdE (Az) gz oz nz 4 (rvals xsz))] rfl rfl (by kernel_rfl) (by kernel_rfl) ?_
 refine cont_forget 2 rfl ?_
 refine cont_done ?_
 refine then_normal ?_
 refine cont_seq ?_
 refine cont_region 4 rfl ?_
 refine batch0 [2, 0, 1, 0] 4 0 [(6, .pointer (pB b3)), (7, iq ((mixN W (drwB W' H' X Y s ca cb cc cd xsz) i : Nat) : Int))] [.gen (rowE (A) g i cp 35 1 (ivals .u32 ((mixL W (drwB W' H' X Y s ca cb cc cd xsz) (drwG (pcolC W' H' X Y s al ca cb cc cd px')) px).take i)) true), .cells b3 [iq W, iq H, .slice A i cp] 24 true, .cells b1 [iq W, iq H, .slice A i cp] 24 true, .gen (rdE (pB r) r 0 n 1 (ivals .u32 px)), .gen (rdE (some ⟨r', 0, none⟩) r' 0 n' 1 (ivals .u32 px')), .gen (rdE (Az) gz oz nz 4 (rvals xsz))] rfl rfl (by kernel_rfl) (by kernel_rfl) ?_
 refine cont_forget 2 rfl ?_
 refine cont_done ?_
 refine then_normal ?_
 refine cont_ret ?_
 refine ret_two (.inl rfl) rfl 1 0 (.agg #[iq W, iq H, .slice A i cp]) (iq ((mixN W (drwB W' H' X Y s ca cb cc cd xsz) i : Nat) : Int)) (by kernel_rfl) (by kernel_rfl) (by kernel_rfl) (by kernel_rfl) (fun w hT => ?_)
 replace hT := hT.erase 4 (fun e h hw => by cases h; first | rfl | cases hw)
 replace hT := hT.erase 3 (fun e h hw => by cases h; first | rfl | cases hw)
 replace hT := hT.erase 2 (fun e h hw => by cases h; first | rfl | cases hw)
 replace hT := hT.erase 1 (fun e h hw => by cases h; first | rfl | cases hw)
 rw [mixL_full (by omega)] at hT
 have hin : i = n := by omega
 subst hin
 have hA := (Row.facts (hT.ok 0 _ rfl)).1 (by omega)
 subst hA
 exact ⟨_, _, rfl, hT⟩

theorem refClear5 (W H : Int) (r n cap : Nat) (px : List Int) (Az : Option Addr) (gz oz nz capz : Nat) (xsz : List Rect) (c : Int) (w : World) (hT0 : Tab w w [.gen (rdE (some ⟨r, 0, none⟩) r 0 n 1 (ivals .u32 px)), .gen (rdE (Az) gz oz nz 4 (rvals xsz))]) (hok : ImgOk W H n px) (hc : InC c) (hnz : nz ≤ 200000) :
    Calls Tryz.prog 10 #[.agg #[.int .i64 W, .int .i64 H, .slice (some ⟨r, 0, none⟩) n cap], .slice Az nz capz, .int .u32 c] w fun e w' => ∃ (g cp : Nat), e = .returned (.tuple #[.agg #[.int .i64 W, .int .i64 H, .slice (some ⟨g, 0, none⟩) n cp], .int .i64 ((mixN W (clrB c xsz) n : Nat) : Int)]) ∧ Tab w w' [.gen (rowE (some ⟨g, 0, none⟩) g n cp 35 1 (ivals .u32 (mixL W (clrB c xsz) (clrG c) px)) true)] := by
 have hw1 := hok.w1
 have hw2 := hok.w2
 have hh1 := hok.h1
 have hh2 := hok.h2
 have hnum := hok.num
 have hlen := hok.len
 have hle := hok.le
 obtain ⟨hraz, hrlz⟩ := Rd.factsR (hT0.ok 1 _ rfl)
 obtain ⟨hc0, hc1⟩ := hc
 refine enter 52 [(0, .agg #[iq W, iq H, .slice (pB r) n cap]), (1, .slice Az nz capz), (2, .int .u32 c)] [.gen (rdE (pB r) r 0 n 1 (ivals .u32 px)), .gen (rdE (Az) gz oz nz 4 (rvals xsz))] Tryz.func10 rfl Tryz.ntmps10 rfl (by kernel_rfl) hT0 ?_
 refine cont_seq ?_
 refine cont_region 3 rfl ?_
 refine batch2 [0, 0, 0] 3 0 (fun b1 b2 => [(1, .slice Az nz capz), (2, .int .u32 c), (3, .pointer (pB b1)), (6, .pointer (pB b2))]) (fun b1 b2 => [.cells b2 [iq 0, iq 0, .slice none 0 0] 24 true, .cells b1 [iq W, iq H, .slice (pB r) n cap] 24 true, .gen (rdE (pB r) r 0 n 1 (ivals .u32 px)), .gen (rdE (Az) gz oz nz 4 (rvals xsz))]) rfl rfl [1, 2, 3, 6] (fun _ _ => rfl) (fun b1 b2 => by kernel_rfl) (fun b1 b2 => by kernel_rfl) (fun b1 b2 => ?_)
 refine cont_done ?_
 refine then_normal ?_
 refine cont_seq ?_
 refine cont_region 3 rfl ?_
 refine bS [0] 1 2 [(1, .slice Az nz capz), (2, .int .u32 c), (3, .pointer (pB b1)), (6, .pointer (pB b2)), (12, .int .u32 c)] ?_
 refine pl_step 2 1 rfl rfl ?_
 refine call_pure (d := 13) (.bool (mayB c)) (by kernel_rfl) (fun w hT => refMay c w (by omega) (by omega)) ?_
 refine bS [0] 3 0 [(1, .slice Az nz capz), (2, .int .u32 c), (3, .pointer (pB b1)), (6, .pointer (pB b2)), (8, .bool (mayB c))] ?_
 refine cont_done ?_
 refine then_normal ?_
 refine cont_seq ?_
 refine cont_region 1 rfl ?_
 refine bS [0] 1 0 [(1, .slice Az nz capz), (2, .int .u32 c), (3, .pointer (pB b1)), (6, .pointer (pB b2)), (8, .bool (mayB c)), (9, .slice none 0 0)] ?_
 refine cont_done ?_
 refine then_normal ?_
 refine cont_seq ?_
 refine cont_region 1 rfl ?_
 refine bS [0] 1 0 [(1, .slice Az nz capz), (2, .int .u32 c), (3, .pointer (pB b1)), (6, .pointer (pB b2)), (8, .bool (mayB c)), (9, .slice none 0 0), (10, iq 0)] ?_
 refine cont_done ?_
 refine then_normal ?_
 refine cont_seq ?_
 refine cont_seq ?_
 refine cont_region 1 rfl ?_
 refine bS [0] 1 0 [(1, .slice Az nz capz), (2, .int .u32 c), (3, .pointer (pB b1)), (6, .pointer (pB b2)), (8, .bool (mayB c)), (9, .slice none 0 0), (10, iq 0), (11, iq 0)] ?_
 refine cont_done ?_
 refine then_normal ?_
 refine cont_block ?_
 refine cont_nilrow 35 1 ?_
 refine cont_norm [(1, .slice Az nz capz), (2, .int .u32 c), (3, .pointer (pB b1)), (6, .pointer (pB b2)), (8, .bool (mayB c)), (9, .slice none 0 0), (10, iq 0), (11, iq 0)] _ (by kernel_rfl) rfl ?_
 refine cont_rowEq (k := .u32) 0 ([]) ((mixL W (clrB c xsz) (clrG c) px).take 0) rfl (by simp) ?_
 refine cont_recast 10 (iq 0) (iq ((mixN W (clrB c xsz) 0 : Nat) : Int)) rfl (congrArg (Value.int .i64) (by simp [mixN])) ?_
 refine cont_loop (α := Nat × Option Addr × Nat × Nat) (fun x_ : Nat × Option Addr × Nat × Nat => x_.1 ≤ n) (fun x_ : Nat × Option Addr × Nat × Nat => [(1, .slice Az nz capz), (2, .int .u32 c), (3, .pointer (pB b1)), (6, .pointer (pB b2)), (8, .bool (mayB c)), (9, .slice x_.2.1 x_.1 x_.2.2.2), (10, iq ((mixN W (clrB c xsz) x_.1 : Nat) : Int)), (11, iq ((x_.1 : Nat) : Int))]) (fun x_ : Nat × Option Addr × Nat × Nat => [.gen (rowE (x_.2.1) x_.2.2.1 x_.1 x_.2.2.2 35 1 (ivals .u32 ((mixL W (clrB c xsz) (clrG c) px).take x_.1)) true), .cells b2 [iq 0, iq 0, .slice none 0 0] 24 true, .cells b1 [iq W, iq H, .slice (pB r) n cap] 24 true, .gen (rdE (pB r) r 0 n 1 (ivals .u32 px)), .gen (rdE (Az) gz oz nz 4 (rvals xsz))]) (fun x_ : Nat × Option Addr × Nat × Nat => n - x_.1) (0, none, 0, 0) (show (0) ≤ n from (by omega)) (by kernel_rfl) (by kernel_rfl) ?_
 rintro ⟨i, A, g, cp⟩ hinv4_
 replace hinv4_ : i ≤ n := hinv4_
 refine cont_norm [(1, .slice Az nz capz), (2, .int .u32 c), (3, .pointer (pB b1)), (6, .pointer (pB b2)), (8, .bool (mayB c)), (9, .slice A i cp), (10, iq ((mixN W (clrB c xsz) i : Nat) : Int)), (11, iq ((i : Nat) : Int))] _ (by kernel_rfl) rfl ?_
 have hi := hinv4_
 have hem := emod_range i hw1
 have hmn := mixN_le W (clrB c xsz) i
 have hge : i < n → InC (px.getD i 0) := fun h_ => hok.get h_
 refine cont_seq ?_
 refine cont_seq ?_
 refine cont_region 5 rfl ?_
 refine bS [0, 0, 2, 0, 0] 5 0 [(1, .slice Az nz capz), (2, .int .u32 c), (3, .pointer (pB b1)), (6, .pointer (pB b2)), (8, .bool (mayB c)), (9, .slice A i cp), (10, iq ((mixN W (clrB c xsz) i : Nat) : Int)), (11, iq ((i : Nat) : Int)), (18, .bool (decide (((i : Nat) : Int) < (n : Int))))] ?_
 refine cont_done ?_
 refine then_normal ?_
 refine cont_split 18 (decide (((i : Nat) : Int) < (n : Int))) rfl (fun c5_ => ?_) (fun c5_ => ?_)
 ·
  replace c5_ := of_decide_eq_true c5_
  refine cont_true rfl ?_
  refine cont_skip ?_
  refine then_normal ?_
  refine cont_seq ?_
  refine cont_block ?_
  refine cont_seq ?_
  refine drawn_enter 13 [] rfl (by kernel_rfl) ?_
  refine takes 0 [] [(0, 0), (1, 0)] 11 [1, 0] [(1, .slice Az nz capz), (2, .int .u32 c), (3, .pointer (pB b1)), (6, .pointer (pB b2)), (8, .bool (mayB c)), (9, .slice A i cp), (10, iq ((mixN W (clrB c xsz) i : Nat) : Int)), (11, iq ((i : Nat) : Int)), (22, .bool (mayB c))] (by kernel_rfl) (pok_then (pok_blk (pok_then (pok_then (pok_blk (pok_then pok_body)))))) (by kernel_rfl) rfl rfl (by kernel_rfl) (by kernel_rfl) ?_
  refine cont_split 22 (mayB c) rfl (fun c6_ => ?_) (fun c6_ => ?_)
  ·
   refine cont_recast 8 (.bool (mayB c)) (.bool true) rfl (congrArg Value.bool c6_) ?_
   refine takes 0 [] [(2, 0), (3, 0), (4, 0), (7, 0), (8, 0), (5, 2), (9, 2)] 4 [9, 5, 8, 7, 4, 3, 2, 1, 0] [(1, .slice Az nz capz), (2, .int .u32 c), (3, .pointer (pB b1)), (6, .pointer (pB b2)), (8, .bool true), (9, .slice A i cp), (10, iq ((mixN W (clrB c xsz) i : Nat) : Int)), (11, iq ((i : Nat) : Int)), (22, .bool true), (23, .slice Az nz capz), (24, iq ((i : Nat) : Int)), (25, .pointer (pB b1)), (26, iq W), (28, iq ((i : Nat) : Int)), (29, .pointer (pB b1)), (30, iq W)] (by kernel_rfl) (pok_then (pok_blk (pok_then (pok_then (pok_blk (pok_then pok_body)))))) (by kernel_rfl) rfl rfl (by kernel_rfl) (by kernel_rfl) ?_
   refine sem_take 0 [] 6 3 27 (bopS .rem 3 (.tmp 24) (.tmp 26) (iq ((i : Nat) : Int)) (iq W)) (iq (((i : Nat) : Int).tmod W)) (by kernel_rfl) (pok_then (pok_blk (pok_then (pok_then (pok_blk (pok_then pok_body)))))) (by kernel_rfl) rfl (by kernel_rfl) (by kernel_rfl) (fun w hT => run_rem (by omega) w) ?_
   refine cont_recast 27 (iq (((i : Nat) : Int).tmod W)) (iq (((i : Nat) : Int) % W)) rfl (tmodI (by omega)) ?_
   refine sem_take 0 [] 10 2 31 (bopS .quo 3 (.tmp 28) (.tmp 30) (iq ((i : Nat) : Int)) (iq W)) (iq (IntKind.i64.wrap (((i : Nat) : Int).tdiv W))) (by kernel_rfl) (pok_then (pok_blk (pok_then (pok_then (pok_blk (pok_then pok_body)))))) (by kernel_rfl) rfl (by kernel_rfl) (by kernel_rfl) (fun w hT => run_quo (by omega) w) ?_
   refine cont_recast 31 (iq (IntKind.i64.wrap (((i : Nat) : Int).tdiv W))) (iq (((i : Nat) : Int) / W)) rfl (tdivI (by omega) (by omega) (by omega)) ?_
   refine drawn_one 11 1 rfl (by kernel_rfl) ?_
   refine call_pure (d := 32) (.bool (hasL xsz (((i : Nat) : Int) % W) (((i : Nat) : Int) / W))) (by kernel_rfl) (fun w hT => refHasL Az gz oz nz capz xsz (((i : Nat) : Int) % W) (((i : Nat) : Int) / W) w (hT.viewRo (.cons (i := 4) rfl Vw.rd .nil) rfl) (by omega)) ?_
   refine drawn_next 0 [] (by kernel_rfl) ?_
   refine takes 0 [] [(12, 0)] 0 [12, 11, 10, 6, 9, 5, 8, 7, 4, 3, 2, 1, 0] [(1, .slice Az nz capz), (2, .int .u32 c), (3, .pointer (pB b1)), (6, .pointer (pB b2)), (8, .bool true), (9, .slice A i cp), (10, iq ((mixN W (clrB c xsz) i : Nat) : Int)), (11, iq ((i : Nat) : Int)), (23, .slice Az nz capz), (24, iq ((i : Nat) : Int)), (25, .pointer (pB b1)), (26, iq W), (27, iq (((i : Nat) : Int) % W)), (28, iq ((i : Nat) : Int)), (29, .pointer (pB b1)), (30, iq W), (31, iq (((i : Nat) : Int) / W)), (32, .bool (hasL xsz (((i : Nat) : Int) % W) (((i : Nat) : Int) / W))), (33, .bool (hasL xsz (((i : Nat) : Int) % W) (((i : Nat) : Int) / W)))] (by kernel_rfl) (pok_then (pok_blk (pok_then (pok_then (pok_blk (pok_then pok_body)))))) (by kernel_rfl) rfl rfl (by kernel_rfl) (by kernel_rfl) ?_
   refine drawn_done (by kernel_rfl) ?_
   refine then_normal ?_
   refine cont_split 33 (hasL xsz (((i : Nat) : Int) % W) (((i : Nat) : Int) / W)) rfl (fun c7_ => ?_) (fun c7_ => ?_)
   ·
    refine cont_recast 32 (.bool (hasL xsz (((i : Nat) : Int) % W) (((i : Nat) : Int) / W))) (.bool true) rfl (congrArg Value.bool c7_) ?_
    have hB_ : (clrB c xsz) ((i : Int) % W) ((i : Int) / W) = true := clrB_yes c6_ c7_
    refine cont_true rfl ?_
    refine cont_seq ?_
    refine cont_region 5 rfl ?_
    refine batch1 [0, 0, 0] 3 2 (fun b8 => [(1, .slice Az nz capz), (2, .int .u32 c), (3, .pointer (pB b1)), (6, .pointer (pB b2)), (8, .bool true), (10, iq ((mixN W (clrB c xsz) i : Nat) : Int)), (11, iq ((i : Nat) : Int)), (23, .slice Az nz capz), (24, iq ((i : Nat) : Int)), (25, .pointer (pB b1)), (26, iq W), (27, iq (((i : Nat) : Int) % W)), (28, iq ((i : Nat) : Int)), (29, .pointer (pB b1)), (30, iq W), (31, iq (((i : Nat) : Int) / W)), (32, .bool true), (34, .slice A i cp), (36, .slice (pB b8) 1 1)]) (fun b8 => [.cells b8 [.int .u32 c] 35 true, .gen (rowE (A) g i cp 35 1 (ivals .u32 ((mixL W (clrB c xsz) (clrG c) px).take i)) true), .cells b2 [iq 0, iq 0, .slice none 0 0] 24 true, .cells b1 [iq W, iq H, .slice (pB r) n cap] 24 true, .gen (rdE (pB r) r 0 n 1 (ivals .u32 px)), .gen (rdE (Az) gz oz nz 4 (rvals xsz))]) rfl rfl [1, 2, 3, 6, 8, 10, 11, 23, 24, 25, 26, 27, 28, 29, 30, 31, 32, 34, 36] (fun _ => rfl) (fun b8 => by kernel_rfl) (fun b8 => by kernel_rfl) (fun b8 => ?_)
    refine pl_step 4 1 rfl rfl ?_
    refine sem_stepW (α := Option Addr × Nat × Nat) 37 (Builtin.append_ #[22, 22] 22 #[.slice A i cp, .slice (pB b8) 1 1]) (fun x_ => .slice x_.1 (i + 1) x_.2.2) (fun x_ => [.cells b8 [.int .u32 c] 35 true, .gen (rowE (x_.1) x_.2.1 (i + 1) x_.2.2 35 1 (ivals .u32 (((mixL W (clrB c xsz) (clrG c) px).take i) ++ [c])) true), .cells b2 [iq 0, iq 0, .slice none 0 0] 24 true, .cells b1 [iq W, iq H, .slice (pB r) n cap] 24 true, .gen (rdE (pB r) r 0 n 1 (ivals .u32 px)), .gen (rdE (Az) gz oz nz 4 (rvals xsz))]) (fun _ => True) (by kernel_rfl) (fun w hT => append_own (n' := (i + 1)) (z := .int .u32 0) hT (i := 1) (bytes := 4) rfl (by kernel_rfl) (by kernel_rfl) rfl (by decide) (by decide) (Rd.ofCells (vals := ivals .u32 [c]) (hT.ok 0 _ rfl) rfl rfl) (ivals_one .u32 [c]) (by omega) (ivals_append .u32 ((mixL W (clrB c xsz) (clrG c) px).take i) [c]) rfl) ?_
    rintro ⟨A9, g9, cp9⟩ -
    refine cont_norm [(1, .slice Az nz capz), (2, .int .u32 c), (3, .pointer (pB b1)), (6, .pointer (pB b2)), (8, .bool true), (10, iq ((mixN W (clrB c xsz) i : Nat) : Int)), (11, iq ((i : Nat) : Int)), (23, .slice Az nz capz), (24, iq ((i : Nat) : Int)), (25, .pointer (pB b1)), (26, iq W), (27, iq (((i : Nat) : Int) % W)), (28, iq ((i : Nat) : Int)), (29, .pointer (pB b1)), (30, iq W), (31, iq (((i : Nat) : Int) / W)), (32, .bool true), (34, .slice A i cp), (36, .slice (pB b8) 1 1), (37, .slice A9 (i + 1) cp9)] _ (by kernel_rfl) rfl ?_
    refine cont_fact (F := (0 < (i + 1) → (A9 : Option Addr) = pB g9) ∧ (((mixL W (clrB c xsz) (clrG c) px).take i) ++ [c]).length = (i + 1) ∧ (i + 1) ≤ cp9 ∧ cp9 ≤ maxLen) (fun w hT => Row.facts (hT.ok 1 _ rfl)) (fun hr10_ => ?_)
    obtain ⟨hr10_a, hr10_l, hr10_c, hr10_m⟩ := hr10_
    unfold maxLen at hr10_m
    refine bS [0] 5 0 [(1, .slice Az nz capz), (2, .int .u32 c), (3, .pointer (pB b1)), (6, .pointer (pB b2)), (8, .bool true), (9, .slice A9 (i + 1) cp9), (10, iq ((mixN W (clrB c xsz) i : Nat) : Int)), (11, iq ((i : Nat) : Int)), (23, .slice Az nz capz), (24, iq ((i : Nat) : Int)), (25, .pointer (pB b1)), (26, iq W), (27, iq (((i : Nat) : Int) % W)), (28, iq ((i : Nat) : Int)), (29, .pointer (pB b1)), (30, iq W), (31, iq (((i : Nat) : Int) / W)), (32, .bool true)] ?_
    refine cont_forget 0 rfl ?_
    refine cont_done ?_
    refine then_normal ?_
    refine cont_region 3 rfl ?_
    refine bS [0, 0] 2 1 [(1, .slice Az nz capz), (2, .int .u32 c), (3, .pointer (pB b1)), (6, .pointer (pB b2)), (8, .bool true), (9, .slice A9 (i + 1) cp9), (11, iq ((i : Nat) : Int)), (23, .slice Az nz capz), (24, iq ((i : Nat) : Int)), (25, .pointer (pB b1)), (26, iq W), (27, iq (((i : Nat) : Int) % W)), (28, iq ((i : Nat) : Int)), (29, .pointer (pB b1)), (30, iq W), (31, iq (((i : Nat) : Int) / W)), (32, .bool true), (39, iq (IntKind.i64.wrap (((mixN W (clrB c xsz) i : Nat) : Int) + 1)))] ?_
    refine cont_recast 39 (iq (IntKind.i64.wrap (((mixN W (clrB c xsz) i : Nat) : Int) + 1))) (iq (((mixN W (clrB c xsz) i : Nat) : Int) + 1)) rfl (wrapI (by omega) (by omega)) ?_
    refine bS [0] 3 0 [(1, .slice Az nz capz), (2, .int .u32 c), (3, .pointer (pB b1)), (6, .pointer (pB b2)), (8, .bool true), (9, .slice A9 (i + 1) cp9), (10, iq (((mixN W (clrB c xsz) i : Nat) : Int) + 1)), (11, iq ((i : Nat) : Int)), (23, .slice Az nz capz), (24, iq ((i : Nat) : Int)), (25, .pointer (pB b1)), (26, iq W), (27, iq (((i : Nat) : Int) % W)), (28, iq ((i : Nat) : Int)), (29, .pointer (pB b1)), (30, iq W), (31, iq (((i : Nat) : Int) / W)), (32, .bool true)] ?_
    refine cont_done ?_
    refine blk_normal ?_
    refine then_normal ?_
    refine cont_region 3 rfl ?_
    refine bS [0, 0] 2 1 [(1, .slice Az nz capz), (2, .int .u32 c), (3, .pointer (pB b1)), (6, .pointer (pB b2)), (8, .bool true), (9, .slice A9 (i + 1) cp9), (10, iq (((mixN W (clrB c xsz) i : Nat) : Int) + 1)), (20, iq (IntKind.i64.wrap (((i : Nat) : Int) + 1))), (23, .slice Az nz capz), (24, iq ((i : Nat) : Int)), (25, .pointer (pB b1)), (26, iq W), (27, iq (((i : Nat) : Int) % W)), (28, iq ((i : Nat) : Int)), (29, .pointer (pB b1)), (30, iq W), (31, iq (((i : Nat) : Int) / W)), (32, .bool true)] ?_
    refine cont_recast 20 (iq (IntKind.i64.wrap (((i : Nat) : Int) + 1))) (iq (((i : Nat) : Int) + 1)) rfl (wrapI (by omega) (by omega)) ?_
    refine bS [0] 3 0 [(1, .slice Az nz capz), (2, .int .u32 c), (3, .pointer (pB b1)), (6, .pointer (pB b2)), (8, .bool true), (9, .slice A9 (i + 1) cp9), (10, iq (((mixN W (clrB c xsz) i : Nat) : Int) + 1)), (11, iq (((i : Nat) : Int) + 1)), (23, .slice Az nz capz), (24, iq ((i : Nat) : Int)), (25, .pointer (pB b1)), (26, iq W), (27, iq (((i : Nat) : Int) % W)), (28, iq ((i : Nat) : Int)), (29, .pointer (pB b1)), (30, iq W), (31, iq (((i : Nat) : Int) / W)), (32, .bool true)] ?_
    refine cont_done ?_
    refine then_normal ?_
    refine cont_recast 8 (.bool true) (.bool (mayB c)) rfl (congrArg Value.bool c6_.symm) ?_
    refine cont_rowEq (k := .u32) 0 (((mixL W (clrB c xsz) (clrG c) px).take i) ++ [c]) ((mixL W (clrB c xsz) (clrG c) px).take (i + 1)) rfl (mixL_yes (by omega) hB_) ?_
    refine cont_recast 10 (iq (((mixN W (clrB c xsz) i : Nat) : Int) + 1)) (iq ((mixN W (clrB c xsz) (i + 1) : Nat) : Int)) rfl (congrArg (Value.int .i64) (by rw [mixN_yes hB_]; omega)) ?_
    refine cont_again (i + 1, A9, g9, cp9) (show (i + 1) ≤ n from (by omega)) (show n - (i + 1) < n - i from by omega) (by kernel_rfl) (by kernel_rfl)
   refine cont_recast 32 (.bool (hasL xsz (((i : Nat) : Int) % W) (((i : Nat) : Int) / W))) (.bool false) rfl (congrArg Value.bool c7_) ?_
   have hB_ : (clrB c xsz) ((i : Int) % W) ((i : Int) / W) = false := clrB_no (.inr c7_)
   refine cont_false rfl ?_
   refine cont_region 9 rfl ?_
   refine bS [0, 0, 2, 0] 4 5 [(1, .slice Az nz capz), (2, .int .u32 c), (3, .pointer (pB b1)), (6, .pointer (pB b2)), (8, .bool true), (10, iq ((mixN W (clrB c xsz) i : Nat) : Int)), (11, iq ((i : Nat) : Int)), (23, .slice Az nz capz), (24, iq ((i : Nat) : Int)), (25, .pointer (pB b1)), (26, iq W), (27, iq (((i : Nat) : Int) % W)), (28, iq ((i : Nat) : Int)), (29, .pointer (pB b1)), (30, iq W), (31, iq (((i : Nat) : Int) / W)), (32, .bool false), (40, .slice A i cp), (42, .slice (pB r) n cap), (43, iq ((i : Nat) : Int))] ?_
   refine pl_step 5 4 rfl rfl ?_
   refine sem_step 44 (Instr.indexAt 22 (.slice (pB r) n cap) (iq ((i : Nat) : Int))) (.pointer (some ⟨r, (i : Nat), none⟩)) (by kernel_rfl) (fun w hT => run_indexAt (e := 35) (sz := 1) _ (by kernel_rfl) (by kernel_rfl) (by omega) (by omega) (by omega) w) ?_
   refine pl_step 6 3 rfl rfl ?_
   refine sem_step 45 (Instr.loadAt 35 (.pointer (some ⟨r, (i : Nat), none⟩))) (.int .u32 (px.getD (i : Nat) 0)) (by kernel_rfl) (fun w hT => run_load1 (by kernel_rfl) (Rd.cell0 (hT.ok 3 _ rfl) ((i : Nat)) _ (ivals_get (by omega)))) ?_
   refine batch1 [0] 7 2 (fun b11 => [(1, .slice Az nz capz), (2, .int .u32 c), (3, .pointer (pB b1)), (6, .pointer (pB b2)), (8, .bool true), (10, iq ((mixN W (clrB c xsz) i : Nat) : Int)), (11, iq ((i : Nat) : Int)), (23, .slice Az nz capz), (24, iq ((i : Nat) : Int)), (25, .pointer (pB b1)), (26, iq W), (27, iq (((i : Nat) : Int) % W)), (28, iq ((i : Nat) : Int)), (29, .pointer (pB b1)), (30, iq W), (31, iq (((i : Nat) : Int) / W)), (32, .bool false), (40, .slice A i cp), (46, .slice (pB b11) 1 1)]) (fun b11 => [.cells b11 [.int .u32 (px.getD (i : Nat) 0)] 35 true, .gen (rowE (A) g i cp 35 1 (ivals .u32 ((mixL W (clrB c xsz) (clrG c) px).take i)) true), .cells b2 [iq 0, iq 0, .slice none 0 0] 24 true, .cells b1 [iq W, iq H, .slice (pB r) n cap] 24 true, .gen (rdE (pB r) r 0 n 1 (ivals .u32 px)), .gen (rdE (Az) gz oz nz 4 (rvals xsz))]) rfl rfl [1, 2, 3, 6, 8, 10, 11, 23, 24, 25, 26, 27, 28, 29, 30, 31, 32, 40, 46] (fun _ => rfl) (fun b11 => by kernel_rfl) (fun b11 => by kernel_rfl) (fun b11 => ?_)
   refine pl_step 8 1 rfl rfl ?_
   refine sem_stepW (α := Option Addr × Nat × Nat) 47 (Builtin.append_ #[22, 22] 22 #[.slice A i cp, .slice (pB b11) 1 1]) (fun x_ => .slice x_.1 (i + 1) x_.2.2) (fun x_ => [.cells b11 [.int .u32 (px.getD (i : Nat) 0)] 35 true, .gen (rowE (x_.1) x_.2.1 (i + 1) x_.2.2 35 1 (ivals .u32 (((mixL W (clrB c xsz) (clrG c) px).take i) ++ [px.getD (i : Nat) 0])) true), .cells b2 [iq 0, iq 0, .slice none 0 0] 24 true, .cells b1 [iq W, iq H, .slice (pB r) n cap] 24 true, .gen (rdE (pB r) r 0 n 1 (ivals .u32 px)), .gen (rdE (Az) gz oz nz 4 (rvals xsz))]) (fun _ => True) (by kernel_rfl) (fun w hT => append_own (n' := (i + 1)) (z := .int .u32 0) hT (i := 1) (bytes := 4) rfl (by kernel_rfl) (by kernel_rfl) rfl (by decide) (by decide) (Rd.ofCells (vals := ivals .u32 [px.getD (i : Nat) 0]) (hT.ok 0 _ rfl) rfl rfl) (ivals_one .u32 [px.getD (i : Nat) 0]) (by omega) (ivals_append .u32 ((mixL W (clrB c xsz) (clrG c) px).take i) [px.getD (i : Nat) 0]) rfl) ?_
   rintro ⟨A12, g12, cp12⟩ -
   refine cont_norm [(1, .slice Az nz capz), (2, .int .u32 c), (3, .pointer (pB b1)), (6, .pointer (pB b2)), (8, .bool true), (10, iq ((mixN W (clrB c xsz) i : Nat) : Int)), (11, iq ((i : Nat) : Int)), (23, .slice Az nz capz), (24, iq ((i : Nat) : Int)), (25, .pointer (pB b1)), (26, iq W), (27, iq (((i : Nat) : Int) % W)), (28, iq ((i : Nat) : Int)), (29, .pointer (pB b1)), (30, iq W), (31, iq (((i : Nat) : Int) / W)), (32, .bool false), (40, .slice A i cp), (46, .slice (pB b11) 1 1), (47, .slice A12 (i + 1) cp12)] _ (by kernel_rfl) rfl ?_
   refine cont_fact (F := (0 < (i + 1) → (A12 : Option Addr) = pB g12) ∧ (((mixL W (clrB c xsz) (clrG c) px).take i) ++ [px.getD (i : Nat) 0]).length = (i + 1) ∧ (i + 1) ≤ cp12 ∧ cp12 ≤ maxLen) (fun w hT => Row.facts (hT.ok 1 _ rfl)) (fun hr13_ => ?_)
   obtain ⟨hr13_a, hr13_l, hr13_c, hr13_m⟩ := hr13_
   unfold maxLen at hr13_m
   refine bS [0] 9 0 [(1, .slice Az nz capz), (2, .int .u32 c), (3, .pointer (pB b1)), (6, .pointer (pB b2)), (8, .bool true), (9, .slice A12 (i + 1) cp12), (10, iq ((mixN W (clrB c xsz) i : Nat) : Int)), (11, iq ((i : Nat) : Int)), (23, .slice Az nz capz), (24, iq ((i : Nat) : Int)), (25, .pointer (pB b1)), (26, iq W), (27, iq (((i : Nat) : Int) % W)), (28, iq ((i : Nat) : Int)), (29, .pointer (pB b1)), (30, iq W), (31, iq (((i : Nat) : Int) / W)), (32, .bool false)] ?_
   refine cont_forget 0 rfl ?_
   refine cont_done ?_
   refine blk_normal ?_
   refine then_normal ?_
   refine cont_region 3 rfl ?_
   refine bS [0, 0] 2 1 [(1, .slice Az nz capz), (2, .int .u32 c), (3, .pointer (pB b1)), (6, .pointer (pB b2)), (8, .bool true), (9, .slice A12 (i + 1) cp12), (10, iq ((mixN W (clrB c xsz) i : Nat) : Int)), (20, iq (IntKind.i64.wrap (((i : Nat) : Int) + 1))), (23, .slice Az nz capz), (24, iq ((i : Nat) : Int)), (25, .pointer (pB b1)), (26, iq W), (27, iq (((i : Nat) : Int) % W)), (28, iq ((i : Nat) : Int)), (29, .pointer (pB b1)), (30, iq W), (31, iq (((i : Nat) : Int) / W)), (32, .bool false)] ?_
   refine cont_recast 20 (iq (IntKind.i64.wrap (((i : Nat) : Int) + 1))) (iq (((i : Nat) : Int) + 1)) rfl (wrapI (by omega) (by omega)) ?_
   refine bS [0] 3 0 [(1, .slice Az nz capz), (2, .int .u32 c), (3, .pointer (pB b1)), (6, .pointer (pB b2)), (8, .bool true), (9, .slice A12 (i + 1) cp12), (10, iq ((mixN W (clrB c xsz) i : Nat) : Int)), (11, iq (((i : Nat) : Int) + 1)), (23, .slice Az nz capz), (24, iq ((i : Nat) : Int)), (25, .pointer (pB b1)), (26, iq W), (27, iq (((i : Nat) : Int) % W)), (28, iq ((i : Nat) : Int)), (29, .pointer (pB b1)), (30, iq W), (31, iq (((i : Nat) : Int) / W)), (32, .bool false)] ?_
   refine cont_done ?_
   refine then_normal ?_
   refine cont_recast 8 (.bool true) (.bool (mayB c)) rfl (congrArg Value.bool c6_.symm) ?_
   refine cont_rowEq (k := .u32) 0 (((mixL W (clrB c xsz) (clrG c) px).take i) ++ [px.getD (i : Nat) 0]) ((mixL W (clrB c xsz) (clrG c) px).take (i + 1)) rfl (mixL_no (by omega) hB_) ?_
   refine cont_recast 10 (iq ((mixN W (clrB c xsz) i : Nat) : Int)) (iq ((mixN W (clrB c xsz) (i + 1) : Nat) : Int)) rfl (congrArg (Value.int .i64) (by rw [mixN_no hB_])) ?_
   refine cont_again (i + 1, A12, g12, cp12) (show (i + 1) ≤ n from (by omega)) (show n - (i + 1) < n - i from by omega) (by kernel_rfl) (by kernel_rfl)
  refine cont_recast 8 (.bool (mayB c)) (.bool false) rfl (congrArg Value.bool c6_) ?_
  have hB_ : (clrB c xsz) ((i : Int) % W) ((i : Int) / W) = false := clrB_no (.inl c6_)
  refine takes 0 [] [(2, 0), (3, 0), (4, 0), (7, 0), (8, 0), (5, 0), (9, 0), (6, 0), (10, 0)] 2 [10, 6, 9, 5, 8, 7, 4, 3, 2, 1, 0] [(1, .slice Az nz capz), (2, .int .u32 c), (3, .pointer (pB b1)), (6, .pointer (pB b2)), (8, .bool false), (9, .slice A i cp), (10, iq ((mixN W (clrB c xsz) i : Nat) : Int)), (11, iq ((i : Nat) : Int)), (22, .bool false), (23, undef), (24, undef), (25, undef), (26, undef), (27, undef), (28, undef), (29, undef), (30, undef), (31, undef)] (by kernel_rfl) (pok_then (pok_blk (pok_then (pok_then (pok_blk (pok_then pok_body)))))) (by kernel_rfl) rfl rfl (by kernel_rfl) (by kernel_rfl) ?_
  refine drawn_one 11 1 rfl (by kernel_rfl) ?_
  refine one_step 0 [(1, .slice Az nz capz), (2, .int .u32 c), (3, .pointer (pB b1)), (6, .pointer (pB b2)), (8, .bool false), (9, .slice A i cp), (10, iq ((mixN W (clrB c xsz) i : Nat) : Int)), (11, iq ((i : Nat) : Int)), (22, .bool false), (23, undef), (24, undef), (25, undef), (26, undef), (27, undef), (28, undef), (29, undef), (30, undef), (31, undef), (32, undef)] [.gen (rowE (A) g i cp 35 1 (ivals .u32 ((mixL W (clrB c xsz) (clrG c) px).take i)) true), .cells b2 [iq 0, iq 0, .slice none 0 0] 24 true, .cells b1 [iq W, iq H, .slice (pB r) n cap] 24 true, .gen (rdE (pB r) r 0 n 1 (ivals .u32 px)), .gen (rdE (Az) gz oz nz 4 (rvals xsz))] (by kernel_rfl) (by kernel_rfl) ?_
  refine drawn_next 0 [] (by kernel_rfl) ?_
  refine takes 0 [] [(12, 0)] 0 [12, 11, 10, 6, 9, 5, 8, 7, 4, 3, 2, 1, 0] [(1, .slice Az nz capz), (2, .int .u32 c), (3, .pointer (pB b1)), (6, .pointer (pB b2)), (8, .bool false), (9, .slice A i cp), (10, iq ((mixN W (clrB c xsz) i : Nat) : Int)), (11, iq ((i : Nat) : Int)), (23, undef), (24, undef), (25, undef), (26, undef), (27, undef), (28, undef), (29, undef), (30, undef), (31, undef), (32, undef), (33, .bool false)] (by kernel_rfl) (pok_then (pok_blk (pok_then (pok_then (pok_blk (pok_then pok_body)))))) (by kernel_rfl) rfl rfl (by kernel_rfl) (by kernel_rfl) ?_
  refine drawn_done (by kernel_rfl) ?_
  refine then_normal ?_
  refine cont_false rfl ?_
  refine cont_region 9 rfl ?_
  refine bS [0, 0, 2, 0] 4 5 [(1, .slice Az nz capz), (2, .int .u32 c), (3, .pointer (pB b1)), (6, .pointer (pB b2)), (8, .bool false), (10, iq ((mixN W (clrB c xsz) i : Nat) : Int)), (11, iq ((i : Nat) : Int)), (23, undef), (24, undef), (25, undef), (26, undef), (27, undef), (28, undef), (29, undef), (30, undef), (31, undef), (32, undef), (40, .slice A i cp), (42, .slice (pB r) n cap), (43, iq ((i : Nat) : Int))] ?_
  refine pl_step 5 4 rfl rfl ?_
  refine sem_step 44 (Instr.indexAt 22 (.slice (pB r) n cap) (iq ((i : Nat) : Int))) (.pointer (some ⟨r, (i : Nat), none⟩)) (by kernel_rfl) (fun w hT => run_indexAt (e := 35) (sz := 1) _ (by kernel_rfl) (by kernel_rfl) (by omega) (by omega) (by omega) w) ?_
  refine pl_step 6 3 rfl rfl ?_
  refine sem_step 45 (Instr.loadAt 35 (.pointer (some ⟨r, (i : Nat), none⟩))) (.int .u32 (px.getD (i : Nat) 0)) (by kernel_rfl) (fun w hT => run_load1 (by kernel_rfl) (Rd.cell0 (hT.ok 3 _ rfl) ((i : Nat)) _ (ivals_get (by omega)))) ?_
  refine batch1 [0] 7 2 (fun b14 => [(1, .slice Az nz capz), (2, .int .u32 c), (3, .pointer (pB b1)), (6, .pointer (pB b2)), (8, .bool false), (10, iq ((mixN W (clrB c xsz) i : Nat) : Int)), (11, iq ((i : Nat) : Int)), (23, undef), (24, undef), (25, undef), (26, undef), (27, undef), (28, undef), (29, undef), (30, undef), (31, undef), (32, undef), (40, .slice A i cp), (46, .slice (pB b14) 1 1)]) (fun b14 => [.cells b14 [.int .u32 (px.getD (i : Nat) 0)] 35 true, .gen (rowE (A) g i cp 35 1 (ivals .u32 ((mixL W (clrB c xsz) (clrG c) px).take i)) true), .cells b2 [iq 0, iq 0, .slice none 0 0] 24 true, .cells b1 [iq W, iq H, .slice (pB r) n cap] 24 true, .gen (rdE (pB r) r 0 n 1 (ivals .u32 px)), .gen (rdE (Az) gz oz nz 4 (rvals xsz))]) rfl rfl [1, 2, 3, 6, 8, 10, 11, 23, 24, 25, 26, 27, 28, 29, 30, 31, 32, 40, 46] (fun _ => rfl) (fun b14 => by kernel_rfl) (fun b14 => by kernel_rfl) (fun b14 => ?_)
  refine pl_step 8 1 rfl rfl ?_
  refine sem_stepW (α := Option Addr × Nat × Nat) 47 (Builtin.append_ #[22, 22] 22 #[.slice A i cp, .slice (pB b14) 1 1]) (fun x_ => .slice x_.1 (i + 1) x_.2.2) (fun x_ => [.cells b14 [.int .u32 (px.getD (i : Nat) 0)] 35 true, .gen (rowE (x_.1) x_.2.1 (i + 1) x_.2.2 35 1 (ivals .u32 (((mixL W (clrB c xsz) (clrG c) px).take i) ++ [px.getD (i : Nat) 0])) true), .cells b2 [iq 0, iq 0, .slice none 0 0] 24 true, .cells b1 [iq W, iq H, .slice (pB r) n cap] 24 true, .gen (rdE (pB r) r 0 n 1 (ivals .u32 px)), .gen (rdE (Az) gz oz nz 4 (rvals xsz))]) (fun _ => True) (by kernel_rfl) (fun w hT => append_own (n' := (i + 1)) (z := .int .u32 0) hT (i := 1) (bytes := 4) rfl (by kernel_rfl) (by kernel_rfl) rfl (by decide) (by decide) (Rd.ofCells (vals := ivals .u32 [px.getD (i : Nat) 0]) (hT.ok 0 _ rfl) rfl rfl) (ivals_one .u32 [px.getD (i : Nat) 0]) (by omega) (ivals_append .u32 ((mixL W (clrB c xsz) (clrG c) px).take i) [px.getD (i : Nat) 0]) rfl) ?_
  rintro ⟨A15, g15, cp15⟩ -
  refine cont_norm [(1, .slice Az nz capz), (2, .int .u32 c), (3, .pointer (pB b1)), (6, .pointer (pB b2)), (8, .bool false), (10, iq ((mixN W (clrB c xsz) i : Nat) : Int)), (11, iq ((i : Nat) : Int)), (23, undef), (24, undef), (25, undef), (26, undef), (27, undef), (28, undef), (29, undef), (30, undef), (31, undef), (32, undef), (40, .slice A i cp), (46, .slice (pB b14) 1 1), (47, .slice A15 (i + 1) cp15)] _ (by kernel_rfl) rfl ?_
  refine cont_fact (F := (0 < (i + 1) → (A15 : Option Addr) = pB g15) ∧ (((mixL W (clrB c xsz) (clrG c) px).take i) ++ [px.getD (i : Nat) 0]).length = (i + 1) ∧ (i + 1) ≤ cp15 ∧ cp15 ≤ maxLen) (fun w hT => Row.facts (hT.ok 1 _ rfl)) (fun hr16_ => ?_)
  obtain ⟨hr16_a, hr16_l, hr16_c, hr16_m⟩ := hr16_
  unfold maxLen at hr16_m
  refine bS [0] 9 0 [(1, .slice Az nz capz), (2, .int .u32 c), (3, .pointer (pB b1)), (6, .pointer (pB b2)), (8, .bool false), (9, .slice A15 (i + 1) cp15), (10, iq ((mixN W (clrB c xsz) i : Nat) : Int)), (11, iq ((i : Nat) : Int)), (23, undef), (24, undef), (25, undef), (26, undef), (27, undef), (28, undef), (29, undef), (30, undef), (31, undef), (32, undef)] ?_
  refine cont_forget 0 rfl ?_
  refine cont_done ?_
  refine blk_normal ?_
  refine then_normal ?_
  refine cont_region 3 rfl ?_
  refine bS [0, 0] 2 1 [(1, .slice Az nz capz), (2, .int .u32 c), (3, .pointer (pB b1)), (6, .pointer (pB b2)), (8, .bool false), (9, .slice A15 (i + 1) cp15), (10, iq ((mixN W (clrB c xsz) i : Nat) : Int)), (20, iq (IntKind.i64.wrap (((i : Nat) : Int) + 1))), (23, undef), (24, undef), (25, undef), (26, undef), (27, undef), (28, undef), (29, undef), (30, undef), (31, undef), (32, undef)] ?_
  refine cont_recast 20 (iq (IntKind.i64.wrap (((i : Nat) : Int) + 1))) (iq (((i : Nat) : Int) + 1)) rfl (wrapI (by omega) (by omega)) ?_
  refine bS [0] 3 0 [(1, .slice Az nz capz), (2, .int .u32 c), (3, .pointer (pB b1)), (6, .pointer (pB b2)), (8, .bool false), (9, .slice A15 (i + 1) cp15), (10, iq ((mixN W (clrB c xsz) i : Nat) : Int)), (11, iq (((i : Nat) : Int) + 1)), (23, undef), (24, undef), (25, undef), (26, undef), (27, undef), (28, undef), (29, undef), (30, undef), (31, undef), (32, undef)] ?_
  refine cont_done ?_
  refine then_normal ?_
  refine cont_recast 8 (.bool false) (.bool (mayB c)) rfl (congrArg Value.bool c6_.symm) ?_
  refine cont_rowEq (k := .u32) 0 (((mixL W (clrB c xsz) (clrG c) px).take i) ++ [px.getD (i : Nat) 0]) ((mixL W (clrB c xsz) (clrG c) px).take (i + 1)) rfl (mixL_no (by omega) hB_) ?_
  refine cont_recast 10 (iq ((mixN W (clrB c xsz) i : Nat) : Int)) (iq ((mixN W (clrB c xsz) (i + 1) : Nat) : Int)) rfl (congrArg (Value.int .i64) (by rw [mixN_no hB_])) ?_
  refine cont_again (i + 1, A15, g15, cp15) (show (i + 1) ≤ n from (by omega)) (show n - (i + 1) < n - i from by omega) (by kernel_rfl) (by kernel_rfl)
 replace c5_ := of_decide_eq_false c5_
 refine cont_false rfl ?_
 refine cont_exit ?_
 refine then_exit ?_
 refine then_exit ?_
 refine blk_exit ?_
 refine then_normal ?_
 refine cont_seq ?_
 refine cont_region 3 rfl ?_
 refine batch0 [0, 0, 2] 3 0 [(3, .pointer (pB b1)), (6, .pointer (pB b2)), (10, iq ((mixN W (clrB c xsz) i : Nat) : Int))] [.gen (rowE (A) g i cp 35 1 (ivals .u32 ((mixL W (clrB c xsz) (clrG c) px).take i)) true), .cells b2 [iq 0, iq 0, .slice none 0 0] 24 true, .cells b1 [iq W, iq H, .slice A i cp] 24 true, .gen (rdE (pB r) r 0 n 1 (ivals .u32 px)), .gen (rdE (Az) gz oz nz 4 (rvals xsz))] rfl rfl (by kernel_rfl) (by kernel_rfl) ?_
 refine cont_done ?_
 refine then_normal ?_
 refine cont_seq ?_
 refine cont_region 4 rfl ?_
 refine batch0 [2, 0, 1, 0] 4 0 [(6, .pointer (pB b2)), (7, iq ((mixN W (clrB c xsz) i : Nat) : Int))] [.gen (rowE (A) g i cp 35 1 (ivals .u32 ((mixL W (clrB c xsz) (clrG c) px).take i)) true), .cells b2 [iq W, iq H, .slice A i cp] 24 true, .cells b1 [iq W, iq H, .slice A i cp] 24 true, .gen (rdE (pB r) r 0 n 1 (ivals .u32 px)), .gen (rdE (Az) gz oz nz 4 (rvals xsz))] rfl rfl (by kernel_rfl) (by kernel_rfl) ?_
 refine cont_forget 2 rfl ?_
 refine cont_done ?_
 refine then_normal ?_
 refine cont_ret ?_
 refine ret_two (.inl rfl) rfl 1 0 (.agg #[iq W, iq H, .slice A i cp]) (iq ((mixN W (clrB c xsz) i : Nat) : Int)) (by kernel_rfl) (by kernel_rfl) (by kernel_rfl) (by kernel_rfl) (fun w hT => ?_)
 replace hT := hT.erase 3 (fun e h hw => by cases h; first | rfl | cases hw)
 replace hT := hT.erase 2 (fun e h hw => by cases h; first | rfl | cases hw)
 replace hT := hT.erase 1 (fun e h hw => by cases h; first | rfl | cases hw)
 rw [mixL_full (by omega)] at hT
 have hin : i = n := by omega
 subst hin
 have hA := (Row.facts (hT.ok 0 _ rfl)).1 (by omega)
 subst hA
 exact ⟨_, _, rfl, hT⟩

end Go.Proofs.YtgpcgfjfmjehgaaGreat

