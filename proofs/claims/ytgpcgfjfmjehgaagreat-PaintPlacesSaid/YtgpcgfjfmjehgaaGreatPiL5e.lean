/- Contracts of functions of the given program, printed by a program of this project. -/
import Derived.Test.YtgpcgfjfmjehgaaGreatPiL5d
import Derived.Test.YtgpcgfjfmjehgaaGreatPiDy
import Derived.Test.YtgpcgfjfmjehgaaGreatProg
set_option linter.unusedVariables false
set_option linter.unusedSimpArgs false
namespace Go.Proofs.YtgpcgfjfmjehgaaGreat
open Go Go.RowKit
set_option maxRecDepth 100000
set_option maxHeartbeats 8000000

theorem payClear (m : Nat) (W H : Int) (r n cap : Nat) (px : List Int) (Az : Option Addr) (gz oz nz capz : Nat) (xsz : List Rect) (c : Int) (w : World) (hT0 : Tab w w [.ro m [.int .i64 W, .int .i64 H, .slice (some ⟨r, 0, none⟩) n cap] 91, .gen (rowE (some ⟨r, 0, none⟩) r n cap 35 1 (ivals .u32 px) false), .gen (rdE (Az) gz oz nz 4 (rvals xsz))]) (R : List Rect) (hR : R = regM andB (canR xsz) (canR [(⟨0, 0, W, H⟩ : Rect)])) (hcap : n ≤ cap) (hok : ImgOk W H n px) (hc : InC c) (hnz : nz ≤ 200000) (hcz : (canR xsz).length ≤ 200000) :
    Calls Tryz.prog 14 #[.pointer (some ⟨m, 0, none⟩), .slice Az nz capz, .int .u32 c] w fun e w' => e = .returned (.int .i64 (clrN c ((cntL W n R : Nat) : Int))) ∧ Tab w w' [.ro m [.int .i64 W, .int .i64 H, .slice (some ⟨r, 0, none⟩) n cap] 91, .gen (rowE (some ⟨r, 0, none⟩) r n cap 35 1 (ivals .u32 (mixL W (clrB c R) (clrG c) px)) false), .gen (rdE (Az) gz oz nz 4 (rvals xsz))] := by
 have hw1 := hok.w1
 have hw2 := hok.w2
 have hh1 := hok.h1
 have hh2 := hok.h2
 have hnum := hok.num
 have hlen := hok.len
 have hle := hok.le
 obtain ⟨hraz, hrlz⟩ := Rd.factsR (hT0.ok 2 _ rfl)
 have hOn : OnImg W H R := by rw [hR]; exact onImg_and _ (onImg_can (onImg_one ⟨by simp only; omega, by simp only; omega, by simp only; omega, by simp only; omega⟩))
 have hReg : IsReg R (hasL R) := by rw [hR]; exact (regM_isReg rfl _ _).self
 refine enter 27 [(0, .pointer (pB m)), (1, .slice Az nz capz), (2, .int .u32 c)] [.ro m [iq W, iq H, .slice (pB r) n cap] 91, .gen (rowE (pB r) r n cap 35 1 (ivals .u32 px) false), .gen (rdE (Az) gz oz nz 4 (rvals xsz))] Tryz.func14 rfl Tryz.ntmps14 rfl (by kernel_rfl) hT0 ?_
 refine cont_seq ?_
 refine cont_region 1 rfl ?_
 refine bS [0] 1 0 [(0, .pointer (pB m)), (1, .slice Az nz capz), (2, .int .u32 c)] ?_
 refine cont_done ?_
 refine then_normal ?_
 refine cont_seq ?_
 refine cont_region 1 rfl ?_
 refine bS [0] 1 0 [(0, .pointer (pB m)), (1, .slice Az nz capz), (2, .int .u32 c), (7, iq 0)] ?_
 refine cont_done ?_
 refine then_normal ?_
 refine cont_seq ?_
 refine cont_seq ?_
 refine cont_region 6 rfl ?_
 refine bS [0, 0] 2 4 [(0, .pointer (pB m)), (2, .int .u32 c), (7, iq 0), (10, .slice Az nz capz), (11, .pointer (pB m))] ?_
 refine pl_step 3 3 rfl rfl ?_
 refine call_pure (d := 12) (.agg #[iq 0, iq 0, iq W, iq H]) (by kernel_rfl) (fun w hT => imgBox m W H r n cap px  w ⟨hT.ok 0 _ rfl, Row.rd (hT.ok 1 _ rfl), Row.capLe (hT.ok 1 _ rfl)⟩ hok) ?_
 refine pl_step 4 2 rfl rfl ?_
 refine call_gen (d := 13) (α := Option Addr × Nat × Nat × Nat) (fun x_ => .slice x_.1 x_.2.2.1 x_.2.2.2) (fun x_ => [.gen (rowE (x_.1) x_.2.1 x_.2.2.1 x_.2.2.2 28 4 (rvals (regM andB (canR xsz) (canR [(⟨0, 0, W, H⟩ : Rect)]))) true), .ro m [iq W, iq H, .slice (pB r) n cap] 91, .gen (rowE (pB r) r n cap 35 1 (ivals .u32 px) false), .gen (rdE (Az) gz oz nz 4 (rvals xsz))]) (fun x_ => True) (by kernel_rfl) (fun w hT => (payWithin Az gz oz nz capz xsz 0 0 W H w (hT.viewRo (.cons (i := 2) rfl Vw.rd .nil) rfl) hnz hcz).mono fun e w' ⟨A1, g2, k3, cp4, he_, ht_⟩ => ⟨(A1, g2, k3, cp4), he_, trivial, hT.news ht_ rfl⟩) ?_
 rintro ⟨A1, g2, k3, cp4⟩ hf5_
 refine cont_norm [(0, .pointer (pB m)), (2, .int .u32 c), (7, iq 0), (10, .slice Az nz capz), (11, .pointer (pB m)), (12, .agg #[iq 0, iq 0, iq W, iq H]), (13, .slice A1 k3 cp4)] _ (by kernel_rfl) rfl ?_
 refine cont_fact (F := (0 < k3 → (A1 : Option Addr) = pB g2) ∧ (regM andB (canR xsz) (canR [(⟨0, 0, W, H⟩ : Rect)])).length = k3 ∧ k3 ≤ cp4 ∧ cp4 ≤ maxLen) (fun w hT => Row.factsR (hT.ok 0 _ rfl)) (fun hr6_ => ?_)
 obtain ⟨hr6_a, hr6_l, hr6_c, hr6_m⟩ := hr6_
 unfold maxLen at hr6_m
 refine bS [0, 0] 6 0 [(0, .pointer (pB m)), (2, .int .u32 c), (7, iq 0), (13, .slice A1 k3 cp4), (14, iq (k3 : Int)), (15, iq 0)] ?_
 refine cont_done ?_
 refine then_normal ?_
 refine cont_block ?_
 refine cont_rowEqR 0 (regM andB (canR xsz) (canR [(⟨0, 0, W, H⟩ : Rect)])) (R) rfl hR.symm ?_
 refine cont_fact (F := (0 < k3 → (A1 : Option Addr) = pB g2) ∧ R.length = k3 ∧ k3 ≤ cp4 ∧ cp4 ≤ maxLen) (fun w hT => Row.factsR (hT.ok 0 _ rfl)) (fun hr7_ => ?_)
 obtain ⟨hr7_a, hr7_l, hr7_c, hr7_m⟩ := hr7_
 unfold maxLen at hr7_m
 refine cont_rowEq (k := .u32) 2 (px) (mixL W (clrB c (R.take 0)) (clrG c) px) rfl (clear_none W px c) ?_
 refine cont_recast 7 (iq 0) (iq (clrN c (areaL (R.take 0)))) rfl (congrArg (Value.int .i64) (by unfold clrN; split <;> rfl)) ?_
 refine cont_loop (α := Nat) (fun x_ : Nat => x_ ≤ k3) (fun x_ : Nat => [(0, .pointer (pB m)), (2, .int .u32 c), (7, iq (clrN c (areaL (R.take x_)))), (13, .slice A1 k3 cp4), (14, iq (k3 : Int)), (15, iq ((x_ : Nat) : Int))]) (fun x_ : Nat => [.gen (rowE (A1) g2 k3 cp4 28 4 (rvals R) true), .ro m [iq W, iq H, .slice (pB r) n cap] 91, .gen (rowE (pB r) r n cap 35 1 (ivals .u32 (mixL W (clrB c (R.take x_)) (clrG c) px)) false), .gen (rdE (Az) gz oz nz 4 (rvals xsz))]) (fun x_ : Nat => k3 - x_) 0 (by omega) (by kernel_rfl) (by kernel_rfl) ?_
 rintro i hinv8_
 replace hinv8_ : i ≤ k3 := hinv8_
 refine cont_norm [(0, .pointer (pB m)), (2, .int .u32 c), (7, iq (clrN c (areaL (R.take i)))), (13, .slice A1 k3 cp4), (14, iq (k3 : Int)), (15, iq ((i : Nat) : Int))] _ (by kernel_rfl) rfl ?_
 have hi := hinv8_
 have hat := area_take hReg hOn hw1 hnum i
 have hat1 := area_take hReg hOn hw1 hnum (i + 1)
 have hq1 := clrN_range c hat
 have hq2 := clrN_range c hat1
 have hsucc : i < k3 → areaL (R.take (i + 1)) = areaL (R.take i) + areaI (rget R i).x0 (rget R i).y0 (rget R i).x1 (rget R i).y1 := fun h_ => areaL_take (by omega)
 refine cont_seq ?_
 refine cont_region 1 rfl ?_
 refine bS [0] 1 0 [(0, .pointer (pB m)), (2, .int .u32 c), (7, iq (clrN c (areaL (R.take i)))), (13, .slice A1 k3 cp4), (14, iq (k3 : Int)), (15, iq ((i : Nat) : Int)), (16, .bool (decide (((i : Nat) : Int) < (k3 : Int))))] ?_
 refine cont_done ?_
 refine then_normal ?_
 refine cont_seq ?_
 refine cont_split 16 (decide (((i : Nat) : Int) < (k3 : Int))) rfl (fun c9_ => ?_) (fun c9_ => ?_)
 ·
  replace c9_ := of_decide_eq_true c9_
  refine cont_true rfl ?_
  refine cont_skip ?_
  refine then_normal ?_
  refine cont_seq ?_
  refine cont_block ?_
  refine cont_seq ?_
  refine cont_region 4 rfl ?_
  refine pl_step 1 3 rfl rfl ?_
  refine cont_recast 13 (.slice A1 k3 cp4) (.slice (pB g2) k3 cp4) rfl (by rw [hr7_a (by omega)]) ?_
  refine sem_step 17 (Instr.indexAt 33 (.slice (pB g2) k3 cp4) (iq ((i : Nat) : Int))) (.pointer (some ⟨g2, (i : Nat) * 4, none⟩)) (by kernel_rfl) (fun w hT => run_indexAt (e := 28) (sz := 4) _ (by kernel_rfl) (by kernel_rfl) (by omega) (by omega) (by omega) w) ?_
  refine pl_step 2 2 rfl rfl ?_
  refine sem_step 18 (Instr.loadAt 28 (.pointer (some ⟨g2, (i : Nat) * 4, none⟩))) (.agg #[iq ((rget R (i : Nat)).x0), iq ((rget R (i : Nat)).y0), iq ((rget R (i : Nat)).x1), iq ((rget R (i : Nat)).y1)]) (by kernel_rfl) (fun w hT => run_loadN (m := 4) (cs := rcells (rget R (i : Nat))) (by kernel_rfl) (by kernel_rfl) rfl (Rd.rect0 (Row.rd (hT.ok 0 _ rfl)) (by omega))) ?_
  refine batch1 [0, 0] 4 0 (fun b10 => [(0, .pointer (pB m)), (2, .int .u32 c), (7, iq (clrN c (areaL (R.take i)))), (9, .pointer (pB b10)), (13, .slice (pB g2) k3 cp4), (14, iq (k3 : Int)), (15, iq ((i : Nat) : Int))]) (fun b10 => [.cells b10 [iq ((rget R (i : Nat)).x0), iq ((rget R (i : Nat)).y0), iq ((rget R (i : Nat)).x1), iq ((rget R (i : Nat)).y1)] 28 true, .gen (rowE (A1) g2 k3 cp4 28 4 (rvals R) true), .ro m [iq W, iq H, .slice (pB r) n cap] 91, .gen (rowE (pB r) r n cap 35 1 (ivals .u32 (mixL W (clrB c (R.take i)) (clrG c) px)) false), .gen (rdE (Az) gz oz nz 4 (rvals xsz))]) rfl rfl [0, 2, 7, 9, 13, 14, 15] (fun _ => rfl) (fun b10 => by kernel_rfl) (fun b10 => by kernel_rfl) (fun b10 => ?_)
  refine cont_done ?_
  refine then_normal ?_
  refine cont_region 7 rfl ?_
  refine bS [0, 0, 0, 0] 4 3 [(0, .pointer (pB m)), (2, .int .u32 c), (13, .slice (pB g2) k3 cp4), (14, iq (k3 : Int)), (15, iq ((i : Nat) : Int)), (19, iq (clrN c (areaL (R.take i)))), (20, .pointer (pB m)), (21, .agg #[iq ((rget R (i : Nat)).x0), iq ((rget R (i : Nat)).y0), iq ((rget R (i : Nat)).x1), iq ((rget R (i : Nat)).y1)]), (22, .int .u32 c)] ?_
  refine cont_forget 0 rfl ?_
  refine pl_step 5 2 rfl rfl ?_
  refine call_gen (d := 23) (α := Unit) (fun _ => iq (fillN W H ((rget R (i : Nat)).x0) ((rget R (i : Nat)).y0) ((rget R (i : Nat)).x1) ((rget R (i : Nat)).y1) c)) (fun _ => [.gen (rowE (A1) g2 k3 cp4 28 4 (rvals R) true), .ro m [iq W, iq H, .slice (pB r) n cap] 91, .gen (rowE (pB r) r n cap 35 1 (ivals .u32 (fillA W H (mixL W (clrB c (R.take i)) (clrG c) px) ((rget R (i : Nat)).x0) ((rget R (i : Nat)).y0) ((rget R (i : Nat)).x1) ((rget R (i : Nat)).y1) c)) false), .gen (rdE (Az) gz oz nz 4 (rvals xsz))]) (fun _ => True) (by kernel_rfl) (fun w hT => (imgFill m W H r n cap (mixL W (clrB c (R.take i)) (clrG c) px) ((rget R (i : Nat)).x0) ((rget R (i : Nat)).y0) ((rget R (i : Nat)).x1) ((rget R (i : Nat)).y1) c w ⟨hT.ok 1 _ rfl, hT.ok 2 _ rfl, fun hne => hT.disj 1 2 _ _ (by omega) rfl rfl (.inr rfl) _ rfl ⟨hne, by simp⟩⟩ (hok.mixL _ (fun _ _ _ _ => hc)) hc).mono fun e w' ⟨he_, hk_, hr_⟩ => ⟨(), he_, trivial, hT.keepBut hk_ (i := 2) rfl hr_⟩) (fun _ _ => ?_)
  have hsucc := hsucc (by omega)
  rw [hsucc, clrN_add] at hq2
  refine cont_recast 23 (iq (fillN W H ((rget R (i : Nat)).x0) ((rget R (i : Nat)).y0) ((rget R (i : Nat)).x1) ((rget R (i : Nat)).y1) c)) (iq (clrN c (areaI (rget R i).x0 (rget R i).y0 (rget R i).x1 (rget R i).y1))) rfl (congrArg (Value.int .i64) (clear_n hReg hOn (by omega) c)) ?_
  refine bS [0] 6 1 [(0, .pointer (pB m)), (2, .int .u32 c), (13, .slice (pB g2) k3 cp4), (14, iq (k3 : Int)), (15, iq ((i : Nat) : Int)), (24, iq (IntKind.i64.wrap ((clrN c (areaL (R.take i))) + (clrN c (areaI (rget R i).x0 (rget R i).y0 (rget R i).x1 (rget R i).y1)))))] ?_
  refine cont_recast 24 (iq (IntKind.i64.wrap ((clrN c (areaL (R.take i))) + (clrN c (areaI (rget R i).x0 (rget R i).y0 (rget R i).x1 (rget R i).y1))))) (iq ((clrN c (areaL (R.take i))) + (clrN c (areaI (rget R i).x0 (rget R i).y0 (rget R i).x1 (rget R i).y1)))) rfl (wrapI (by omega) (by omega)) ?_
  refine bS [0] 7 0 [(0, .pointer (pB m)), (2, .int .u32 c), (7, iq ((clrN c (areaL (R.take i))) + (clrN c (areaI (rget R i).x0 (rget R i).y0 (rget R i).x1 (rget R i).y1)))), (13, .slice (pB g2) k3 cp4), (14, iq (k3 : Int)), (15, iq ((i : Nat) : Int))] ?_
  refine cont_done ?_
  refine blk_normal ?_
  refine then_normal ?_
  refine cont_region 2 rfl ?_
  refine bS [0] 1 1 [(0, .pointer (pB m)), (2, .int .u32 c), (7, iq ((clrN c (areaL (R.take i))) + (clrN c (areaI (rget R i).x0 (rget R i).y0 (rget R i).x1 (rget R i).y1)))), (13, .slice (pB g2) k3 cp4), (14, iq (k3 : Int)), (25, iq (IntKind.i64.wrap (((i : Nat) : Int) + 1)))] ?_
  refine cont_recast 25 (iq (IntKind.i64.wrap (((i : Nat) : Int) + 1))) (iq (((i : Nat) : Int) + 1)) rfl (wrapI (by omega) (by omega)) ?_
  refine bS [0] 2 0 [(0, .pointer (pB m)), (2, .int .u32 c), (7, iq ((clrN c (areaL (R.take i))) + (clrN c (areaI (rget R i).x0 (rget R i).y0 (rget R i).x1 (rget R i).y1)))), (13, .slice (pB g2) k3 cp4), (14, iq (k3 : Int)), (15, iq (((i : Nat) : Int) + 1))] ?_
  refine cont_done ?_
  refine then_normal ?_
  refine cont_recast 13 (.slice (pB g2) k3 cp4) (.slice A1 k3 cp4) rfl (by rw [hr7_a (by omega)]) ?_
  refine cont_rowEq (k := .u32) 2 (fillA W H (mixL W (clrB c (R.take i)) (clrG c) px) ((rget R (i : Nat)).x0) ((rget R (i : Nat)).y0) ((rget R (i : Nat)).x1) ((rget R (i : Nat)).y1) c) (mixL W (clrB c (R.take (i + 1))) (clrG c) px) rfl (clear_step hok (by omega)) ?_
  refine cont_recast 7 (iq ((clrN c (areaL (R.take i))) + (clrN c (areaI (rget R i).x0 (rget R i).y0 (rget R i).x1 (rget R i).y1)))) (iq (clrN c (areaL (R.take (i + 1))))) rfl (congrArg (Value.int .i64) (by rw [hsucc, clrN_add])) ?_
  refine cont_again (i + 1) (show (i + 1) ≤ k3 from (by omega)) (show k3 - (i + 1) < k3 - i from by omega) (by kernel_rfl) (by kernel_rfl)
 replace c9_ := of_decide_eq_false c9_
 refine cont_false rfl ?_
 refine cont_exit ?_
 refine then_exit ?_
 refine then_exit ?_
 refine blk_exit ?_
 refine then_normal ?_
 refine cont_seq ?_
 refine cont_region 2 rfl ?_
 refine bS [0, 0] 2 0 [(6, iq (clrN c (areaL (R.take i))))] ?_
 refine cont_done ?_
 refine then_normal ?_
 refine cont_ret ?_
 refine ret_one (.inl rfl) rfl 0 (iq (clrN c (areaL (R.take i)))) (by kernel_rfl) (by kernel_rfl) (fun w hT => ?_)
 replace hT := hT.erase 0 (fun e h hw => by cases h; first | rfl | cases hw)
 have hik : i = R.length := by omega
 subst hik
 rw [List.take_length] at hT
 exact ⟨ret_int (by rw [List.take_length, clear_area hReg hOn hw1 hnum]), hT⟩

end Go.Proofs.YtgpcgfjfmjehgaaGreat

