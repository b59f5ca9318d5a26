/- Contracts of functions of the given program, printed by a program of this project. -/
import Derived.Test.YtlfahohbkgdabaaL4d
import Derived.Test.YtlfahohbkgdabaaCn
import Derived.Test.YtlfahohbkgdabaaProg
set_option linter.unusedVariables false
set_option linter.unusedSimpArgs false
namespace Go.Proofs.Ytlfahohbkgdabaa
open Go Go.RowKit
set_option maxRecDepth 100000
set_option maxHeartbeats 8000000

theorem naiveColors (m : Nat) (W H : Int) (r n cap : Nat) (px : List Int) (w : World) (hT0 : Tab w w [.ro m [.int .i64 W, .int .i64 H, .slice (some ⟨r, 0, none⟩) n cap] 118, .gen (rdE (some ⟨r, 0, none⟩) r 0 n 1 (ivals .u32 px))]) (hcap : n ≤ cap) (hok : ImgOk W H n px) :
    Calls Try.prog 19 #[.pointer (some ⟨m, 0, none⟩)] w fun e w' => ∃ (mp : Nat) (l : IL), e = .returned (.map (some mp)) ∧ CntM l px ∧ Tab w w' [.gen (mapEU mp (imsV l) true)] := by
  have hw1 := hok.w1
  have hw2 := hok.w2
  have hh1 := hok.h1
  have hh2 := hok.h2
  have hnum := hok.num
  have hlen := hok.len
  have hle := hok.le
  refine enterM 25 [(0, .pointer (some ⟨m, 0, none⟩))] [.ro m [.int .i64 W, .int .i64 H, .slice (some ⟨r, 0, none⟩) n cap] 118, .gen (rdE (some ⟨r, 0, none⟩) r 0 n 1 (ivals .u32 px))] Try.func19 rfl Try.ntmps19 rfl (by kernel_rfl) hT0 ?_
  refine cont_seq ?_
  refine cont_region 1 rfl ?_
  refine bS [0] 1 0 [(0, .pointer (some ⟨m, 0, none⟩))] ?_
  refine cont_done ?_
  refine then_normal ?_
  refine cont_seq ?_
  refine cont_region 3 rfl ?_
  refine pl_step 1 2 rfl rfl ?_
  refine sem_stepW 8 (Instr.makeMap 45 none) (fun mp1 => .map (some mp1)) (fun mp1 => [.gen (mapEU mp1 (imsV []) true), .ro m [.int .i64 W, .int .i64 H, .slice (some ⟨r, 0, none⟩) n cap] 118, .gen (rdE (some ⟨r, 0, none⟩) r 0 n 1 (ivals .u32 px))]) (fun _ => True) (by kernel_rfl) (fun w hT => run_makeMap'U hT 45) (fun mp1 _ => ?_)
  refine batch1 [0, 0] 3 0 (fun b2 => [(0, .pointer (some ⟨m, 0, none⟩)), (3, .pointer (some ⟨b2, 0, none⟩))]) (fun b2 => [.cells b2 [.map (some mp1)] 45 true, .gen (mapEU mp1 (imsV []) true), .ro m [.int .i64 W, .int .i64 H, .slice (some ⟨r, 0, none⟩) n cap] 118, .gen (rdE (some ⟨r, 0, none⟩) r 0 n 1 (ivals .u32 px))]) rfl rfl [0, 3] (fun _ => rfl) (fun b2 => by kernel_rfl) (fun b2 => by kernel_rfl) (fun b2 => ?_)
  refine cont_done ?_
  refine then_normal ?_
  refine cont_seq ?_
  refine cont_seq ?_
  refine cont_region 2 rfl ?_
  refine bS [0] 1 1 [(3, .pointer (some ⟨b2, 0, none⟩)), (9, .pointer (some ⟨m, 0, none⟩))] ?_
  refine pl_step 2 0 rfl rfl ?_
  refine call_gen (d := 10) (α := Nat) (fun x_ => .func (.func 77) #[] #[.pointer (some ⟨x_, 0, none⟩)]) (fun x_ => [.cells x_ [.pointer (some ⟨m, 0, none⟩)] 43 true, .cells b2 [.map (some mp1)] 45 true, .gen (mapEU mp1 (imsV []) true), .ro m [.int .i64 W, .int .i64 H, .slice (some ⟨r, 0, none⟩) n cap] 118, .gen (rdE (some ⟨r, 0, none⟩) r 0 n 1 (ivals .u32 px))]) (fun x_ => True) (by kernel_rfl) (fun w hT => (imgRows m w).mono fun e w' ⟨kb3, he_, ht_⟩ => ⟨kb3, he_, trivial, hT.news ht_ rfl⟩) ?_
  rintro kb3 hf4_
  refine cont_norm [(3, .pointer (some ⟨b2, 0, none⟩)), (9, .pointer (some ⟨m, 0, none⟩)), (10, .func (.func 77) #[] #[.pointer (some ⟨kb3, 0, none⟩)])] [.cells kb3 [.pointer (some ⟨m, 0, none⟩)] 43 true, .cells b2 [.map (some mp1)] 45 true, .gen (mapEU mp1 (imsV []) true), .ro m [.int .i64 W, .int .i64 H, .slice (some ⟨r, 0, none⟩) n cap] 118, .gen (rdE (some ⟨r, 0, none⟩) r 0 n 1 (ivals .u32 px))] (by kernel_rfl) rfl ?_
  refine cont_done ?_
  refine then_normal ?_
  refine cont_block ?_
  obtain ⟨Wn, hWn⟩ : ∃ k_ : Nat, (k_ : Int) = W := ⟨Int.toNat W, by omega⟩
  obtain ⟨Hn, hHn⟩ : ∃ k_ : Nat, (k_ : Int) = H := ⟨Int.toNat H, by omega⟩
  refine cont_weaken 0 (.ro kb3 [.pointer (some ⟨m, 0, none⟩)] 43) rfl rfl Vw.roc rfl ?_
  refine cont_norm [(3, .pointer (some ⟨b2, 0, none⟩)), (9, .pointer (some ⟨m, 0, none⟩)), (10, .func (.func 77) #[] #[.pointer (some ⟨kb3, 0, none⟩)])] [.ro kb3 [.pointer (some ⟨m, 0, none⟩)] 43, .cells b2 [.map (some mp1)] 45 true, .gen (mapEU mp1 (imsV []) true), .ro m [.int .i64 W, .int .i64 H, .slice (some ⟨r, 0, none⟩) n cap] 118, .gen (rdE (some ⟨r, 0, none⟩) r 0 n 1 (ivals .u32 px))] (by kernel_rfl) rfl ?_
  refine cont_pick [0, 3, 4, 1, 2] [.ro kb3 [.pointer (some ⟨m, 0, none⟩)] 43, .ro m [.int .i64 W, .int .i64 H, .slice (some ⟨r, 0, none⟩) n cap] 118, .gen (rdE (some ⟨r, 0, none⟩) r 0 n 1 (ivals .u32 px)), .cells b2 [.map (some mp1)] 45 true, .gen (mapEU mp1 (imsV []) true)] (by decide) rfl rfl ?_
  refine cont_rangeFunc (X := Int × Nat × Nat) (β := Nat × IL) (γ := Unit) (gf := 77) (lb := #[.pointer (some ⟨kb3, 0, none⟩)]) (fun z_ : Int × Nat × Nat => #[.int .i64 z_.1, .slice (some ⟨z_.2.1, 0, none⟩) Wn z_.2.2]) [.ro kb3 [.pointer (some ⟨m, 0, none⟩)] 43, .ro m [.int .i64 W, .int .i64 H, .slice (some ⟨r, 0, none⟩) n cap] 118, .gen (rdE (some ⟨r, 0, none⟩) r 0 n 1 (ivals .u32 px))] (fun z_ : Int × Nat × Nat => [.gen (rowE (some ⟨z_.2.1, 0, none⟩) z_.2.1 Wn z_.2.2 24 1 (ivals .u32 (rowL Wn px z_.1)) true)]) (fun xs_ => RowsP Hn xs_ ∧ xs_.length = Hn) (fun xs_ => RowsP Hn xs_) (fun (pre : List (Int × Nat × Nat)) (x_ : Nat × IL) => x_.1 = pre.length ∧ CntM x_.2 (px.take (x_.1 * Wn))) (fun x_ : Nat × IL => [.cells b2 [.map (some mp1)] 45 true, .gen (mapEU mp1 (imsV x_.2) true)]) (fun (_ : Code) (_ : Unit) => False) (fun x_ : Unit => []) (0, []) rfl (fun _ _ => rfl) (fun _ => rfl) (by kernel_rfl) (rowsIter kb3 m W H r n cap px Wn Hn hWn hHn hcap hok _) (⟨rfl, by rw [Nat.zero_mul, List.take_zero]; exact CntM.nil⟩) rfl ?_ ?_ ?_ ?_
  ·
    rintro l_ z5_ e5_ e5b_ e5q_ pre ⟨y, g, cx⟩ ⟨k, l⟩ B_ hinv6_ hsp_ hB_
    replace hinv6_ : k = pre.length ∧ CntM l (px.take (k * Wn)) := hinv6_
    replace hsp_ : RowsP Hn (pre ++ [(y, g, cx)]) := hsp_
    refine cont_norm [(3, .pointer (some ⟨b2, 0, none⟩)), (12, .slice (some ⟨g, 0, none⟩) Wn cx)] [.gen (rowE (some ⟨g, 0, none⟩) g Wn cx 24 1 (ivals .u32 (rowL Wn px y)) true), z5_, e5_, e5q_, .ro kb3 [.pointer (some ⟨m, 0, none⟩)] 43, .ro m [.int .i64 W, .int .i64 H, .slice (some ⟨r, 0, none⟩) n cap] 118, .gen (rdE (some ⟨r, 0, none⟩) r 0 n 1 (ivals .u32 px)), .cells b2 [.map (some mp1)] 45 true, .gen (mapEU mp1 (imsV l) true)] (by kernel_rfl) rfl ?_
    refine mcont_region 1 rfl (by kernel_rfl) ?_
    refine bS [0] 1 0 [(3, .pointer (some ⟨b2, 0, none⟩)), (5, .slice (some ⟨g, 0, none⟩) Wn cx)] ?_
    refine cont_done ?_
    refine then_normal ?_
    refine hB_ [(3, .pointer (some ⟨b2, 0, none⟩)), (5, .slice (some ⟨g, 0, none⟩) Wn cx)] [.gen (rowE (some ⟨g, 0, none⟩) g Wn cx 24 1 (ivals .u32 (rowL Wn px y)) true), z5_] [e5q_, .ro kb3 [.pointer (some ⟨m, 0, none⟩)] 43, .ro m [.int .i64 W, .int .i64 H, .slice (some ⟨r, 0, none⟩) n cap] 118, .gen (rdE (some ⟨r, 0, none⟩) r 0 n 1 (ivals .u32 px)), .cells b2 [.map (some mp1)] 45 true, .gen (mapEU mp1 (imsV l) true)] ?_
    refine cont_norm [(3, .pointer (some ⟨b2, 0, none⟩)), (5, .slice (some ⟨g, 0, none⟩) Wn cx)] [.gen (rowE (some ⟨g, 0, none⟩) g Wn cx 24 1 (ivals .u32 (rowL Wn px y)) true), z5_, e5b_, e5q_, .ro kb3 [.pointer (some ⟨m, 0, none⟩)] 43, .ro m [.int .i64 W, .int .i64 H, .slice (some ⟨r, 0, none⟩) n cap] 118, .gen (rdE (some ⟨r, 0, none⟩) r 0 n 1 (ivals .u32 px)), .cells b2 [.map (some mp1)] 45 true, .gen (mapEU mp1 (imsV l) true)] (by kernel_rfl) rfl ?_
    obtain ⟨hkp, hcm⟩ := hinv6_
    obtain ⟨hyp, hlt_⟩ := hsp_.last
    simp only at hyp
    rw [← hkp] at hyp hlt_
    have hrll := rowL_len (k := k) hWn hnum hw1 hlen (by omega)
    rw [← hyp] at hrll
    have hmx := row_max (k := k) hWn hnum hw1 (by omega)
    have hmx2 : (k + 1) * Wn = k * Wn + Wn := by rw [Nat.add_mul, Nat.one_mul]
    refine mcont_block ?_
    refine mcont_seq ?_
    refine mcont_region 3 rfl (by kernel_rfl) ?_
    refine bS [0, 0, 0] 3 0 [(3, .pointer (some ⟨b2, 0, none⟩)), (13, .slice (some ⟨g, 0, none⟩) Wn cx), (14, .int .i64 (Wn : Int)), (15, .int .i64 0)] ?_
    refine cont_done ?_
    refine then_normal ?_
    refine mcont_block ?_
    refine mcont_loop (α := Nat × IL) (fun x_ : Nat × IL => x_.1 ≤ Wn ∧ CntM x_.2 (px.take (k * Wn + x_.1))) (fun x_ : Nat × IL => [(3, .pointer (some ⟨b2, 0, none⟩)), (13, .slice (some ⟨g, 0, none⟩) Wn cx), (14, .int .i64 (Wn : Int)), (15, .int .i64 ((x_.1 : Nat) : Int))]) (fun x_ : Nat × IL => [.gen (rowE (some ⟨g, 0, none⟩) g Wn cx 24 1 (ivals .u32 (rowL Wn px y)) true), z5_, e5b_, e5q_, .ro kb3 [.pointer (some ⟨m, 0, none⟩)] 43, .ro m [.int .i64 W, .int .i64 H, .slice (some ⟨r, 0, none⟩) n cap] 118, .gen (rdE (some ⟨r, 0, none⟩) r 0 n 1 (ivals .u32 px)), .cells b2 [.map (some mp1)] 45 true, .gen (mapEU mp1 (imsV x_.2) true)]) (fun x_ : Nat × IL => Wn - x_.1) (0, l) (show (0) ≤ Wn ∧ CntM (l) (px.take (k * Wn + (0))) from ⟨by omega, hcm⟩) (by kernel_rfl) (by kernel_rfl) ?_
    rintro ⟨j, lj⟩ hinv7_
    replace hinv7_ : j ≤ Wn ∧ CntM lj (px.take (k * Wn + j)) := hinv7_
    refine cont_norm [(3, .pointer (some ⟨b2, 0, none⟩)), (13, .slice (some ⟨g, 0, none⟩) Wn cx), (14, .int .i64 (Wn : Int)), (15, .int .i64 ((j : Nat) : Int))] [.gen (rowE (some ⟨g, 0, none⟩) g Wn cx 24 1 (ivals .u32 (rowL Wn px y)) true), z5_, e5b_, e5q_, .ro kb3 [.pointer (some ⟨m, 0, none⟩)] 43, .ro m [.int .i64 W, .int .i64 H, .slice (some ⟨r, 0, none⟩) n cap] 118, .gen (rdE (some ⟨r, 0, none⟩) r 0 n 1 (ivals .u32 px)), .cells b2 [.map (some mp1)] 45 true, .gen (mapEU mp1 (imsV lj) true)] (by kernel_rfl) rfl ?_
    obtain ⟨hj, hcj⟩ := hinv7_
    have hkb := hcj.bd (n := 65536) (by rw [List.length_take]; omega)
    refine mcont_seq ?_
    refine mcont_region 1 rfl (by kernel_rfl) ?_
    refine bS [0] 1 0 [(3, .pointer (some ⟨b2, 0, none⟩)), (13, .slice (some ⟨g, 0, none⟩) Wn cx), (14, .int .i64 (Wn : Int)), (15, .int .i64 ((j : Nat) : Int)), (16, .bool (decide (((j : Nat) : Int) < (Wn : Int))))] ?_
    refine cont_done ?_
    refine then_normal ?_
    refine mcont_seq ?_
    refine cont_split 16 (decide (((j : Nat) : Int) < (Wn : Int))) rfl (fun c8_ => ?_) (fun c8_ => ?_)
    ·
      replace c8_ := of_decide_eq_true c8_
      refine mcont_true rfl ?_
      refine mcont_skip ?_
      refine then_normal ?_
      refine mcont_seq ?_
      refine mcont_block ?_
      refine mcont_seq ?_
      refine mcont_region 3 rfl (by kernel_rfl) ?_
      refine pl_step 1 2 rfl rfl ?_
      refine sem_step 17 (Instr.indexAt 39 (.slice (some ⟨g, 0, none⟩) Wn cx) (.int .i64 ((j : Nat) : Int))) (.pointer (some ⟨g, (j : Nat), none⟩)) (by kernel_rfl) (fun w hT => run_indexAt (e := 24) (sz := 1) _ (by kernel_rfl) (by kernel_rfl) (by omega) (by omega) (by omega) w) ?_
      refine pl_step 2 1 rfl rfl ?_
      refine sem_step 18 (Instr.loadAt 24 (.pointer (some ⟨g, (j : Nat), none⟩))) (.int .u32 ((rowL Wn px y).getD (j : Nat) 0)) (by kernel_rfl) (fun w hT => run_load1 (by kernel_rfl) (Row.cell (hT.ok 0 _ rfl) ((j : Nat)) _ (ivals_get (by omega)))) ?_
      refine bS [0] 3 0 [(3, .pointer (some ⟨b2, 0, none⟩)), (7, .int .u32 ((rowL Wn px y).getD (j : Nat) 0)), (13, .slice (some ⟨g, 0, none⟩) Wn cx), (14, .int .i64 (Wn : Int)), (15, .int .i64 ((j : Nat) : Int))] ?_
      refine cont_done ?_
      refine then_normal ?_
      refine mcont_region 5 rfl (by kernel_rfl) ?_
      have hkc := hkb ((rowL Wn px y).getD (j : Nat) 0)
      refine bS [7, 0] 2 3 [(3, .pointer (some ⟨b2, 0, none⟩)), (13, .slice (some ⟨g, 0, none⟩) Wn cx), (14, .int .i64 (Wn : Int)), (15, .int .i64 ((j : Nat) : Int)), (19, .map (some mp1)), (20, .int .u32 ((rowL Wn px y).getD (j : Nat) 0))] ?_
      refine pl_step 3 2 rfl rfl ?_
      refine sem_step 21 (Instr.lookup 45 (.map (some mp1)) (.int .u32 ((rowL Wn px y).getD (j : Nat) 0)) false) (.int .i64 (kindL lj ((rowL Wn px y).getD (j : Nat) 0))) (by kernel_rfl) (fun w hT => run_lookupIU (kt := 24) (et := 3) (kf := .u32) (hT.ok 8 _ rfl) (by kernel_rfl) (by kernel_rfl) (by kernel_rfl) ((rowL Wn px y).getD (j : Nat) 0)) ?_
      refine bS [0] 4 1 [(3, .pointer (some ⟨b2, 0, none⟩)), (13, .slice (some ⟨g, 0, none⟩) Wn cx), (14, .int .i64 (Wn : Int)), (15, .int .i64 ((j : Nat) : Int)), (19, .map (some mp1)), (20, .int .u32 ((rowL Wn px y).getD (j : Nat) 0)), (22, .int .i64 (IntKind.i64.wrap ((kindL lj ((rowL Wn px y).getD (j : Nat) 0)) + 1)))] ?_
      refine cont_recast 22 (.int .i64 (IntKind.i64.wrap ((kindL lj ((rowL Wn px y).getD (j : Nat) 0)) + 1))) (.int .i64 ((kindL lj ((rowL Wn px y).getD (j : Nat) 0)) + 1)) rfl (wrapI (by omega) (by omega)) ?_
      refine pl_step 5 0 rfl rfl ?_
      refine sem_stepU (Instr.mapUpdate 45 (.map (some mp1)) (.int .u32 ((rowL Wn px y).getD (j : Nat) 0)) (.int .i64 ((kindL lj ((rowL Wn px y).getD (j : Nat) 0)) + 1))) (fun _ => [.gen (rowE (some ⟨g, 0, none⟩) g Wn cx 24 1 (ivals .u32 (rowL Wn px y)) true), z5_, e5b_, e5q_, .ro kb3 [.pointer (some ⟨m, 0, none⟩)] 43, .ro m [.int .i64 W, .int .i64 H, .slice (some ⟨r, 0, none⟩) n cap] 118, .gen (rdE (some ⟨r, 0, none⟩) r 0 n 1 (ivals .u32 px)), .cells b2 [.map (some mp1)] 45 true, .gen (mapEU mp1 (imsV (iput lj ((rowL Wn px y).getD (j : Nat) 0) ((kindL lj ((rowL Wn px y).getD (j : Nat) 0)) + 1))) true)]) (fun _ => True) (by kernel_rfl) (fun w hT => run_updateIU (kt := 24) (et := 3) (kf := .u32) hT (i := 8) rfl (by kernel_rfl) (by kernel_rfl) ((rowL Wn px y).getD (j : Nat) 0) ((kindL lj ((rowL Wn px y).getD (j : Nat) 0)) + 1)) (fun _ _ => ?_)
      refine cont_done ?_
      refine blk_normal ?_
      refine then_normal ?_
      refine mcont_region 2 rfl (by kernel_rfl) ?_
      refine bS [0] 1 1 [(3, .pointer (some ⟨b2, 0, none⟩)), (13, .slice (some ⟨g, 0, none⟩) Wn cx), (14, .int .i64 (Wn : Int)), (23, .int .i64 (IntKind.i64.wrap (((j : Nat) : Int) + 1)))] ?_
      refine cont_recast 23 (.int .i64 (IntKind.i64.wrap (((j : Nat) : Int) + 1))) (.int .i64 (((j : Nat) : Int) + 1)) rfl (wrapI (by omega) (by omega)) ?_
      refine bS [0] 2 0 [(3, .pointer (some ⟨b2, 0, none⟩)), (13, .slice (some ⟨g, 0, none⟩) Wn cx), (14, .int .i64 (Wn : Int)), (15, .int .i64 (((j : Nat) : Int) + 1))] ?_
      refine cont_done ?_
      refine then_normal ?_
      refine cont_again (j + 1, iput lj ((rowL Wn px y).getD (j : Nat) 0) ((kindL lj ((rowL Wn px y).getD (j : Nat) 0)) + 1)) (show (j + 1) ≤ Wn ∧ CntM (iput lj ((rowL Wn px y).getD (j : Nat) 0) ((kindL lj ((rowL Wn px y).getD (j : Nat) 0)) + 1)) (px.take (k * Wn + (j + 1))) from ⟨by omega, hcj.next (i := k * Wn + j) (by omega) (by rw [hyp]; exact rowL_at (by omega))⟩) (show Wn - (j + 1) < Wn - j from by omega) (by kernel_rfl) (by kernel_rfl)
    replace c8_ := of_decide_eq_false c8_
    refine mcont_false rfl ?_
    refine mcont_exit ?_
    refine then_exit ?_
    refine then_exit ?_
    refine blk_exit ?_
    refine blk_normal ?_
    refine cont_pick [1, 2, 3, 4, 5, 6, 7, 8] [z5_, e5b_, e5q_, .ro kb3 [.pointer (some ⟨m, 0, none⟩)] 43, .ro m [.int .i64 W, .int .i64 H, .slice (some ⟨r, 0, none⟩) n cap] 118, .gen (rdE (some ⟨r, 0, none⟩) r 0 n 1 (ivals .u32 px)), .cells b2 [.map (some mp1)] 45 true, .gen (mapEU mp1 (imsV lj) true)] (by decide) rfl rfl ?_
    refine rq_next (k + 1, lj) (show (k + 1) = (pre ++ [(y, g, cx)]).length ∧ CntM (lj) (px.take ((k + 1) * Wn)) from ⟨by rw [List.length_append, List.length_singleton]; omega, by rw [Nat.add_mul, Nat.one_mul]; have h_ := hcj; rwa [show j = Wn by omega] at h_⟩) rfl
  ·
    rintro D10_ xs_ ⟨k, l⟩ hS_ hinv9_
    replace hinv9_ : k = xs_.length ∧ CntM l (px.take (k * Wn)) := hinv9_
    replace hS_ : RowsP Hn xs_ ∧ xs_.length = Hn := hS_
    refine cont_norm [(3, .pointer (some ⟨b2, 0, none⟩))] [markE D10_, .ro kb3 [.pointer (some ⟨m, 0, none⟩)] 43, .ro m [.int .i64 W, .int .i64 H, .slice (some ⟨r, 0, none⟩) n cap] 118, .gen (rdE (some ⟨r, 0, none⟩) r 0 n 1 (ivals .u32 px)), .cells b2 [.map (some mp1)] 45 true, .gen (mapEU mp1 (imsV l) true)] (by kernel_rfl) rfl ?_
    obtain ⟨hkp, hcm⟩ := hinv9_
    have h1k_ : k = Hn := by rw [hkp]; exact hS_.2
    have h2k_ : ((Hn * Wn : Nat) : Int) = (n : Int) := by rw [Int.natCast_mul, hWn, hHn, hnum, Int.mul_comm]
    have hkH : k * Wn = n := by rw [h1k_]; omega
    rw [hkH, List.take_of_length_le (by omega)] at hcm
    refine blk_normal ?_
    refine then_normal ?_
    refine cont_seq ?_
    refine cont_region 2 rfl ?_
    refine bS [4, 0] 2 0 [(2, .map (some mp1))] ?_
    refine cont_forget 4 rfl ?_
    refine cont_done ?_
    refine then_normal ?_
    refine cont_ret ?_
    refine mark_end 0 rfl (.inl rfl) ?_
    refine cont_norm [(2, .map (some mp1))] [objE D10_ (.deferred none), .ro kb3 [.pointer (some ⟨m, 0, none⟩)] 43, .ro m [.int .i64 W, .int .i64 H, .slice (some ⟨r, 0, none⟩) n cap] 118, .gen (rdE (some ⟨r, 0, none⟩) r 0 n 1 (ivals .u32 px)), .gen (mapEU mp1 (imsV l) true)] (by kernel_rfl) rfl ?_
    refine ret_one (.inl rfl) rfl 0 (.map (some mp1)) (by kernel_rfl) (by kernel_rfl) (fun w hT => ?_)
    replace hT := hT.erase 3 (fun e h hw => by cases h; first | rfl | cases hw)
    replace hT := hT.erase 2 (fun e h hw => by cases h; first | rfl | cases hw)
    replace hT := hT.erase 1 (fun e h hw => by cases h; first | rfl | cases hw)
    replace hT := hT.erase 0 (fun e h hw => by cases h; first | rfl | cases hw)
    exact ⟨_, _, rfl, hcm, hT⟩
  ·
    intro D_  c_ h_; exact h_.elim
  ·
    intro D_ id_ c_ h_; exact h_.elim

theorem refCount19 (W H : Int) (r n cap : Nat) (px : List Int) (c : Int) (w : World) (hT0 : Tab w w [.gen (rdE (some ⟨r, 0, none⟩) r 0 n 1 (ivals .u32 px))]) (hok : ImgOk W H n px) :
    Calls Try.prog 20 #[.agg #[.int .i64 W, .int .i64 H, .slice (some ⟨r, 0, none⟩) n cap], .int .u32 c] w fun e w' => e = .returned (.int .i64 (cntI px c)) ∧ Below w.heap.size w w' := by
 have hlen := hok.len
 have hle := hok.le
 refine enter 24 [(0, .agg #[iq W, iq H, .slice (pB r) n cap]), (1, .int .u32 c)] [.gen (rdE (pB r) r 0 n 1 (ivals .u32 px))] Try.func20 rfl Try.ntmps20 rfl (by kernel_rfl) hT0 ?_
 refine cont_seq ?_
 refine cont_region 2 rfl ?_
 refine batch1 [0, 0] 2 0 (fun b1 => [(1, .int .u32 c), (2, .pointer (pB b1))]) (fun b1 => [.cells b1 [iq W, iq H, .slice (pB r) n cap] 41 true, .gen (rdE (pB r) r 0 n 1 (ivals .u32 px))]) rfl rfl [1, 2] (fun _ => rfl) (fun b1 => by kernel_rfl) (fun b1 => by kernel_rfl) (fun b1 => ?_)
 refine cont_done ?_
 refine then_normal ?_
 refine cont_seq ?_
 refine cont_region 1 rfl ?_
 refine bS [0] 1 0 [(1, .int .u32 c), (2, .pointer (pB b1)), (5, iq 0)] ?_
 refine cont_done ?_
 refine then_normal ?_
 refine cont_seq ?_
 refine cont_seq ?_
 refine cont_region 1 rfl ?_
 refine bS [0] 1 0 [(1, .int .u32 c), (2, .pointer (pB b1)), (5, iq 0), (6, iq 0)] ?_
 refine cont_done ?_
 refine then_normal ?_
 refine cont_block ?_
 refine cont_recast 5 (iq 0) (iq (((px.take 0).count c : Nat) : Int)) rfl (congrArg (Value.int .i64) (by simp)) ?_
 refine cont_loop (α := Nat) (fun x_ : Nat => x_ ≤ n) (fun x_ : Nat => [(1, .int .u32 c), (2, .pointer (pB b1)), (5, iq (((px.take x_).count c : Nat) : Int)), (6, iq ((x_ : Nat) : Int))]) (fun x_ : Nat => [.cells b1 [iq W, iq H, .slice (pB r) n cap] 41 true, .gen (rdE (pB r) r 0 n 1 (ivals .u32 px))]) (fun x_ : Nat => n - x_) 0 (by omega) (by kernel_rfl) (by kernel_rfl) ?_
 rintro i hinv2_
 replace hinv2_ : i ≤ n := hinv2_
 refine cont_norm [(1, .int .u32 c), (2, .pointer (pB b1)), (5, iq (((px.take i).count c : Nat) : Int)), (6, iq ((i : Nat) : Int))] _ (by kernel_rfl) rfl ?_
 have hi := hinv2_
 have hct : (px.take i).count c ≤ i := Nat.le_trans List.count_le_length (by rw [List.length_take]; omega)
 refine cont_seq ?_
 refine cont_seq ?_
 refine cont_region 5 rfl ?_
 refine bS [0, 0, 0, 0, 0] 5 0 [(1, .int .u32 c), (2, .pointer (pB b1)), (5, iq (((px.take i).count c : Nat) : Int)), (6, iq ((i : Nat) : Int)), (11, .bool (decide (((i : Nat) : Int) < (n : Int))))] ?_
 refine cont_done ?_
 refine then_normal ?_
 refine cont_split 11 (decide (((i : Nat) : Int) < (n : Int))) rfl (fun c3_ => ?_) (fun c3_ => ?_)
 ·
  replace c3_ := of_decide_eq_true c3_
  refine cont_true rfl ?_
  refine cont_skip ?_
  refine then_normal ?_
  refine cont_seq ?_
  refine cont_block ?_
  refine cont_seq ?_
  refine cont_region 7 rfl ?_
  refine bS [0, 0, 0] 3 4 [(1, .int .u32 c), (2, .pointer (pB b1)), (5, iq (((px.take i).count c : Nat) : Int)), (6, iq ((i : Nat) : Int)), (15, .slice (pB r) n cap), (16, iq ((i : Nat) : Int))] ?_
  refine pl_step 4 3 rfl rfl ?_
  refine sem_step 17 (Instr.indexAt 39 (.slice (pB r) n cap) (iq ((i : Nat) : Int))) (.pointer (some ⟨r, (i : Nat), none⟩)) (by kernel_rfl) (fun w hT => run_indexAt (e := 24) (sz := 1) _ (by kernel_rfl) (by kernel_rfl) (by omega) (by omega) (by omega) w) ?_
  refine pl_step 5 2 rfl rfl ?_
  refine sem_step 18 (Instr.loadAt 24 (.pointer (some ⟨r, (i : Nat), none⟩))) (.int .u32 (px.getD (i : Nat) 0)) (by kernel_rfl) (fun w hT => run_load1 (by kernel_rfl) (Rd.cell0 (hT.ok 1 _ rfl) ((i : Nat)) _ (ivals_get (by omega)))) ?_
  refine bS [0, 0] 7 0 [(1, .int .u32 c), (2, .pointer (pB b1)), (5, iq (((px.take i).count c : Nat) : Int)), (6, iq ((i : Nat) : Int)), (20, .bool ((px.getD (i : Nat) 0) == c))] ?_
  refine cont_done ?_
  refine then_normal ?_
  refine cont_split 20 ((px.getD (i : Nat) 0) == c) rfl (fun c4_ => ?_) (fun c4_ => ?_)
  ·
   replace c4_ := eq_of_beqt c4_
   have hB_ :  px.getD i 0 = c := by simpa using c4_
   refine cont_true rfl ?_
   refine cont_region 3 rfl ?_
   refine bS [0, 0] 2 1 [(1, .int .u32 c), (2, .pointer (pB b1)), (6, iq ((i : Nat) : Int)), (22, iq (IntKind.i64.wrap ((((px.take i).count c : Nat) : Int) + 1)))] ?_
   refine cont_recast 22 (iq (IntKind.i64.wrap ((((px.take i).count c : Nat) : Int) + 1))) (iq ((((px.take i).count c : Nat) : Int) + 1)) rfl (wrapI (by omega) (by omega)) ?_
   refine bS [0] 3 0 [(1, .int .u32 c), (2, .pointer (pB b1)), (5, iq ((((px.take i).count c : Nat) : Int) + 1)), (6, iq ((i : Nat) : Int))] ?_
   refine cont_done ?_
   refine blk_normal ?_
   refine then_normal ?_
   refine cont_region 3 rfl ?_
   refine bS [0, 0] 2 1 [(1, .int .u32 c), (2, .pointer (pB b1)), (5, iq ((((px.take i).count c : Nat) : Int) + 1)), (13, iq (IntKind.i64.wrap (((i : Nat) : Int) + 1)))] ?_
   refine cont_recast 13 (iq (IntKind.i64.wrap (((i : Nat) : Int) + 1))) (iq (((i : Nat) : Int) + 1)) rfl (wrapI (by omega) (by omega)) ?_
   refine bS [0] 3 0 [(1, .int .u32 c), (2, .pointer (pB b1)), (5, iq ((((px.take i).count c : Nat) : Int) + 1)), (6, iq (((i : Nat) : Int) + 1))] ?_
   refine cont_done ?_
   refine then_normal ?_
   refine cont_recast 5 (iq ((((px.take i).count c : Nat) : Int) + 1)) (iq (((px.take (i + 1)).count c : Nat) : Int)) rfl (congrArg (Value.int .i64) (by rw [count_take (by omega), if_pos hB_]; simp)) ?_
   refine cont_again (i + 1) (show (i + 1) ≤ n from (by omega)) (show n - (i + 1) < n - i from by omega) (by kernel_rfl) (by kernel_rfl)
  replace c4_ := ne_of_beqf c4_
  have hB_ : ¬ px.getD i 0 = c := by simpa using c4_
  refine cont_false rfl ?_
  refine cont_skip ?_
  refine blk_normal ?_
  refine then_normal ?_
  refine cont_region 3 rfl ?_
  refine bS [0, 0] 2 1 [(1, .int .u32 c), (2, .pointer (pB b1)), (5, iq (((px.take i).count c : Nat) : Int)), (13, iq (IntKind.i64.wrap (((i : Nat) : Int) + 1)))] ?_
  refine cont_recast 13 (iq (IntKind.i64.wrap (((i : Nat) : Int) + 1))) (iq (((i : Nat) : Int) + 1)) rfl (wrapI (by omega) (by omega)) ?_
  refine bS [0] 3 0 [(1, .int .u32 c), (2, .pointer (pB b1)), (5, iq (((px.take i).count c : Nat) : Int)), (6, iq (((i : Nat) : Int) + 1))] ?_
  refine cont_done ?_
  refine then_normal ?_
  refine cont_recast 5 (iq (((px.take i).count c : Nat) : Int)) (iq (((px.take (i + 1)).count c : Nat) : Int)) rfl (congrArg (Value.int .i64) (by rw [count_take (by omega), if_neg hB_]; simp)) ?_
  refine cont_again (i + 1) (show (i + 1) ≤ n from (by omega)) (show n - (i + 1) < n - i from by omega) (by kernel_rfl) (by kernel_rfl)
 replace c3_ := of_decide_eq_false c3_
 refine cont_false rfl ?_
 refine cont_exit ?_
 refine then_exit ?_
 refine then_exit ?_
 refine blk_exit ?_
 refine then_normal ?_
 refine cont_seq ?_
 refine cont_region 2 rfl ?_
 refine bS [0, 0] 2 0 [(4, iq (((px.take i).count c : Nat) : Int))] ?_
 refine cont_forget 0 rfl ?_
 refine cont_done ?_
 refine then_normal ?_
 refine cont_ret ?_
 refine ret_one (.inl rfl) rfl 0 (iq (((px.take i).count c : Nat) : Int)) (by kernel_rfl) (by kernel_rfl) (fun w hT => ?_)
 exact ⟨ret_int (by rw [List.take_of_length_le (by omega)]; rfl), hT.post rfl⟩

end Go.Proofs.Ytlfahohbkgdabaa
