/- Contracts of functions of the given program, printed by a program of this project. -/
import Derived.Test.YtlfahohbkgdabaaPeG3
import Derived.Test.YtlfahohbkgdabaaProg
set_option linter.unusedVariables false
set_option linter.unusedSimpArgs false
namespace Go.Proofs.Ytlfahohbkgdabaa
open Go Go.RowKit
set_option maxRecDepth 100000
set_option maxHeartbeats 8000000

theorem refMerge (A : Option Addr) (g o n cap : Nat) (xs : List Rect) (A' : Option Addr) (g' o' n' cap' : Nat) (xs' : List Rect) (how : Int) (w : World) (hT0 : Tab w w [.gen (rdE (A) g o n 4 (rvals xs)), .gen (rdE (A') g' o' n' 4 (rvals xs'))]) (hn : n + n' ≤ 262144) :
    Calls Try.prog 64 #[.slice A n cap, .slice A' n' cap', .int .i64 how] w fun e w' => ∃ (A_ : Option Addr) (g_ k_ cp_ : Nat), e = .returned (.slice A_ k_ cp_) ∧ Tab w w' [.gen (rowE (A_) g_ k_ cp_ 53 4 (rvals (regM (docK how) xs xs')) true)] := by
 obtain ⟨hra, hrl⟩ := Rd.factsR (hT0.ok 0 _ rfl)
 obtain ⟨hra', hrl'⟩ := Rd.factsR (hT0.ok 1 _ rfl)
 refine enter 195 [(0, .slice A n cap), (1, .slice A' n' cap'), (2, iq how)] [.gen (rdE (A) g o n 4 (rvals xs)), .gen (rdE (A') g' o' n' 4 (rvals xs'))] Try.func64 rfl Try.ntmps64 rfl (by kernel_rfl) hT0 ?_
 refine cont_seq ?_
 refine cont_region 1 rfl ?_
 refine bS [0] 1 0 [(0, .slice A n cap), (1, .slice A' n' cap'), (2, iq how)] ?_
 refine cont_done ?_
 refine then_normal ?_
 refine cont_seq ?_
 refine cont_region 1 rfl ?_
 refine bS [0] 1 0 [(0, .slice A n cap), (1, .slice A' n' cap'), (2, iq how), (7, .slice none 0 0)] ?_
 refine cont_done ?_
 refine then_normal ?_
 refine cont_seq ?_
 refine cont_region 1 rfl ?_
 refine bS [0] 1 0 [(0, .slice A n cap), (1, .slice A' n' cap'), (2, iq how), (7, .slice none 0 0), (8, .slice none 0 0)] ?_
 refine cont_done ?_
 refine then_normal ?_
 refine cont_seq ?_
 refine cont_seq ?_
 refine cont_region 1 rfl ?_
 refine bS [0] 1 0 [(0, .slice A n cap), (1, .slice A' n' cap'), (2, iq how), (7, .slice none 0 0), (8, .slice none 0 0), (9, iq 0)] ?_
 refine cont_done ?_
 refine then_normal ?_
 refine cont_block ?_
 refine cont_nilrow 3 1 ?_
 refine cont_norm [(0, .slice A n cap), (1, .slice A' n' cap'), (2, iq how), (7, .slice none 0 0), (8, .slice none 0 0), (9, iq 0)] [.gen (rowE (none) 0 0 0 3 1 (ivals .i64 []) true), .gen (rdE (A) g o n 4 (rvals xs)), .gen (rdE (A') g' o' n' 4 (rvals xs'))] (by kernel_rfl) rfl ?_
 refine cont_nilrow 3 1 ?_
 refine cont_norm [(0, .slice A n cap), (1, .slice A' n' cap'), (2, iq how), (7, .slice none 0 0), (8, .slice none 0 0), (9, iq 0)] [.gen (rowE (none) 0 0 0 3 1 (ivals .i64 []) true), .gen (rowE (none) 0 0 0 3 1 (ivals .i64 []) true), .gen (rdE (A) g o n 4 (rvals xs)), .gen (rdE (A') g' o' n' 4 (rvals xs'))] (by kernel_rfl) rfl ?_
 refine cont_rowEq (k := .i64) 1 ([]) (gx (xs ++ xs') 0) rfl ((gx_zero _).symm) ?_
 refine cont_rowEq (k := .i64) 0 ([]) (gy (xs ++ xs') 0) rfl ((gy_zero _).symm) ?_
 refine cont_loop (α := Nat × Nat × Option Addr × Nat × Nat × Nat × Option Addr × Nat × Nat) (fun x_ : Nat × Nat × Option Addr × Nat × Nat × Nat × Option Addr × Nat × Nat => x_.1 ≤ n + n') (fun x_ : Nat × Nat × Option Addr × Nat × Nat × Nat × Option Addr × Nat × Nat => [(0, .slice A n cap), (1, .slice A' n' cap'), (2, iq how), (7, .slice x_.2.2.1 x_.2.1 x_.2.2.2.2.1), (8, .slice x_.2.2.2.2.2.2.1 x_.2.2.2.2.2.1 x_.2.2.2.2.2.2.2.2), (9, iq (x_.1 : Int))]) (fun x_ : Nat × Nat × Option Addr × Nat × Nat × Nat × Option Addr × Nat × Nat => [.gen (rowE (x_.2.2.2.2.2.2.1) x_.2.2.2.2.2.2.2.1 x_.2.2.2.2.2.1 x_.2.2.2.2.2.2.2.2 3 1 (ivals .i64 (gy (xs ++ xs') x_.1)) true), .gen (rowE (x_.2.2.1) x_.2.2.2.1 x_.2.1 x_.2.2.2.2.1 3 1 (ivals .i64 (gx (xs ++ xs') x_.1)) true), .gen (rdE (A) g o n 4 (rvals xs)), .gen (rdE (A') g' o' n' 4 (rvals xs'))]) (fun x_ : Nat × Nat × Option Addr × Nat × Nat × Nat × Option Addr × Nat × Nat => n + n' - x_.1) (0, 0, none, 0, 0, 0, none, 0, 0) (show (0) ≤ n + n' from (by omega)) (by kernel_rfl) (by kernel_rfl) ?_
 rintro ⟨i, kx, Ax, gx_, cx, ky, Ay, gy_, cy⟩ hinv3_
 replace hinv3_ : i ≤ n + n' := hinv3_
 refine cont_norm [(0, .slice A n cap), (1, .slice A' n' cap'), (2, iq how), (7, .slice Ax kx cx), (8, .slice Ay ky cy), (9, iq (i : Int))] [.gen (rowE (Ay) gy_ ky cy 3 1 (ivals .i64 (gy (xs ++ xs') i)) true), .gen (rowE (Ax) gx_ kx cx 3 1 (ivals .i64 (gx (xs ++ xs') i)) true), .gen (rdE (A) g o n 4 (rvals xs)), .gen (rdE (A') g' o' n' 4 (rvals xs'))] (by kernel_rfl) rfl ?_
 have hi := hinv3_
 have hrx := gx_rise (xs ++ xs') i
 have hry := gy_rise (xs ++ xs') i
 have hlx := gx_length (xs ++ xs') i
 have hly := gy_length (xs ++ xs') i
 have hab : (xs ++ xs').length = n + n' := by rw [List.length_append]; omega
 refine cont_seq ?_
 refine cont_seq ?_
 refine cont_region 7 rfl ?_
 refine bS [0, 0, 0, 0, 0, 0] 6 1 [(0, .slice A n cap), (1, .slice A' n' cap'), (2, iq how), (7, .slice Ax kx cx), (8, .slice Ay ky cy), (9, iq (i : Int)), (19, iq (i : Int)), (24, iq (IntKind.i64.wrap ((n : Int) + ((n' : Nat) : Int))))] ?_
 refine cont_recast 24 (iq (IntKind.i64.wrap ((n : Int) + ((n' : Nat) : Int)))) (iq ((n : Int) + ((n' : Nat) : Int))) rfl (wrapI (by omega) (by omega)) ?_
 refine bS [0] 7 0 [(0, .slice A n cap), (1, .slice A' n' cap'), (2, iq how), (7, .slice Ax kx cx), (8, .slice Ay ky cy), (9, iq (i : Int)), (25, .bool (decide ((i : Int) < ((n : Int) + ((n' : Nat) : Int)))))] ?_
 refine cont_done ?_
 refine then_normal ?_
 refine cont_split 25 (decide ((i : Int) < ((n : Int) + ((n' : Nat) : Int)))) rfl (fun c4_ => ?_) (fun c4_ => ?_)
 ·
  replace c4_ := of_decide_eq_true c4_
  refine cont_true rfl ?_
  refine cont_skip ?_
  refine then_normal ?_
  refine cont_seq ?_
  refine cont_block ?_
  refine cont_seq ?_
  refine cont_region 1 rfl ?_
  refine batch1 [0] 1 0 (fun b5 => [(0, .slice A n cap), (1, .slice A' n' cap'), (2, iq how), (7, .slice Ax kx cx), (8, .slice Ay ky cy), (9, iq (i : Int)), (10, .pointer (pB b5))]) (fun b5 => [.cells b5 [iq 0, iq 0, iq 0, iq 0] 53 true, .gen (rowE (Ay) gy_ ky cy 3 1 (ivals .i64 (gy (xs ++ xs') i)) true), .gen (rowE (Ax) gx_ kx cx 3 1 (ivals .i64 (gx (xs ++ xs') i)) true), .gen (rdE (A) g o n 4 (rvals xs)), .gen (rdE (A') g' o' n' 4 (rvals xs'))]) rfl rfl [0, 1, 2, 7, 8, 9, 10] (fun _ => rfl) (fun b5 => by kernel_rfl) (fun b5 => by kernel_rfl) (fun b5 => ?_)
  refine cont_done ?_
  refine then_normal ?_
  refine cont_seq ?_
  refine cont_seq ?_
  refine cont_region 4 rfl ?_
  refine bS [0, 0, 0, 0] 4 0 [(0, .slice A n cap), (1, .slice A' n' cap'), (2, iq how), (7, .slice Ax kx cx), (8, .slice Ay ky cy), (9, iq (i : Int)), (10, .pointer (pB b5)), (31, .bool (decide ((i : Int) < (n : Int))))] ?_
  refine cont_done ?_
  refine then_normal ?_
  refine cont_split 31 (decide ((i : Int) < (n : Int))) rfl (fun c6_ => ?_) (fun c6_ => ?_)
  ·
   replace c6_ := of_decide_eq_true c6_
   refine cont_true rfl ?_
   refine cont_region 5 rfl ?_
   refine bS [0, 0] 2 3 [(0, .slice A n cap), (1, .slice A' n' cap'), (2, iq how), (7, .slice Ax kx cx), (8, .slice Ay ky cy), (9, iq (i : Int)), (10, .pointer (pB b5)), (32, .slice A n cap), (33, iq (i : Int))] ?_
   refine pl_step 3 2 rfl rfl ?_
   refine cont_recast 32 (.slice A n cap) (.slice (some ⟨g, o, none⟩) n cap) rfl (by rw [hra (by omega)]) ?_
   refine sem_step 34 (Instr.indexAt 58 (.slice (some ⟨g, o, none⟩) n cap) (iq (i : Int))) (.pointer (some ⟨g, o + i * 4, none⟩)) (by kernel_rfl) (fun w hT => run_indexAt (e := 53) (sz := 4) _ (by kernel_rfl) (by kernel_rfl) (by omega) (by omega) (by omega) w) ?_
   refine pl_step 4 1 rfl rfl ?_
   refine sem_step 35 (Instr.loadAt 53 (.pointer (some ⟨g, o + i * 4, none⟩))) (.agg #[iq ((rget xs i).x0), iq ((rget xs i).y0), iq ((rget xs i).x1), iq ((rget xs i).y1)]) (by kernel_rfl) (fun w hT => run_loadN (m := 4) (cs := rcells (rget xs i)) (by kernel_rfl) (by kernel_rfl) rfl (Rd.rect (hT.ok 3 _ rfl) (by omega))) ?_
   refine batch0 [0] 5 0 [(0, .slice A n cap), (1, .slice A' n' cap'), (2, iq how), (7, .slice Ax kx cx), (8, .slice Ay ky cy), (9, iq (i : Int)), (10, .pointer (pB b5))] [.cells b5 [iq ((rget xs i).x0), iq ((rget xs i).y0), iq ((rget xs i).x1), iq ((rget xs i).y1)] 53 true, .gen (rowE (Ay) gy_ ky cy 3 1 (ivals .i64 (gy (xs ++ xs') i)) true), .gen (rowE (Ax) gx_ kx cx 3 1 (ivals .i64 (gx (xs ++ xs') i)) true), .gen (rdE (A) g o n 4 (rvals xs)), .gen (rdE (A') g' o' n' 4 (rvals xs'))] rfl rfl (by kernel_rfl) (by kernel_rfl) ?_
   refine cont_done ?_
   refine then_normal ?_
   refine cont_seq ?_
   refine cont_seq ?_
   refine cont_region 2 rfl ?_
   have hel_ : (rget xs i) = rget (xs ++ xs') i := by rw [rget_append, if_pos (by omega)]
   refine cont_norm [(0, .slice A n cap), (1, .slice A' n' cap'), (2, iq how), (7, .slice Ax kx cx), (8, .slice Ay ky cy), (9, iq (i : Int)), (10, .pointer (pB b5))] [.cells b5 [iq ((rget (xs ++ xs') i).x0), iq ((rget (xs ++ xs') i).y0), iq ((rget (xs ++ xs') i).x1), iq ((rget (xs ++ xs') i).y1)] 53 true, .gen (rowE (Ay) gy_ ky cy 3 1 (ivals .i64 (gy (xs ++ xs') i)) true), .gen (rowE (Ax) gx_ kx cx 3 1 (ivals .i64 (gx (xs ++ xs') i)) true), .gen (rdE (A) g o n 4 (rvals xs)), .gen (rdE (A') g' o' n' 4 (rvals xs'))] (by kernel_rfl) (by rw [hel_]) ?_
   refine bS [0] 1 1 [(0, .slice A n cap), (1, .slice A' n' cap'), (2, iq how), (7, .slice Ax kx cx), (8, .slice Ay ky cy), (9, iq (i : Int)), (10, .pointer (pB b5)), (43, .agg #[iq ((rget (xs ++ xs') i).x0), iq ((rget (xs ++ xs') i).y0), iq ((rget (xs ++ xs') i).x1), iq ((rget (xs ++ xs') i).y1)])] ?_
   refine pl_step 2 0 rfl rfl ?_
   refine call_pure (d := 44) (.bool (emptyB ((rget (xs ++ xs') i).x0) ((rget (xs ++ xs') i).y0) ((rget (xs ++ xs') i).x1) ((rget (xs ++ xs') i).y1))) (by kernel_rfl) (fun w hT => refEmpty ((rget (xs ++ xs') i).x0) ((rget (xs ++ xs') i).y0) ((rget (xs ++ xs') i).x1) ((rget (xs ++ xs') i).y1) w) ?_
   refine cont_done ?_
   refine then_normal ?_
   refine cont_split 44 (emptyB ((rget (xs ++ xs') i).x0) ((rget (xs ++ xs') i).y0) ((rget (xs ++ xs') i).x1) ((rget (xs ++ xs') i).y1)) rfl (fun c7_ => ?_) (fun c7_ => ?_)
   ·
    have hem_ : emptyR (rget (xs ++ xs') i) = true := c7_
    refine cont_true rfl ?_
    refine cont_exit ?_
    refine then_exit ?_
    refine blk_exit ?_
    refine then_normal ?_
    refine cont_region 3 rfl ?_
    refine bS [0, 0] 2 1 [(0, .slice A n cap), (1, .slice A' n' cap'), (2, iq how), (7, .slice Ax kx cx), (8, .slice Ay ky cy), (27, iq (IntKind.i64.wrap ((i : Int) + 1)))] ?_
    refine cont_recast 27 (iq (IntKind.i64.wrap ((i : Int) + 1))) (iq ((i : Int) + 1)) rfl (wrapI (by omega) (by omega)) ?_
    refine cont_forget 0 rfl ?_
    refine bS [0] 3 0 [(0, .slice A n cap), (1, .slice A' n' cap'), (2, iq how), (7, .slice Ax kx cx), (8, .slice Ay ky cy), (9, iq ((i : Int) + 1))] ?_
    refine cont_done ?_
    refine then_normal ?_
    refine cont_rowEq (k := .i64) 1 (gx (xs ++ xs') i) (gx (xs ++ xs') (i + 1)) rfl (gx_skip (by omega) hem_) ?_
    refine cont_rowEq (k := .i64) 0 (gy (xs ++ xs') i) (gy (xs ++ xs') (i + 1)) rfl (gy_skip (by omega) hem_) ?_
    refine cont_again (i + 1, kx, Ax, gx_, cx, ky, Ay, gy_, cy) (show (i + 1) ≤ n + n' from (by omega)) (show n + n' - (i + 1) < n + n' - i from by omega) (by kernel_rfl) (by kernel_rfl)
   have hem_ : emptyR (rget (xs ++ xs') i) = false := c7_
   refine cont_false rfl ?_
   refine cont_skip ?_
   refine then_normal ?_
   refine cont_seq ?_
   refine cont_fact (F := (0 < kx → (Ax : Option Addr) = pB gx_) ∧ (gx (xs ++ xs') i).length = kx ∧ kx ≤ cx ∧ cx ≤ maxLen) (fun w hT => Row.facts (hT.ok 2 _ rfl)) (fun hr8_ => ?_)
   obtain ⟨hr8_a, hr8_l, hr8_c, hr8_m⟩ := hr8_
   unfold maxLen at hr8_m
   refine cont_fact (F := (0 < ky → (Ay : Option Addr) = pB gy_) ∧ (gy (xs ++ xs') i).length = ky ∧ ky ≤ cy ∧ cy ≤ maxLen) (fun w hT => Row.facts (hT.ok 1 _ rfl)) (fun hr9_ => ?_)
   obtain ⟨hr9_a, hr9_l, hr9_c, hr9_m⟩ := hr9_
   unfold maxLen at hr9_m
   refine drawn_enter 8 [2] rfl (by kernel_rfl) ?_
   refine takes 0 [2] [(0, 0), (1, 0), (4, 0), (2, 0), (5, 0)] 3 [5, 2, 4, 1, 0] [(0, .slice A n cap), (1, .slice A' n' cap'), (2, iq how), (7, .slice Ax kx cx), (8, .slice Ay ky cy), (9, iq (i : Int)), (10, .pointer (pB b5)), (45, .slice Ax kx cx), (47, iq ((rget (xs ++ xs') i).x0)), (50, iq ((rget (xs ++ xs') i).x1))] (by kernel_rfl) (pok_then (pok_blk (pok_then (pok_then (pok_blk (pok_then pok_body)))))) (by kernel_rfl) rfl rfl (by kernel_rfl) (by kernel_rfl) ?_
   refine drawn_one 3 2 rfl (by kernel_rfl) ?_
   refine call_gen (d := 48) (α := Option Addr × Nat × Nat × Nat) (fun x_ => .slice x_.1 x_.2.2.1 x_.2.2.2) (fun x_ => [.cells b5 [iq ((rget (xs ++ xs') i).x0), iq ((rget (xs ++ xs') i).y0), iq ((rget (xs ++ xs') i).x1), iq ((rget (xs ++ xs') i).y1)] 53 true, .gen (rowE (Ay) gy_ ky cy 3 1 (ivals .i64 (gy (xs ++ xs') i)) true), .gen (rowE (x_.1) x_.2.1 x_.2.2.1 x_.2.2.2 3 1 (ivals .i64 (addL' (gx (xs ++ xs') i) ((rget (xs ++ xs') i).x0))) true), .gen (rdE (A) g o n 4 (rvals xs)), .gen (rdE (A') g' o' n' 4 (rvals xs'))]) (fun x_ => True) (by kernel_rfl) (fun w hT => (refAdd Ax gx_ 0 kx cx (gx (xs ++ xs') i) ((rget (xs ++ xs') i).x0) w (hT.viewRo (.cons (i := 2) rfl Vw.rowRd .nil) rfl) (by assumption) (by omega)).mono fun e w' hh_ => by
     rcases hh_ with ⟨he_, hm_, hb_⟩ | ⟨hm_, A_, g_, k_, c_, he_, ht_⟩
     · exact ⟨(Ax, gx_, kx, cx), he_, trivial, hT.moved (i := 2) rfl (.inl ⟨rfl, rfl, rfl, rfl, by rw [addL', if_pos hm_], hb_⟩)⟩
     · exact ⟨(A_, g_, k_, c_), he_, trivial, hT.moved (i := 2) rfl (.inr ht_)⟩) ?_
   rintro ⟨A10, g10, k10, cp10⟩ -
   refine cont_norm [(0, .slice A n cap), (1, .slice A' n' cap'), (2, iq how), (7, .slice Ax kx cx), (8, .slice Ay ky cy), (9, iq (i : Int)), (10, .pointer (pB b5)), (45, .slice Ax kx cx), (47, iq ((rget (xs ++ xs') i).x0)), (48, .slice A10 k10 cp10), (50, iq ((rget (xs ++ xs') i).x1))] [.cells b5 [iq ((rget (xs ++ xs') i).x0), iq ((rget (xs ++ xs') i).y0), iq ((rget (xs ++ xs') i).x1), iq ((rget (xs ++ xs') i).y1)] 53 true, .gen (rowE (Ay) gy_ ky cy 3 1 (ivals .i64 (gy (xs ++ xs') i)) true), .gen (rowE (A10) g10 k10 cp10 3 1 (ivals .i64 (addL' (gx (xs ++ xs') i) ((rget (xs ++ xs') i).x0))) true), .gen (rdE (A) g o n 4 (rvals xs)), .gen (rdE (A') g' o' n' 4 (rvals xs'))] (by kernel_rfl) rfl ?_
   refine cont_fact (F := (0 < k10 → (A10 : Option Addr) = pB g10) ∧ (addL' (gx (xs ++ xs') i) ((rget (xs ++ xs') i).x0)).length = k10 ∧ k10 ≤ cp10 ∧ cp10 ≤ maxLen) (fun w hT => Row.facts (hT.ok 2 _ rfl)) (fun hr11_ => ?_)
   obtain ⟨hr11_a, hr11_l, hr11_c, hr11_m⟩ := hr11_
   unfold maxLen at hr11_m
   have hrl10 := addL'_length (gx (xs ++ xs') i) ((rget (xs ++ xs') i).x0) (by assumption : Rise (gx (xs ++ xs') i))
   have hri10 := addL'_rise (by assumption : Rise (gx (xs ++ xs') i)) ((rget (xs ++ xs') i).x0)
   refine drawn_next 0 [2] (by kernel_rfl) ?_
   refine drawn_one 6 1 rfl (by kernel_rfl) ?_
   refine call_gen (d := 51) (α := Option Addr × Nat × Nat × Nat) (fun x_ => .slice x_.1 x_.2.2.1 x_.2.2.2) (fun x_ => [.cells b5 [iq ((rget (xs ++ xs') i).x0), iq ((rget (xs ++ xs') i).y0), iq ((rget (xs ++ xs') i).x1), iq ((rget (xs ++ xs') i).y1)] 53 true, .gen (rowE (Ay) gy_ ky cy 3 1 (ivals .i64 (gy (xs ++ xs') i)) true), .gen (rowE (x_.1) x_.2.1 x_.2.2.1 x_.2.2.2 3 1 (ivals .i64 (addL' (addL' (gx (xs ++ xs') i) ((rget (xs ++ xs') i).x0)) ((rget (xs ++ xs') i).x1))) true), .gen (rdE (A) g o n 4 (rvals xs)), .gen (rdE (A') g' o' n' 4 (rvals xs'))]) (fun x_ => True) (by kernel_rfl) (fun w hT => (refAdd A10 g10 0 k10 cp10 (addL' (gx (xs ++ xs') i) ((rget (xs ++ xs') i).x0)) ((rget (xs ++ xs') i).x1) w (hT.viewRo (.cons (i := 2) rfl Vw.rowRd .nil) rfl) (by assumption) (by omega)).mono fun e w' hh_ => by
     rcases hh_ with ⟨he_, hm_, hb_⟩ | ⟨hm_, A_, g_, k_, c_, he_, ht_⟩
     · exact ⟨(A10, g10, k10, cp10), he_, trivial, hT.moved (i := 2) rfl (.inl ⟨rfl, rfl, rfl, rfl, by rw [addL', if_pos hm_], hb_⟩)⟩
     · exact ⟨(A_, g_, k_, c_), he_, trivial, hT.moved (i := 2) rfl (.inr ht_)⟩) ?_
   rintro ⟨A12, g12, k12, cp12⟩ -
   refine cont_norm [(0, .slice A n cap), (1, .slice A' n' cap'), (2, iq how), (7, .slice Ax kx cx), (8, .slice Ay ky cy), (9, iq (i : Int)), (10, .pointer (pB b5)), (45, .slice Ax kx cx), (47, iq ((rget (xs ++ xs') i).x0)), (48, .slice A10 k10 cp10), (50, iq ((rget (xs ++ xs') i).x1)), (51, .slice A12 k12 cp12)] [.cells b5 [iq ((rget (xs ++ xs') i).x0), iq ((rget (xs ++ xs') i).y0), iq ((rget (xs ++ xs') i).x1), iq ((rget (xs ++ xs') i).y1)] 53 true, .gen (rowE (Ay) gy_ ky cy 3 1 (ivals .i64 (gy (xs ++ xs') i)) true), .gen (rowE (A12) g12 k12 cp12 3 1 (ivals .i64 (addL' (addL' (gx (xs ++ xs') i) ((rget (xs ++ xs') i).x0)) ((rget (xs ++ xs') i).x1))) true), .gen (rdE (A) g o n 4 (rvals xs)), .gen (rdE (A') g' o' n' 4 (rvals xs'))] (by kernel_rfl) rfl ?_
   refine cont_fact (F := (0 < k12 → (A12 : Option Addr) = pB g12) ∧ (addL' (addL' (gx (xs ++ xs') i) ((rget (xs ++ xs') i).x0)) ((rget (xs ++ xs') i).x1)).length = k12 ∧ k12 ≤ cp12 ∧ cp12 ≤ maxLen) (fun w hT => Row.facts (hT.ok 2 _ rfl)) (fun hr13_ => ?_)
   obtain ⟨hr13_a, hr13_l, hr13_c, hr13_m⟩ := hr13_
   unfold maxLen at hr13_m
   have hrl12 := addL'_length (addL' (gx (xs ++ xs') i) ((rget (xs ++ xs') i).x0)) ((rget (xs ++ xs') i).x1) (by assumption : Rise (addL' (gx (xs ++ xs') i) ((rget (xs ++ xs') i).x0)))
   have hri12 := addL'_rise (by assumption : Rise (addL' (gx (xs ++ xs') i) ((rget (xs ++ xs') i).x0))) ((rget (xs ++ xs') i).x1)
   refine drawn_next 0 [2] (by kernel_rfl) ?_
   refine takes 0 [2] [(7, 0)] 0 [7, 6, 3, 5, 2, 4, 1, 0] [(0, .slice A n cap), (1, .slice A' n' cap'), (2, iq how), (7, .slice A12 k12 cp12), (8, .slice Ay ky cy), (9, iq (i : Int)), (10, .pointer (pB b5))] (by kernel_rfl) (pok_then (pok_blk (pok_then (pok_then (pok_blk (pok_then pok_body)))))) (by kernel_rfl) rfl rfl (by kernel_rfl) (by kernel_rfl) ?_
   refine drawn_done (by kernel_rfl) ?_
   refine then_normal ?_
   refine drawn_enter 8 [1] rfl (by kernel_rfl) ?_
   refine takes 0 [1] [(0, 0), (1, 0), (4, 0), (2, 0), (5, 0)] 3 [5, 2, 4, 1, 0] [(0, .slice A n cap), (1, .slice A' n' cap'), (2, iq how), (7, .slice A12 k12 cp12), (8, .slice Ay ky cy), (9, iq (i : Int)), (52, .slice Ay ky cy), (54, iq ((rget (xs ++ xs') i).y0)), (57, iq ((rget (xs ++ xs') i).y1))] (by kernel_rfl) (pok_blk (pok_then (pok_then (pok_blk (pok_then pok_body))))) (by kernel_rfl) rfl rfl (by kernel_rfl) (by kernel_rfl) ?_
   refine drawn_one 3 2 rfl (by kernel_rfl) ?_
   refine call_gen (d := 55) (α := Option Addr × Nat × Nat × Nat) (fun x_ => .slice x_.1 x_.2.2.1 x_.2.2.2) (fun x_ => [.cells b5 [iq ((rget (xs ++ xs') i).x0), iq ((rget (xs ++ xs') i).y0), iq ((rget (xs ++ xs') i).x1), iq ((rget (xs ++ xs') i).y1)] 53 true, .gen (rowE (x_.1) x_.2.1 x_.2.2.1 x_.2.2.2 3 1 (ivals .i64 (addL' (gy (xs ++ xs') i) ((rget (xs ++ xs') i).y0))) true), .gen (rowE (A12) g12 k12 cp12 3 1 (ivals .i64 (addL' (addL' (gx (xs ++ xs') i) ((rget (xs ++ xs') i).x0)) ((rget (xs ++ xs') i).x1))) true), .gen (rdE (A) g o n 4 (rvals xs)), .gen (rdE (A') g' o' n' 4 (rvals xs'))]) (fun x_ => True) (by kernel_rfl) (fun w hT => (refAdd Ay gy_ 0 ky cy (gy (xs ++ xs') i) ((rget (xs ++ xs') i).y0) w (hT.viewRo (.cons (i := 1) rfl Vw.rowRd .nil) rfl) (by assumption) (by omega)).mono fun e w' hh_ => by
     rcases hh_ with ⟨he_, hm_, hb_⟩ | ⟨hm_, A_, g_, k_, c_, he_, ht_⟩
     · exact ⟨(Ay, gy_, ky, cy), he_, trivial, hT.moved (i := 1) rfl (.inl ⟨rfl, rfl, rfl, rfl, by rw [addL', if_pos hm_], hb_⟩)⟩
     · exact ⟨(A_, g_, k_, c_), he_, trivial, hT.moved (i := 1) rfl (.inr ht_)⟩) ?_
   rintro ⟨A14, g14, k14, cp14⟩ -
   refine cont_norm [(0, .slice A n cap), (1, .slice A' n' cap'), (2, iq how), (7, .slice A12 k12 cp12), (8, .slice Ay ky cy), (9, iq (i : Int)), (52, .slice Ay ky cy), (54, iq ((rget (xs ++ xs') i).y0)), (55, .slice A14 k14 cp14), (57, iq ((rget (xs ++ xs') i).y1))] [.cells b5 [iq ((rget (xs ++ xs') i).x0), iq ((rget (xs ++ xs') i).y0), iq ((rget (xs ++ xs') i).x1), iq ((rget (xs ++ xs') i).y1)] 53 true, .gen (rowE (A14) g14 k14 cp14 3 1 (ivals .i64 (addL' (gy (xs ++ xs') i) ((rget (xs ++ xs') i).y0))) true), .gen (rowE (A12) g12 k12 cp12 3 1 (ivals .i64 (addL' (addL' (gx (xs ++ xs') i) ((rget (xs ++ xs') i).x0)) ((rget (xs ++ xs') i).x1))) true), .gen (rdE (A) g o n 4 (rvals xs)), .gen (rdE (A') g' o' n' 4 (rvals xs'))] (by kernel_rfl) rfl ?_
   refine cont_fact (F := (0 < k14 → (A14 : Option Addr) = pB g14) ∧ (addL' (gy (xs ++ xs') i) ((rget (xs ++ xs') i).y0)).length = k14 ∧ k14 ≤ cp14 ∧ cp14 ≤ maxLen) (fun w hT => Row.facts (hT.ok 1 _ rfl)) (fun hr15_ => ?_)
   obtain ⟨hr15_a, hr15_l, hr15_c, hr15_m⟩ := hr15_
   unfold maxLen at hr15_m
   have hrl14 := addL'_length (gy (xs ++ xs') i) ((rget (xs ++ xs') i).y0) (by assumption : Rise (gy (xs ++ xs') i))
   have hri14 := addL'_rise (by assumption : Rise (gy (xs ++ xs') i)) ((rget (xs ++ xs') i).y0)
   refine drawn_next 0 [1] (by kernel_rfl) ?_
   refine drawn_one 6 1 rfl (by kernel_rfl) ?_
   refine call_gen (d := 58) (α := Option Addr × Nat × Nat × Nat) (fun x_ => .slice x_.1 x_.2.2.1 x_.2.2.2) (fun x_ => [.cells b5 [iq ((rget (xs ++ xs') i).x0), iq ((rget (xs ++ xs') i).y0), iq ((rget (xs ++ xs') i).x1), iq ((rget (xs ++ xs') i).y1)] 53 true, .gen (rowE (x_.1) x_.2.1 x_.2.2.1 x_.2.2.2 3 1 (ivals .i64 (addL' (addL' (gy (xs ++ xs') i) ((rget (xs ++ xs') i).y0)) ((rget (xs ++ xs') i).y1))) true), .gen (rowE (A12) g12 k12 cp12 3 1 (ivals .i64 (addL' (addL' (gx (xs ++ xs') i) ((rget (xs ++ xs') i).x0)) ((rget (xs ++ xs') i).x1))) true), .gen (rdE (A) g o n 4 (rvals xs)), .gen (rdE (A') g' o' n' 4 (rvals xs'))]) (fun x_ => True) (by kernel_rfl) (fun w hT => (refAdd A14 g14 0 k14 cp14 (addL' (gy (xs ++ xs') i) ((rget (xs ++ xs') i).y0)) ((rget (xs ++ xs') i).y1) w (hT.viewRo (.cons (i := 1) rfl Vw.rowRd .nil) rfl) (by assumption) (by omega)).mono fun e w' hh_ => by
     rcases hh_ with ⟨he_, hm_, hb_⟩ | ⟨hm_, A_, g_, k_, c_, he_, ht_⟩
     · exact ⟨(A14, g14, k14, cp14), he_, trivial, hT.moved (i := 1) rfl (.inl ⟨rfl, rfl, rfl, rfl, by rw [addL', if_pos hm_], hb_⟩)⟩
     · exact ⟨(A_, g_, k_, c_), he_, trivial, hT.moved (i := 1) rfl (.inr ht_)⟩) ?_
   rintro ⟨A16, g16, k16, cp16⟩ -
   refine cont_norm [(0, .slice A n cap), (1, .slice A' n' cap'), (2, iq how), (7, .slice A12 k12 cp12), (8, .slice Ay ky cy), (9, iq (i : Int)), (52, .slice Ay ky cy), (54, iq ((rget (xs ++ xs') i).y0)), (55, .slice A14 k14 cp14), (57, iq ((rget (xs ++ xs') i).y1)), (58, .slice A16 k16 cp16)] [.cells b5 [iq ((rget (xs ++ xs') i).x0), iq ((rget (xs ++ xs') i).y0), iq ((rget (xs ++ xs') i).x1), iq ((rget (xs ++ xs') i).y1)] 53 true, .gen (rowE (A16) g16 k16 cp16 3 1 (ivals .i64 (addL' (addL' (gy (xs ++ xs') i) ((rget (xs ++ xs') i).y0)) ((rget (xs ++ xs') i).y1))) true), .gen (rowE (A12) g12 k12 cp12 3 1 (ivals .i64 (addL' (addL' (gx (xs ++ xs') i) ((rget (xs ++ xs') i).x0)) ((rget (xs ++ xs') i).x1))) true), .gen (rdE (A) g o n 4 (rvals xs)), .gen (rdE (A') g' o' n' 4 (rvals xs'))] (by kernel_rfl) rfl ?_
   refine cont_fact (F := (0 < k16 → (A16 : Option Addr) = pB g16) ∧ (addL' (addL' (gy (xs ++ xs') i) ((rget (xs ++ xs') i).y0)) ((rget (xs ++ xs') i).y1)).length = k16 ∧ k16 ≤ cp16 ∧ cp16 ≤ maxLen) (fun w hT => Row.facts (hT.ok 1 _ rfl)) (fun hr17_ => ?_)
   obtain ⟨hr17_a, hr17_l, hr17_c, hr17_m⟩ := hr17_
   unfold maxLen at hr17_m
   have hrl16 := addL'_length (addL' (gy (xs ++ xs') i) ((rget (xs ++ xs') i).y0)) ((rget (xs ++ xs') i).y1) (by assumption : Rise (addL' (gy (xs ++ xs') i) ((rget (xs ++ xs') i).y0)))
   have hri16 := addL'_rise (by assumption : Rise (addL' (gy (xs ++ xs') i) ((rget (xs ++ xs') i).y0))) ((rget (xs ++ xs') i).y1)
   refine drawn_next 0 [1] (by kernel_rfl) ?_
   refine takes 0 [1] [(7, 0)] 0 [7, 6, 3, 5, 2, 4, 1, 0] [(0, .slice A n cap), (1, .slice A' n' cap'), (2, iq how), (7, .slice A12 k12 cp12), (8, .slice A16 k16 cp16), (9, iq (i : Int))] (by kernel_rfl) (pok_blk (pok_then (pok_then (pok_blk (pok_then pok_body))))) (by kernel_rfl) rfl rfl (by kernel_rfl) (by kernel_rfl) ?_
   refine drawn_done (by kernel_rfl) ?_
   refine blk_normal ?_
   refine then_normal ?_
   refine cont_region 3 rfl ?_
   refine bS [0, 0] 2 1 [(0, .slice A n cap), (1, .slice A' n' cap'), (2, iq how), (7, .slice A12 k12 cp12), (8, .slice A16 k16 cp16), (27, iq (IntKind.i64.wrap ((i : Int) + 1)))] ?_
   refine cont_recast 27 (iq (IntKind.i64.wrap ((i : Int) + 1))) (iq ((i : Int) + 1)) rfl (wrapI (by omega) (by omega)) ?_
   refine cont_forget 0 rfl ?_
   refine bS [0] 3 0 [(0, .slice A n cap), (1, .slice A' n' cap'), (2, iq how), (7, .slice A12 k12 cp12), (8, .slice A16 k16 cp16), (9, iq ((i : Int) + 1))] ?_
   refine cont_done ?_
   refine then_normal ?_
   refine cont_rowEq (k := .i64) 1 (addL' (addL' (gx (xs ++ xs') i) ((rget (xs ++ xs') i).x0)) ((rget (xs ++ xs') i).x1)) (gx (xs ++ xs') (i + 1)) rfl (gx_put (by omega) hem_) ?_
   refine cont_rowEq (k := .i64) 0 (addL' (addL' (gy (xs ++ xs') i) ((rget (xs ++ xs') i).y0)) ((rget (xs ++ xs') i).y1)) (gy (xs ++ xs') (i + 1)) rfl (gy_put (by omega) hem_) ?_
   refine cont_again (i + 1, k12, A12, g12, cp12, k16, A16, g16, cp16) (show (i + 1) ≤ n + n' from (by omega)) (show n + n' - (i + 1) < n + n' - i from by omega) (by kernel_rfl) (by kernel_rfl)
  replace c6_ := of_decide_eq_false c6_
  refine cont_false rfl ?_
  refine cont_region 8 rfl ?_
  refine bS [0, 0, 0, 0, 0] 5 3 [(0, .slice A n cap), (1, .slice A' n' cap'), (2, iq how), (7, .slice Ax kx cx), (8, .slice Ay ky cy), (9, iq (i : Int)), (10, .pointer (pB b5)), (36, .slice A' n' cap'), (40, iq (IntKind.i64.wrap ((i : Int) - (n : Int))))] ?_
  refine cont_recast 40 (iq (IntKind.i64.wrap ((i : Int) - (n : Int)))) (iq ((i : Int) - (n : Int))) rfl (wrapI (by omega) (by omega)) ?_
  refine pl_step 6 2 rfl rfl ?_
  refine cont_recast 36 (.slice A' n' cap') (.slice (some ⟨g', o', none⟩) n' cap') rfl (by rw [hra' (by omega)]) ?_
  refine sem_step 41 (Instr.indexAt 58 (.slice (some ⟨g', o', none⟩) n' cap') (iq ((i : Int) - (n : Int)))) (.pointer (some ⟨g', o' + (Int.toNat ((i : Int) - (n : Int))) * 4, none⟩)) (by kernel_rfl) (fun w hT => run_indexAt (e := 53) (sz := 4) _ (by kernel_rfl) (by kernel_rfl) (by omega) (by omega) (by omega) w) ?_
  refine pl_step 7 1 rfl rfl ?_
  refine sem_step 42 (Instr.loadAt 53 (.pointer (some ⟨g', o' + (Int.toNat ((i : Int) - (n : Int))) * 4, none⟩))) (.agg #[iq ((rget xs' (Int.toNat ((i : Int) - (n : Int)))).x0), iq ((rget xs' (Int.toNat ((i : Int) - (n : Int)))).y0), iq ((rget xs' (Int.toNat ((i : Int) - (n : Int)))).x1), iq ((rget xs' (Int.toNat ((i : Int) - (n : Int)))).y1)]) (by kernel_rfl) (fun w hT => run_loadN (m := 4) (cs := rcells (rget xs' (Int.toNat ((i : Int) - (n : Int))))) (by kernel_rfl) (by kernel_rfl) rfl (Rd.rect (hT.ok 4 _ rfl) (by omega))) ?_
  refine batch0 [0] 8 0 [(0, .slice A n cap), (1, .slice A' n' cap'), (2, iq how), (7, .slice Ax kx cx), (8, .slice Ay ky cy), (9, iq (i : Int)), (10, .pointer (pB b5))] [.cells b5 [iq ((rget xs' (Int.toNat ((i : Int) - (n : Int)))).x0), iq ((rget xs' (Int.toNat ((i : Int) - (n : Int)))).y0), iq ((rget xs' (Int.toNat ((i : Int) - (n : Int)))).x1), iq ((rget xs' (Int.toNat ((i : Int) - (n : Int)))).y1)] 53 true, .gen (rowE (Ay) gy_ ky cy 3 1 (ivals .i64 (gy (xs ++ xs') i)) true), .gen (rowE (Ax) gx_ kx cx 3 1 (ivals .i64 (gx (xs ++ xs') i)) true), .gen (rdE (A) g o n 4 (rvals xs)), .gen (rdE (A') g' o' n' 4 (rvals xs'))] rfl rfl (by kernel_rfl) (by kernel_rfl) ?_
  refine cont_done ?_
  refine then_normal ?_
  refine cont_seq ?_
  refine cont_seq ?_
  refine cont_region 2 rfl ?_
  have hel_ : (rget xs' (Int.toNat ((i : Int) - (n : Int)))) = rget (xs ++ xs') i := by rw [rget_append, if_neg (by omega)]; congr 1; omega
  refine cont_norm [(0, .slice A n cap), (1, .slice A' n' cap'), (2, iq how), (7, .slice Ax kx cx), (8, .slice Ay ky cy), (9, iq (i : Int)), (10, .pointer (pB b5))] [.cells b5 [iq ((rget (xs ++ xs') i).x0), iq ((rget (xs ++ xs') i).y0), iq ((rget (xs ++ xs') i).x1), iq ((rget (xs ++ xs') i).y1)] 53 true, .gen (rowE (Ay) gy_ ky cy 3 1 (ivals .i64 (gy (xs ++ xs') i)) true), .gen (rowE (Ax) gx_ kx cx 3 1 (ivals .i64 (gx (xs ++ xs') i)) true), .gen (rdE (A) g o n 4 (rvals xs)), .gen (rdE (A') g' o' n' 4 (rvals xs'))] (by kernel_rfl) (by rw [hel_]) ?_
  refine bS [0] 1 1 [(0, .slice A n cap), (1, .slice A' n' cap'), (2, iq how), (7, .slice Ax kx cx), (8, .slice Ay ky cy), (9, iq (i : Int)), (10, .pointer (pB b5)), (43, .agg #[iq ((rget (xs ++ xs') i).x0), iq ((rget (xs ++ xs') i).y0), iq ((rget (xs ++ xs') i).x1), iq ((rget (xs ++ xs') i).y1)])] ?_
  refine pl_step 2 0 rfl rfl ?_
  refine call_pure (d := 44) (.bool (emptyB ((rget (xs ++ xs') i).x0) ((rget (xs ++ xs') i).y0) ((rget (xs ++ xs') i).x1) ((rget (xs ++ xs') i).y1))) (by kernel_rfl) (fun w hT => refEmpty ((rget (xs ++ xs') i).x0) ((rget (xs ++ xs') i).y0) ((rget (xs ++ xs') i).x1) ((rget (xs ++ xs') i).y1) w) ?_
  refine cont_done ?_
  refine then_normal ?_
  refine cont_split 44 (emptyB ((rget (xs ++ xs') i).x0) ((rget (xs ++ xs') i).y0) ((rget (xs ++ xs') i).x1) ((rget (xs ++ xs') i).y1)) rfl (fun c18_ => ?_) (fun c18_ => ?_)
  ·
   have hem_ : emptyR (rget (xs ++ xs') i) = true := c18_
   refine cont_true rfl ?_
   refine cont_exit ?_
   refine then_exit ?_
   refine blk_exit ?_
   refine then_normal ?_
   refine cont_region 3 rfl ?_
   refine bS [0, 0] 2 1 [(0, .slice A n cap), (1, .slice A' n' cap'), (2, iq how), (7, .slice Ax kx cx), (8, .slice Ay ky cy), (27, iq (IntKind.i64.wrap ((i : Int) + 1)))] ?_
   refine cont_recast 27 (iq (IntKind.i64.wrap ((i : Int) + 1))) (iq ((i : Int) + 1)) rfl (wrapI (by omega) (by omega)) ?_
   refine cont_forget 0 rfl ?_
   refine bS [0] 3 0 [(0, .slice A n cap), (1, .slice A' n' cap'), (2, iq how), (7, .slice Ax kx cx), (8, .slice Ay ky cy), (9, iq ((i : Int) + 1))] ?_
   refine cont_done ?_
   refine then_normal ?_
   refine cont_rowEq (k := .i64) 1 (gx (xs ++ xs') i) (gx (xs ++ xs') (i + 1)) rfl (gx_skip (by omega) hem_) ?_
   refine cont_rowEq (k := .i64) 0 (gy (xs ++ xs') i) (gy (xs ++ xs') (i + 1)) rfl (gy_skip (by omega) hem_) ?_
   refine cont_again (i + 1, kx, Ax, gx_, cx, ky, Ay, gy_, cy) (show (i + 1) ≤ n + n' from (by omega)) (show n + n' - (i + 1) < n + n' - i from by omega) (by kernel_rfl) (by kernel_rfl)
  have hem_ : emptyR (rget (xs ++ xs') i) = false := c18_
  refine cont_false rfl ?_
  refine cont_skip ?_
  refine then_normal ?_
  refine cont_seq ?_
  refine cont_fact (F := (0 < kx → (Ax : Option Addr) = pB gx_) ∧ (gx (xs ++ xs') i).length = kx ∧ kx ≤ cx ∧ cx ≤ maxLen) (fun w hT => Row.facts (hT.ok 2 _ rfl)) (fun hr19_ => ?_)
  obtain ⟨hr19_a, hr19_l, hr19_c, hr19_m⟩ := hr19_
  unfold maxLen at hr19_m
  refine cont_fact (F := (0 < ky → (Ay : Option Addr) = pB gy_) ∧ (gy (xs ++ xs') i).length = ky ∧ ky ≤ cy ∧ cy ≤ maxLen) (fun w hT => Row.facts (hT.ok 1 _ rfl)) (fun hr20_ => ?_)
  obtain ⟨hr20_a, hr20_l, hr20_c, hr20_m⟩ := hr20_
  unfold maxLen at hr20_m
  refine drawn_enter 8 [2] rfl (by kernel_rfl) ?_
  refine takes 0 [2] [(0, 0), (1, 0), (4, 0), (2, 0), (5, 0)] 3 [5, 2, 4, 1, 0] [(0, .slice A n cap), (1, .slice A' n' cap'), (2, iq how), (7, .slice Ax kx cx), (8, .slice Ay ky cy), (9, iq (i : Int)), (10, .pointer (pB b5)), (45, .slice Ax kx cx), (47, iq ((rget (xs ++ xs') i).x0)), (50, iq ((rget (xs ++ xs') i).x1))] (by kernel_rfl) (pok_then (pok_blk (pok_then (pok_then (pok_blk (pok_then pok_body)))))) (by kernel_rfl) rfl rfl (by kernel_rfl) (by kernel_rfl) ?_
  refine drawn_one 3 2 rfl (by kernel_rfl) ?_
  refine call_gen (d := 48) (α := Option Addr × Nat × Nat × Nat) (fun x_ => .slice x_.1 x_.2.2.1 x_.2.2.2) (fun x_ => [.cells b5 [iq ((rget (xs ++ xs') i).x0), iq ((rget (xs ++ xs') i).y0), iq ((rget (xs ++ xs') i).x1), iq ((rget (xs ++ xs') i).y1)] 53 true, .gen (rowE (Ay) gy_ ky cy 3 1 (ivals .i64 (gy (xs ++ xs') i)) true), .gen (rowE (x_.1) x_.2.1 x_.2.2.1 x_.2.2.2 3 1 (ivals .i64 (addL' (gx (xs ++ xs') i) ((rget (xs ++ xs') i).x0))) true), .gen (rdE (A) g o n 4 (rvals xs)), .gen (rdE (A') g' o' n' 4 (rvals xs'))]) (fun x_ => True) (by kernel_rfl) (fun w hT => (refAdd Ax gx_ 0 kx cx (gx (xs ++ xs') i) ((rget (xs ++ xs') i).x0) w (hT.viewRo (.cons (i := 2) rfl Vw.rowRd .nil) rfl) (by assumption) (by omega)).mono fun e w' hh_ => by
    rcases hh_ with ⟨he_, hm_, hb_⟩ | ⟨hm_, A_, g_, k_, c_, he_, ht_⟩
    · exact ⟨(Ax, gx_, kx, cx), he_, trivial, hT.moved (i := 2) rfl (.inl ⟨rfl, rfl, rfl, rfl, by rw [addL', if_pos hm_], hb_⟩)⟩
    · exact ⟨(A_, g_, k_, c_), he_, trivial, hT.moved (i := 2) rfl (.inr ht_)⟩) ?_
  rintro ⟨A21, g21, k21, cp21⟩ -
  refine cont_norm [(0, .slice A n cap), (1, .slice A' n' cap'), (2, iq how), (7, .slice Ax kx cx), (8, .slice Ay ky cy), (9, iq (i : Int)), (10, .pointer (pB b5)), (45, .slice Ax kx cx), (47, iq ((rget (xs ++ xs') i).x0)), (48, .slice A21 k21 cp21), (50, iq ((rget (xs ++ xs') i).x1))] [.cells b5 [iq ((rget (xs ++ xs') i).x0), iq ((rget (xs ++ xs') i).y0), iq ((rget (xs ++ xs') i).x1), iq ((rget (xs ++ xs') i).y1)] 53 true, .gen (rowE (Ay) gy_ ky cy 3 1 (ivals .i64 (gy (xs ++ xs') i)) true), .gen (rowE (A21) g21 k21 cp21 3 1 (ivals .i64 (addL' (gx (xs ++ xs') i) ((rget (xs ++ xs') i).x0))) true), .gen (rdE (A) g o n 4 (rvals xs)), .gen (rdE (A') g' o' n' 4 (rvals xs'))] (by kernel_rfl) rfl ?_
  refine cont_fact (F := (0 < k21 → (A21 : Option Addr) = pB g21) ∧ (addL' (gx (xs ++ xs') i) ((rget (xs ++ xs') i).x0)).length = k21 ∧ k21 ≤ cp21 ∧ cp21 ≤ maxLen) (fun w hT => Row.facts (hT.ok 2 _ rfl)) (fun hr22_ => ?_)
  obtain ⟨hr22_a, hr22_l, hr22_c, hr22_m⟩ := hr22_
  unfold maxLen at hr22_m
  have hrl21 := addL'_length (gx (xs ++ xs') i) ((rget (xs ++ xs') i).x0) (by assumption : Rise (gx (xs ++ xs') i))
  have hri21 := addL'_rise (by assumption : Rise (gx (xs ++ xs') i)) ((rget (xs ++ xs') i).x0)
  refine drawn_next 0 [2] (by kernel_rfl) ?_
  refine drawn_one 6 1 rfl (by kernel_rfl) ?_
  refine call_gen (d := 51) (α := Option Addr × Nat × Nat × Nat) (fun x_ => .slice x_.1 x_.2.2.1 x_.2.2.2) (fun x_ => [.cells b5 [iq ((rget (xs ++ xs') i).x0), iq ((rget (xs ++ xs') i).y0), iq ((rget (xs ++ xs') i).x1), iq ((rget (xs ++ xs') i).y1)] 53 true, .gen (rowE (Ay) gy_ ky cy 3 1 (ivals .i64 (gy (xs ++ xs') i)) true), .gen (rowE (x_.1) x_.2.1 x_.2.2.1 x_.2.2.2 3 1 (ivals .i64 (addL' (addL' (gx (xs ++ xs') i) ((rget (xs ++ xs') i).x0)) ((rget (xs ++ xs') i).x1))) true), .gen (rdE (A) g o n 4 (rvals xs)), .gen (rdE (A') g' o' n' 4 (rvals xs'))]) (fun x_ => True) (by kernel_rfl) (fun w hT => (refAdd A21 g21 0 k21 cp21 (addL' (gx (xs ++ xs') i) ((rget (xs ++ xs') i).x0)) ((rget (xs ++ xs') i).x1) w (hT.viewRo (.cons (i := 2) rfl Vw.rowRd .nil) rfl) (by assumption) (by omega)).mono fun e w' hh_ => by
    rcases hh_ with ⟨he_, hm_, hb_⟩ | ⟨hm_, A_, g_, k_, c_, he_, ht_⟩
    · exact ⟨(A21, g21, k21, cp21), he_, trivial, hT.moved (i := 2) rfl (.inl ⟨rfl, rfl, rfl, rfl, by rw [addL', if_pos hm_], hb_⟩)⟩
    · exact ⟨(A_, g_, k_, c_), he_, trivial, hT.moved (i := 2) rfl (.inr ht_)⟩) ?_
  rintro ⟨A23, g23, k23, cp23⟩ -
  refine cont_norm [(0, .slice A n cap), (1, .slice A' n' cap'), (2, iq how), (7, .slice Ax kx cx), (8, .slice Ay ky cy), (9, iq (i : Int)), (10, .pointer (pB b5)), (45, .slice Ax kx cx), (47, iq ((rget (xs ++ xs') i).x0)), (48, .slice A21 k21 cp21), (50, iq ((rget (xs ++ xs') i).x1)), (51, .slice A23 k23 cp23)] [.cells b5 [iq ((rget (xs ++ xs') i).x0), iq ((rget (xs ++ xs') i).y0), iq ((rget (xs ++ xs') i).x1), iq ((rget (xs ++ xs') i).y1)] 53 true, .gen (rowE (Ay) gy_ ky cy 3 1 (ivals .i64 (gy (xs ++ xs') i)) true), .gen (rowE (A23) g23 k23 cp23 3 1 (ivals .i64 (addL' (addL' (gx (xs ++ xs') i) ((rget (xs ++ xs') i).x0)) ((rget (xs ++ xs') i).x1))) true), .gen (rdE (A) g o n 4 (rvals xs)), .gen (rdE (A') g' o' n' 4 (rvals xs'))] (by kernel_rfl) rfl ?_
  refine cont_fact (F := (0 < k23 → (A23 : Option Addr) = pB g23) ∧ (addL' (addL' (gx (xs ++ xs') i) ((rget (xs ++ xs') i).x0)) ((rget (xs ++ xs') i).x1)).length = k23 ∧ k23 ≤ cp23 ∧ cp23 ≤ maxLen) (fun w hT => Row.facts (hT.ok 2 _ rfl)) (fun hr24_ => ?_)
  obtain ⟨hr24_a, hr24_l, hr24_c, hr24_m⟩ := hr24_
  unfold maxLen at hr24_m
  have hrl23 := addL'_length (addL' (gx (xs ++ xs') i) ((rget (xs ++ xs') i).x0)) ((rget (xs ++ xs') i).x1) (by assumption : Rise (addL' (gx (xs ++ xs') i) ((rget (xs ++ xs') i).x0)))
  have hri23 := addL'_rise (by assumption : Rise (addL' (gx (xs ++ xs') i) ((rget (xs ++ xs') i).x0))) ((rget (xs ++ xs') i).x1)
  refine drawn_next 0 [2] (by kernel_rfl) ?_
  refine takes 0 [2] [(7, 0)] 0 [7, 6, 3, 5, 2, 4, 1, 0] [(0, .slice A n cap), (1, .slice A' n' cap'), (2, iq how), (7, .slice A23 k23 cp23), (8, .slice Ay ky cy), (9, iq (i : Int)), (10, .pointer (pB b5))] (by kernel_rfl) (pok_then (pok_blk (pok_then (pok_then (pok_blk (pok_then pok_body)))))) (by kernel_rfl) rfl rfl (by kernel_rfl) (by kernel_rfl) ?_
  refine drawn_done (by kernel_rfl) ?_
  refine then_normal ?_
  refine drawn_enter 8 [1] rfl (by kernel_rfl) ?_
  refine takes 0 [1] [(0, 0), (1, 0), (4, 0), (2, 0), (5, 0)] 3 [5, 2, 4, 1, 0] [(0, .slice A n cap), (1, .slice A' n' cap'), (2, iq how), (7, .slice A23 k23 cp23), (8, .slice Ay ky cy), (9, iq (i : Int)), (52, .slice Ay ky cy), (54, iq ((rget (xs ++ xs') i).y0)), (57, iq ((rget (xs ++ xs') i).y1))] (by kernel_rfl) (pok_blk (pok_then (pok_then (pok_blk (pok_then pok_body))))) (by kernel_rfl) rfl rfl (by kernel_rfl) (by kernel_rfl) ?_
  refine drawn_one 3 2 rfl (by kernel_rfl) ?_
  refine call_gen (d := 55) (α := Option Addr × Nat × Nat × Nat) (fun x_ => .slice x_.1 x_.2.2.1 x_.2.2.2) (fun x_ => [.cells b5 [iq ((rget (xs ++ xs') i).x0), iq ((rget (xs ++ xs') i).y0), iq ((rget (xs ++ xs') i).x1), iq ((rget (xs ++ xs') i).y1)] 53 true, .gen (rowE (x_.1) x_.2.1 x_.2.2.1 x_.2.2.2 3 1 (ivals .i64 (addL' (gy (xs ++ xs') i) ((rget (xs ++ xs') i).y0))) true), .gen (rowE (A23) g23 k23 cp23 3 1 (ivals .i64 (addL' (addL' (gx (xs ++ xs') i) ((rget (xs ++ xs') i).x0)) ((rget (xs ++ xs') i).x1))) true), .gen (rdE (A) g o n 4 (rvals xs)), .gen (rdE (A') g' o' n' 4 (rvals xs'))]) (fun x_ => True) (by kernel_rfl) (fun w hT => (refAdd Ay gy_ 0 ky cy (gy (xs ++ xs') i) ((rget (xs ++ xs') i).y0) w (hT.viewRo (.cons (i := 1) rfl Vw.rowRd .nil) rfl) (by assumption) (by omega)).mono fun e w' hh_ => by
    rcases hh_ with ⟨he_, hm_, hb_⟩ | ⟨hm_, A_, g_, k_, c_, he_, ht_⟩
    · exact ⟨(Ay, gy_, ky, cy), he_, trivial, hT.moved (i := 1) rfl (.inl ⟨rfl, rfl, rfl, rfl, by rw [addL', if_pos hm_], hb_⟩)⟩
    · exact ⟨(A_, g_, k_, c_), he_, trivial, hT.moved (i := 1) rfl (.inr ht_)⟩) ?_
  rintro ⟨A25, g25, k25, cp25⟩ -
  refine cont_norm [(0, .slice A n cap), (1, .slice A' n' cap'), (2, iq how), (7, .slice A23 k23 cp23), (8, .slice Ay ky cy), (9, iq (i : Int)), (52, .slice Ay ky cy), (54, iq ((rget (xs ++ xs') i).y0)), (55, .slice A25 k25 cp25), (57, iq ((rget (xs ++ xs') i).y1))] [.cells b5 [iq ((rget (xs ++ xs') i).x0), iq ((rget (xs ++ xs') i).y0), iq ((rget (xs ++ xs') i).x1), iq ((rget (xs ++ xs') i).y1)] 53 true, .gen (rowE (A25) g25 k25 cp25 3 1 (ivals .i64 (addL' (gy (xs ++ xs') i) ((rget (xs ++ xs') i).y0))) true), .gen (rowE (A23) g23 k23 cp23 3 1 (ivals .i64 (addL' (addL' (gx (xs ++ xs') i) ((rget (xs ++ xs') i).x0)) ((rget (xs ++ xs') i).x1))) true), .gen (rdE (A) g o n 4 (rvals xs)), .gen (rdE (A') g' o' n' 4 (rvals xs'))] (by kernel_rfl) rfl ?_
  refine cont_fact (F := (0 < k25 → (A25 : Option Addr) = pB g25) ∧ (addL' (gy (xs ++ xs') i) ((rget (xs ++ xs') i).y0)).length = k25 ∧ k25 ≤ cp25 ∧ cp25 ≤ maxLen) (fun w hT => Row.facts (hT.ok 1 _ rfl)) (fun hr26_ => ?_)
  obtain ⟨hr26_a, hr26_l, hr26_c, hr26_m⟩ := hr26_
  unfold maxLen at hr26_m
  have hrl25 := addL'_length (gy (xs ++ xs') i) ((rget (xs ++ xs') i).y0) (by assumption : Rise (gy (xs ++ xs') i))
  have hri25 := addL'_rise (by assumption : Rise (gy (xs ++ xs') i)) ((rget (xs ++ xs') i).y0)
  refine drawn_next 0 [1] (by kernel_rfl) ?_
  refine drawn_one 6 1 rfl (by kernel_rfl) ?_
  refine call_gen (d := 58) (α := Option Addr × Nat × Nat × Nat) (fun x_ => .slice x_.1 x_.2.2.1 x_.2.2.2) (fun x_ => [.cells b5 [iq ((rget (xs ++ xs') i).x0), iq ((rget (xs ++ xs') i).y0), iq ((rget (xs ++ xs') i).x1), iq ((rget (xs ++ xs') i).y1)] 53 true, .gen (rowE (x_.1) x_.2.1 x_.2.2.1 x_.2.2.2 3 1 (ivals .i64 (addL' (addL' (gy (xs ++ xs') i) ((rget (xs ++ xs') i).y0)) ((rget (xs ++ xs') i).y1))) true), .gen (rowE (A23) g23 k23 cp23 3 1 (ivals .i64 (addL' (addL' (gx (xs ++ xs') i) ((rget (xs ++ xs') i).x0)) ((rget (xs ++ xs') i).x1))) true), .gen (rdE (A) g o n 4 (rvals xs)), .gen (rdE (A') g' o' n' 4 (rvals xs'))]) (fun x_ => True) (by kernel_rfl) (fun w hT => (refAdd A25 g25 0 k25 cp25 (addL' (gy (xs ++ xs') i) ((rget (xs ++ xs') i).y0)) ((rget (xs ++ xs') i).y1) w (hT.viewRo (.cons (i := 1) rfl Vw.rowRd .nil) rfl) (by assumption) (by omega)).mono fun e w' hh_ => by
    rcases hh_ with ⟨he_, hm_, hb_⟩ | ⟨hm_, A_, g_, k_, c_, he_, ht_⟩
    · exact ⟨(A25, g25, k25, cp25), he_, trivial, hT.moved (i := 1) rfl (.inl ⟨rfl, rfl, rfl, rfl, by rw [addL', if_pos hm_], hb_⟩)⟩
    · exact ⟨(A_, g_, k_, c_), he_, trivial, hT.moved (i := 1) rfl (.inr ht_)⟩) ?_
  rintro ⟨A27, g27, k27, cp27⟩ -
  refine cont_norm [(0, .slice A n cap), (1, .slice A' n' cap'), (2, iq how), (7, .slice A23 k23 cp23), (8, .slice Ay ky cy), (9, iq (i : Int)), (52, .slice Ay ky cy), (54, iq ((rget (xs ++ xs') i).y0)), (55, .slice A25 k25 cp25), (57, iq ((rget (xs ++ xs') i).y1)), (58, .slice A27 k27 cp27)] [.cells b5 [iq ((rget (xs ++ xs') i).x0), iq ((rget (xs ++ xs') i).y0), iq ((rget (xs ++ xs') i).x1), iq ((rget (xs ++ xs') i).y1)] 53 true, .gen (rowE (A27) g27 k27 cp27 3 1 (ivals .i64 (addL' (addL' (gy (xs ++ xs') i) ((rget (xs ++ xs') i).y0)) ((rget (xs ++ xs') i).y1))) true), .gen (rowE (A23) g23 k23 cp23 3 1 (ivals .i64 (addL' (addL' (gx (xs ++ xs') i) ((rget (xs ++ xs') i).x0)) ((rget (xs ++ xs') i).x1))) true), .gen (rdE (A) g o n 4 (rvals xs)), .gen (rdE (A') g' o' n' 4 (rvals xs'))] (by kernel_rfl) rfl ?_
  refine cont_fact (F := (0 < k27 → (A27 : Option Addr) = pB g27) ∧ (addL' (addL' (gy (xs ++ xs') i) ((rget (xs ++ xs') i).y0)) ((rget (xs ++ xs') i).y1)).length = k27 ∧ k27 ≤ cp27 ∧ cp27 ≤ maxLen) (fun w hT => Row.facts (hT.ok 1 _ rfl)) (fun hr28_ => ?_)
  obtain ⟨hr28_a, hr28_l, hr28_c, hr28_m⟩ := hr28_
  unfold maxLen at hr28_m
  have hrl27 := addL'_length (addL' (gy (xs ++ xs') i) ((rget (xs ++ xs') i).y0)) ((rget (xs ++ xs') i).y1) (by assumption : Rise (addL' (gy (xs ++ xs') i) ((rget (xs ++ xs') i).y0)))
  have hri27 := addL'_rise (by assumption : Rise (addL' (gy (xs ++ xs') i) ((rget (xs ++ xs') i).y0))) ((rget (xs ++ xs') i).y1)
  refine drawn_next 0 [1] (by kernel_rfl) ?_
  refine takes 0 [1] [(7, 0)] 0 [7, 6, 3, 5, 2, 4, 1, 0] [(0, .slice A n cap), (1, .slice A' n' cap'), (2, iq how), (7, .slice A23 k23 cp23), (8, .slice A27 k27 cp27), (9, iq (i : Int))] (by kernel_rfl) (pok_blk (pok_then (pok_then (pok_blk (pok_then pok_body))))) (by kernel_rfl) rfl rfl (by kernel_rfl) (by kernel_rfl) ?_
  refine drawn_done (by kernel_rfl) ?_
  refine blk_normal ?_
  refine then_normal ?_
  refine cont_region 3 rfl ?_
  refine bS [0, 0] 2 1 [(0, .slice A n cap), (1, .slice A' n' cap'), (2, iq how), (7, .slice A23 k23 cp23), (8, .slice A27 k27 cp27), (27, iq (IntKind.i64.wrap ((i : Int) + 1)))] ?_
  refine cont_recast 27 (iq (IntKind.i64.wrap ((i : Int) + 1))) (iq ((i : Int) + 1)) rfl (wrapI (by omega) (by omega)) ?_
  refine cont_forget 0 rfl ?_
  refine bS [0] 3 0 [(0, .slice A n cap), (1, .slice A' n' cap'), (2, iq how), (7, .slice A23 k23 cp23), (8, .slice A27 k27 cp27), (9, iq ((i : Int) + 1))] ?_
  refine cont_done ?_
  refine then_normal ?_
  refine cont_rowEq (k := .i64) 1 (addL' (addL' (gx (xs ++ xs') i) ((rget (xs ++ xs') i).x0)) ((rget (xs ++ xs') i).x1)) (gx (xs ++ xs') (i + 1)) rfl (gx_put (by omega) hem_) ?_
  refine cont_rowEq (k := .i64) 0 (addL' (addL' (gy (xs ++ xs') i) ((rget (xs ++ xs') i).y0)) ((rget (xs ++ xs') i).y1)) (gy (xs ++ xs') (i + 1)) rfl (gy_put (by omega) hem_) ?_
  refine cont_again (i + 1, k23, A23, g23, cp23, k27, A27, g27, cp27) (show (i + 1) ≤ n + n' from (by omega)) (show n + n' - (i + 1) < n + n' - i from by omega) (by kernel_rfl) (by kernel_rfl)
 replace c4_ := of_decide_eq_false c4_
 refine cont_false rfl ?_
 refine cont_exit ?_
 refine then_exit ?_
 refine then_exit ?_
 refine blk_exit ?_
 refine then_normal ?_
 refine cont_seq ?_
 refine cont_region 1 rfl ?_
 have hin : i = n + n' := by omega
 obtain ⟨XS, hXS⟩ : ∃ y_ : List Int, y_ = (gx (xs ++ xs') i) := ⟨_, rfl⟩
 refine cont_rowEq (k := .i64) 1 (gx (xs ++ xs') i) (XS) rfl hXS.symm ?_
 obtain ⟨YS, hYS⟩ : ∃ y_ : List Int, y_ = (gy (xs ++ xs') i) := ⟨_, rfl⟩
 refine cont_rowEq (k := .i64) 0 (gy (xs ++ xs') i) (YS) rfl hYS.symm ?_
 refine cont_fact (F := (0 < kx → (Ax : Option Addr) = pB gx_) ∧ XS.length = kx ∧ kx ≤ cx ∧ cx ≤ maxLen) (fun w hT => Row.facts (hT.ok 1 _ rfl)) (fun hr29_ => ?_)
 obtain ⟨hr29_a, hr29_l, hr29_c, hr29_m⟩ := hr29_
 unfold maxLen at hr29_m
 refine cont_fact (F := (0 < ky → (Ay : Option Addr) = pB gy_) ∧ YS.length = ky ∧ ky ≤ cy ∧ cy ≤ maxLen) (fun w hT => Row.facts (hT.ok 0 _ rfl)) (fun hr30_ => ?_)
 obtain ⟨hr30_a, hr30_l, hr30_c, hr30_m⟩ := hr30_
 unfold maxLen at hr30_m
 have hX : XS = gx (xs ++ xs') (xs ++ xs').length := by rw [hXS, hin, show (xs ++ xs').length = n + n' by rw [List.length_append]; omega]
 have hY : YS = gy (xs ++ xs') (xs ++ xs').length := by rw [hYS, hin, show (xs ++ xs').length = n + n' by rw [List.length_append]; omega]
 have hbX : XS.length ≤ 2 * (n + n') := by rw [hXS, ← hin]; exact gx_length _ _
 have hbY : YS.length ≤ 2 * (n + n') := by rw [hYS, ← hin]; exact gy_length _ _
 clear hlx hly hrx hry
 clear hab
 refine bS [0] 1 0 [(0, .slice A n cap), (1, .slice A' n' cap'), (2, iq how), (7, .slice Ax kx cx), (8, .slice Ay ky cy), (11, .slice none 0 0)] ?_
 refine cont_done ?_
 refine then_normal ?_
 refine cont_seq ?_
 refine cont_region 1 rfl ?_
 refine bS [0] 1 0 [(0, .slice A n cap), (1, .slice A' n' cap'), (2, iq how), (7, .slice Ax kx cx), (8, .slice Ay ky cy), (11, .slice none 0 0), (12, .slice none 0 0)] ?_
 refine cont_done ?_
 refine then_normal ?_
 refine cont_seq ?_
 refine cont_seq ?_
 refine cont_region 1 rfl ?_
 refine bS [0] 1 0 [(0, .slice A n cap), (1, .slice A' n' cap'), (2, iq how), (7, .slice Ax kx cx), (8, .slice Ay ky cy), (11, .slice none 0 0), (12, .slice none 0 0), (13, iq 0)] ?_
 refine cont_done ?_
 refine then_normal ?_
 refine cont_block ?_
 refine cont_nilrow 53 4 ?_
 refine cont_norm [(0, .slice A n cap), (1, .slice A' n' cap'), (2, iq how), (7, .slice Ax kx cx), (8, .slice Ay ky cy), (11, .slice none 0 0), (12, .slice none 0 0), (13, iq 0)] [.gen (rowE (none) 0 0 0 53 4 (rvals []) true), .gen (rowE (Ay) gy_ ky cy 3 1 (ivals .i64 YS) true), .gen (rowE (Ax) gx_ kx cx 3 1 (ivals .i64 XS) true), .gen (rdE (A) g o n 4 (rvals xs)), .gen (rdE (A') g' o' n' 4 (rvals xs'))] (by kernel_rfl) rfl ?_
 refine cont_nilrow 53 4 ?_
 refine cont_norm [(0, .slice A n cap), (1, .slice A' n' cap'), (2, iq how), (7, .slice Ax kx cx), (8, .slice Ay ky cy), (11, .slice none 0 0), (12, .slice none 0 0), (13, iq 0)] [.gen (rowE (none) 0 0 0 53 4 (rvals []) true), .gen (rowE (none) 0 0 0 53 4 (rvals []) true), .gen (rowE (Ay) gy_ ky cy 3 1 (ivals .i64 YS) true), .gen (rowE (Ax) gx_ kx cx 3 1 (ivals .i64 XS) true), .gen (rdE (A) g o n 4 (rvals xs)), .gen (rdE (A') g' o' n' 4 (rvals xs'))] (by kernel_rfl) rfl ?_
 refine cont_rowEqR 0 ([]) ((mgG touchL (ownD how xs xs' XS) YS 0).1) rfl rfl ?_
 refine cont_rowEqR 1 ([]) ((mgG touchL (ownD how xs xs' XS) YS 0).2) rfl rfl ?_
 refine cont_loop (α := Nat × Nat × Option Addr × Nat × Nat × Nat × Option Addr × Nat × Nat) (fun x_ : Nat × Nat × Option Addr × Nat × Nat × Nat × Option Addr × Nat × Nat => x_.1 ≤ YS.length - 1) (fun x_ : Nat × Nat × Option Addr × Nat × Nat × Nat × Option Addr × Nat × Nat => [(0, .slice A n cap), (1, .slice A' n' cap'), (2, iq how), (7, .slice Ax kx cx), (8, .slice Ay ky cy), (11, .slice x_.2.2.1 x_.2.1 x_.2.2.2.2.1), (12, .slice x_.2.2.2.2.2.2.1 x_.2.2.2.2.2.1 x_.2.2.2.2.2.2.2.2), (13, iq (x_.1 : Int))]) (fun x_ : Nat × Nat × Option Addr × Nat × Nat × Nat × Option Addr × Nat × Nat => [.gen (rowE (x_.2.2.1) x_.2.2.2.1 x_.2.1 x_.2.2.2.2.1 53 4 (rvals ((mgG touchL (ownD how xs xs' XS) YS x_.1).1)) true), .gen (rowE (x_.2.2.2.2.2.2.1) x_.2.2.2.2.2.2.2.1 x_.2.2.2.2.2.1 x_.2.2.2.2.2.2.2.2 53 4 (rvals ((mgG touchL (ownD how xs xs' XS) YS x_.1).2)) true), .gen (rowE (Ay) gy_ ky cy 3 1 (ivals .i64 YS) true), .gen (rowE (Ax) gx_ kx cx 3 1 (ivals .i64 XS) true), .gen (rdE (A) g o n 4 (rvals xs)), .gen (rdE (A') g' o' n' 4 (rvals xs'))]) (fun x_ : Nat × Nat × Option Addr × Nat × Nat × Nat × Option Addr × Nat × Nat => YS.length - 1 - x_.1) (0, 0, none, 0, 0, 0, none, 0, 0) (show (0) ≤ YS.length - 1 from (by omega)) (by kernel_rfl) (by kernel_rfl) ?_
 rintro ⟨i, kq, Aq, gq, cq, kr, Ar, gr, cr⟩ hinv33_
 replace hinv33_ : i ≤ YS.length - 1 := hinv33_
 refine cont_norm [(0, .slice A n cap), (1, .slice A' n' cap'), (2, iq how), (7, .slice Ax kx cx), (8, .slice Ay ky cy), (11, .slice Aq kq cq), (12, .slice Ar kr cr), (13, iq (i : Int))] [.gen (rowE (Aq) gq kq cq 53 4 (rvals ((mgG touchL (ownD how xs xs' XS) YS i).1)) true), .gen (rowE (Ar) gr kr cr 53 4 (rvals ((mgG touchL (ownD how xs xs' XS) YS i).2)) true), .gen (rowE (Ay) gy_ ky cy 3 1 (ivals .i64 YS) true), .gen (rowE (Ax) gx_ kx cx 3 1 (ivals .i64 XS) true), .gen (rdE (A) g o n 4 (rvals xs)), .gen (rdE (A') g' o' n' 4 (rvals xs'))] (by kernel_rfl) rfl ?_
 have hi := hinv33_
 have hmb := mgG_bound (al := touchL) (own := (ownD how xs xs' XS)) (ys := YS) (m := XS.length) (i := i) (fun a b => ownD_length how xs xs' XS a b) (by omega) (by omega)
 refine cont_seq ?_
 refine cont_seq ?_
 refine cont_region 5 rfl ?_
 refine bS [0, 0] 2 3 [(0, .slice A n cap), (1, .slice A' n' cap'), (2, iq how), (7, .slice Ax kx cx), (8, .slice Ay ky cy), (11, .slice Aq kq cq), (12, .slice Ar kr cr), (13, iq (i : Int)), (60, iq (IntKind.i64.wrap ((i : Int) + 1)))] ?_
 refine cont_recast 60 (iq (IntKind.i64.wrap ((i : Int) + 1))) (iq ((i + 1 : Nat) : Int)) rfl (by rw [show (((i + 1 : Nat) : Int)) = (i : Int) + 1 by omega]; exact wrapI (by omega) (by omega)) ?_
 refine bS [0, 0, 0] 5 0 [(0, .slice A n cap), (1, .slice A' n' cap'), (2, iq how), (7, .slice Ax kx cx), (8, .slice Ay ky cy), (11, .slice Aq kq cq), (12, .slice Ar kr cr), (13, iq (i : Int)), (63, .bool (decide (((i + 1 : Nat) : Int) < (ky : Int))))] ?_
 refine cont_done ?_
 refine then_normal ?_
 refine cont_split 63 (decide (((i + 1 : Nat) : Int) < (ky : Int))) rfl (fun c34_ => ?_) (fun c34_ => ?_)
 ·
  replace c34_ := of_decide_eq_true c34_
  refine cont_true rfl ?_
  refine cont_skip ?_
  refine then_normal ?_
  refine cont_seq ?_
  refine cont_block ?_
  refine cont_seq ?_
  refine cont_region 1 rfl ?_
  refine cont_fact (F := (0 < kq → (Aq : Option Addr) = pB gq) ∧ ((mgG touchL (ownD how xs xs' XS) YS i).1).length = kq ∧ kq ≤ cq ∧ cq ≤ maxLen) (fun w hT => Row.factsR (hT.ok 0 _ rfl)) (fun hr35_ => ?_)
  obtain ⟨hr35_a, hr35_l, hr35_c, hr35_m⟩ := hr35_
  unfold maxLen at hr35_m
  refine cont_fact (F := (0 < kr → (Ar : Option Addr) = pB gr) ∧ ((mgG touchL (ownD how xs xs' XS) YS i).2).length = kr ∧ kr ≤ cr ∧ cr ≤ maxLen) (fun w hT => Row.factsR (hT.ok 1 _ rfl)) (fun hr36_ => ?_)
  obtain ⟨hr36_a, hr36_l, hr36_c, hr36_m⟩ := hr36_
  unfold maxLen at hr36_m
  refine bS [0] 1 0 [(0, .slice A n cap), (1, .slice A' n' cap'), (2, iq how), (7, .slice Ax kx cx), (8, .slice Ay ky cy), (11, .slice Aq kq cq), (12, .slice Ar kr cr), (13, iq (i : Int)), (14, .slice none 0 0)] ?_
  refine cont_done ?_
  refine then_normal ?_
  refine cont_seq ?_
  refine cont_seq ?_
  refine cont_region 1 rfl ?_
  refine bS [0] 1 0 [(0, .slice A n cap), (1, .slice A' n' cap'), (2, iq how), (7, .slice Ax kx cx), (8, .slice Ay ky cy), (11, .slice Aq kq cq), (12, .slice Ar kr cr), (13, iq (i : Int)), (14, .slice none 0 0), (15, iq 0)] ?_
  refine cont_done ?_
  refine then_normal ?_
  refine cont_block ?_
  refine cont_nilrow 53 4 ?_
  refine cont_norm [(0, .slice A n cap), (1, .slice A' n' cap'), (2, iq how), (7, .slice Ax kx cx), (8, .slice Ay ky cy), (11, .slice Aq kq cq), (12, .slice Ar kr cr), (13, iq (i : Int)), (14, .slice none 0 0), (15, iq 0)] [.gen (rowE (none) 0 0 0 53 4 (rvals []) true), .gen (rowE (Aq) gq kq cq 53 4 (rvals ((mgG touchL (ownD how xs xs' XS) YS i).1)) true), .gen (rowE (Ar) gr kr cr 53 4 (rvals ((mgG touchL (ownD how xs xs' XS) YS i).2)) true), .gen (rowE (Ay) gy_ ky cy 3 1 (ivals .i64 YS) true), .gen (rowE (Ax) gx_ kx cx 3 1 (ivals .i64 XS) true), .gen (rdE (A) g o n 4 (rvals xs)), .gen (rdE (A') g' o' n' 4 (rvals xs'))] (by kernel_rfl) rfl ?_
  refine cont_rowEqR 0 ([]) (ownL (fun x => keepF (docK how) xs xs' x (YS.getD i 0)) (YS.getD i 0) (YS.getD (i + 1) 0) XS 0) rfl rfl ?_
  refine cont_loop (α := Nat × Nat × Option Addr × Nat × Nat) (fun x_ : Nat × Nat × Option Addr × Nat × Nat => x_.1 ≤ XS.length - 1 ∧ x_.2.1 ≤ x_.1) (fun x_ : Nat × Nat × Option Addr × Nat × Nat => [(0, .slice A n cap), (1, .slice A' n' cap'), (2, iq how), (7, .slice Ax kx cx), (8, .slice Ay ky cy), (11, .slice Aq kq cq), (12, .slice Ar kr cr), (13, iq (i : Int)), (14, .slice x_.2.2.1 x_.2.1 x_.2.2.2.2), (15, iq (x_.1 : Int))]) (fun x_ : Nat × Nat × Option Addr × Nat × Nat => [.gen (rowE (x_.2.2.1) x_.2.2.2.1 x_.2.1 x_.2.2.2.2 53 4 (rvals (ownL (fun x => keepF (docK how) xs xs' x (YS.getD i 0)) (YS.getD i 0) (YS.getD (i + 1) 0) XS x_.1)) true), .gen (rowE (Aq) gq kq cq 53 4 (rvals ((mgG touchL (ownD how xs xs' XS) YS i).1)) true), .gen (rowE (Ar) gr kr cr 53 4 (rvals ((mgG touchL (ownD how xs xs' XS) YS i).2)) true), .gen (rowE (Ay) gy_ ky cy 3 1 (ivals .i64 YS) true), .gen (rowE (Ax) gx_ kx cx 3 1 (ivals .i64 XS) true), .gen (rdE (A) g o n 4 (rvals xs)), .gen (rdE (A') g' o' n' 4 (rvals xs'))]) (fun x_ : Nat × Nat × Option Addr × Nat × Nat => XS.length - 1 - x_.1) (0, 0, none, 0, 0) (show (0) ≤ XS.length - 1 ∧ (0) ≤ (0) from ⟨by omega, by omega⟩) (by kernel_rfl) (by kernel_rfl) ?_
  rintro ⟨k, kw, Aw, gw, cw⟩ hinv38_
  replace hinv38_ : k ≤ XS.length - 1 ∧ kw ≤ k := hinv38_
  refine cont_norm [(0, .slice A n cap), (1, .slice A' n' cap'), (2, iq how), (7, .slice Ax kx cx), (8, .slice Ay ky cy), (11, .slice Aq kq cq), (12, .slice Ar kr cr), (13, iq (i : Int)), (14, .slice Aw kw cw), (15, iq (k : Int))] [.gen (rowE (Aw) gw kw cw 53 4 (rvals (ownL (fun x => keepF (docK how) xs xs' x (YS.getD i 0)) (YS.getD i 0) (YS.getD (i + 1) 0) XS k)) true), .gen (rowE (Aq) gq kq cq 53 4 (rvals ((mgG touchL (ownD how xs xs' XS) YS i).1)) true), .gen (rowE (Ar) gr kr cr 53 4 (rvals ((mgG touchL (ownD how xs xs' XS) YS i).2)) true), .gen (rowE (Ay) gy_ ky cy 3 1 (ivals .i64 YS) true), .gen (rowE (Ax) gx_ kx cx 3 1 (ivals .i64 XS) true), .gen (rdE (A) g o n 4 (rvals xs)), .gen (rdE (A') g' o' n' 4 (rvals xs'))] (by kernel_rfl) rfl ?_
  obtain ⟨hk, hkw⟩ := hinv38_
  refine cont_seq ?_
  refine cont_seq ?_
  refine cont_region 5 rfl ?_
  refine bS [0, 0] 2 3 [(0, .slice A n cap), (1, .slice A' n' cap'), (2, iq how), (7, .slice Ax kx cx), (8, .slice Ay ky cy), (11, .slice Aq kq cq), (12, .slice Ar kr cr), (13, iq (i : Int)), (14, .slice Aw kw cw), (15, iq (k : Int)), (67, iq (IntKind.i64.wrap ((k : Int) + 1)))] ?_
  refine cont_recast 67 (iq (IntKind.i64.wrap ((k : Int) + 1))) (iq ((k + 1 : Nat) : Int)) rfl (by rw [show (((k + 1 : Nat) : Int)) = (k : Int) + 1 by omega]; exact wrapI (by omega) (by omega)) ?_
  refine bS [0, 0, 0] 5 0 [(0, .slice A n cap), (1, .slice A' n' cap'), (2, iq how), (7, .slice Ax kx cx), (8, .slice Ay ky cy), (11, .slice Aq kq cq), (12, .slice Ar kr cr), (13, iq (i : Int)), (14, .slice Aw kw cw), (15, iq (k : Int)), (70, .bool (decide (((k + 1 : Nat) : Int) < (kx : Int))))] ?_
  refine cont_done ?_
  refine then_normal ?_
  refine cont_split 70 (decide (((k + 1 : Nat) : Int) < (kx : Int))) rfl (fun c39_ => ?_) (fun c39_ => ?_)
  ·
   replace c39_ := of_decide_eq_true c39_
   refine cont_true rfl ?_
   refine cont_skip ?_
   refine then_normal ?_
   refine cont_seq ?_
   refine cont_block ?_
   refine cont_seq ?_
   refine drawn_enter 23 [] rfl (by kernel_rfl) ?_
   refine takes 0 [] [(0, 0), (1, 0), (2, 0), (5, 0), (6, 0), (10, 0), (11, 0), (12, 0), (15, 0), (16, 0), (20, 0)] 12 [20, 16, 15, 12, 11, 10, 6, 5, 2, 1, 0] [(0, .slice A n cap), (1, .slice A' n' cap'), (2, iq how), (7, .slice Ax kx cx), (8, .slice Ay ky cy), (11, .slice Aq kq cq), (12, .slice Ar kr cr), (13, iq (i : Int)), (14, .slice Aw kw cw), (15, iq (k : Int)), (73, .slice A n cap), (74, .slice Ax kx cx), (75, iq (k : Int)), (78, .slice Ay ky cy), (79, iq (i : Int)), (83, .slice A' n' cap'), (84, .slice Ax kx cx), (85, iq (k : Int)), (88, .slice Ay ky cy), (89, iq (i : Int)), (93, iq how)] (by kernel_rfl) (pok_then (pok_blk (pok_then (pok_then (pok_blk (pok_then (pok_blk (pok_then (pok_then (pok_blk (pok_then pok_body))))))))))) (by kernel_rfl) rfl rfl (by kernel_rfl) (by kernel_rfl) ?_
   refine cont_recast 74 (.slice Ax kx cx) (.slice (pB gx_) kx cx) rfl (by rw [hr29_a (by omega)]) ?_
   refine sem_take 0 [] 3 11 76 (Instr.indexAt 34 (.slice (pB gx_) kx cx) (iq (k : Int))) (.pointer (some ⟨gx_, k, none⟩)) (by kernel_rfl) (pok_then (pok_blk (pok_then (pok_then (pok_blk (pok_then (pok_blk (pok_then (pok_then (pok_blk (pok_then pok_body))))))))))) (by kernel_rfl) rfl (by kernel_rfl) (by kernel_rfl) (fun w hT => run_indexAt (e := 3) (sz := 1) _ (by kernel_rfl) (by kernel_rfl) (by omega) (by omega) (by omega) w) ?_
   refine sem_take 0 [] 4 10 77 (Instr.loadAt 3 (.pointer (some ⟨gx_, k, none⟩))) (iq (XS.getD k 0)) (by kernel_rfl) (pok_then (pok_blk (pok_then (pok_then (pok_blk (pok_then (pok_blk (pok_then (pok_then (pok_blk (pok_then pok_body))))))))))) (by kernel_rfl) rfl (by kernel_rfl) (by kernel_rfl) (fun w hT => run_load1 (by kernel_rfl) (Row.cell (hT 4 _ rfl) (k) _ (ivals_get (by omega)))) ?_
   refine cont_recast 78 (.slice Ay ky cy) (.slice (pB gy_) ky cy) rfl (by rw [hr30_a (by omega)]) ?_
   refine sem_take 0 [] 7 9 80 (Instr.indexAt 34 (.slice (pB gy_) ky cy) (iq (i : Int))) (.pointer (some ⟨gy_, i, none⟩)) (by kernel_rfl) (pok_then (pok_blk (pok_then (pok_then (pok_blk (pok_then (pok_blk (pok_then (pok_then (pok_blk (pok_then pok_body))))))))))) (by kernel_rfl) rfl (by kernel_rfl) (by kernel_rfl) (fun w hT => run_indexAt (e := 3) (sz := 1) _ (by kernel_rfl) (by kernel_rfl) (by omega) (by omega) (by omega) w) ?_
   refine sem_take 0 [] 8 8 81 (Instr.loadAt 3 (.pointer (some ⟨gy_, i, none⟩))) (iq (YS.getD i 0)) (by kernel_rfl) (pok_then (pok_blk (pok_then (pok_then (pok_blk (pok_then (pok_blk (pok_then (pok_then (pok_blk (pok_then pok_body))))))))))) (by kernel_rfl) rfl (by kernel_rfl) (by kernel_rfl) (fun w hT => run_load1 (by kernel_rfl) (Row.cell (hT 3 _ rfl) (i) _ (ivals_get (by omega)))) ?_
   refine cont_recast 84 (.slice Ax kx cx) (.slice (pB gx_) kx cx) rfl (by rw [hr29_a (by omega)]) ?_
   refine sem_take 0 [] 13 7 86 (Instr.indexAt 34 (.slice (pB gx_) kx cx) (iq (k : Int))) (.pointer (some ⟨gx_, k, none⟩)) (by kernel_rfl) (pok_then (pok_blk (pok_then (pok_then (pok_blk (pok_then (pok_blk (pok_then (pok_then (pok_blk (pok_then pok_body))))))))))) (by kernel_rfl) rfl (by kernel_rfl) (by kernel_rfl) (fun w hT => run_indexAt (e := 3) (sz := 1) _ (by kernel_rfl) (by kernel_rfl) (by omega) (by omega) (by omega) w) ?_
   refine sem_take 0 [] 14 6 87 (Instr.loadAt 3 (.pointer (some ⟨gx_, k, none⟩))) (iq (XS.getD k 0)) (by kernel_rfl) (pok_then (pok_blk (pok_then (pok_then (pok_blk (pok_then (pok_blk (pok_then (pok_then (pok_blk (pok_then pok_body))))))))))) (by kernel_rfl) rfl (by kernel_rfl) (by kernel_rfl) (fun w hT => run_load1 (by kernel_rfl) (Row.cell (hT 4 _ rfl) (k) _ (ivals_get (by omega)))) ?_
   refine cont_recast 88 (.slice Ay ky cy) (.slice (pB gy_) ky cy) rfl (by rw [hr30_a (by omega)]) ?_
   refine sem_take 0 [] 17 5 90 (Instr.indexAt 34 (.slice (pB gy_) ky cy) (iq (i : Int))) (.pointer (some ⟨gy_, i, none⟩)) (by kernel_rfl) (pok_then (pok_blk (pok_then (pok_then (pok_blk (pok_then (pok_blk (pok_then (pok_then (pok_blk (pok_then pok_body))))))))))) (by kernel_rfl) rfl (by kernel_rfl) (by kernel_rfl) (fun w hT => run_indexAt (e := 3) (sz := 1) _ (by kernel_rfl) (by kernel_rfl) (by omega) (by omega) (by omega) w) ?_
   refine sem_take 0 [] 18 4 91 (Instr.loadAt 3 (.pointer (some ⟨gy_, i, none⟩))) (iq (YS.getD i 0)) (by kernel_rfl) (pok_then (pok_blk (pok_then (pok_then (pok_blk (pok_then (pok_blk (pok_then (pok_then (pok_blk (pok_then pok_body))))))))))) (by kernel_rfl) rfl (by kernel_rfl) (by kernel_rfl) (fun w hT => run_load1 (by kernel_rfl) (Row.cell (hT 3 _ rfl) (i) _ (ivals_get (by omega)))) ?_
   refine drawn_one 9 3 rfl (by kernel_rfl) ?_
   refine call_pure (d := 82) (.bool (hasL xs (XS.getD k 0) (YS.getD i 0))) (by kernel_rfl) (fun w hT => refHasL A g o n cap xs (XS.getD k 0) (YS.getD i 0) w (hT.viewRo (.cons (i := 5) rfl Vw.rd .nil) rfl) (by omega)) ?_
   refine drawn_next 0 [] (by kernel_rfl) ?_
   refine drawn_one 19 2 rfl (by kernel_rfl) ?_
   refine call_pure (d := 92) (.bool (hasL xs' (XS.getD k 0) (YS.getD i 0))) (by kernel_rfl) (fun w hT => refHasL A' g' o' n' cap' xs' (XS.getD k 0) (YS.getD i 0) w (hT.viewRo (.cons (i := 6) rfl Vw.rd .nil) rfl) (by omega)) ?_
   refine drawn_next 0 [] (by kernel_rfl) ?_
   refine drawn_one 21 1 rfl (by kernel_rfl) ?_
   refine call_pure (d := 94) (.bool (docK how (hasL xs (XS.getD k 0) (YS.getD i 0)) (hasL xs' (XS.getD k 0) (YS.getD i 0)))) (by kernel_rfl) (fun w hT => refKeepB (hasL xs (XS.getD k 0) (YS.getD i 0)) (hasL xs' (XS.getD k 0) (YS.getD i 0)) how w) ?_
   refine drawn_next 0 [] (by kernel_rfl) ?_
   refine takes 0 [] [(22, 0)] 0 [22, 21, 19, 9, 18, 17, 14, 13, 8, 7, 4, 3, 20, 16, 15, 12, 11, 10, 6, 5, 2, 1, 0] [(0, .slice A n cap), (1, .slice A' n' cap'), (2, iq how), (7, .slice Ax kx cx), (8, .slice Ay ky cy), (11, .slice Aq kq cq), (12, .slice Ar kr cr), (13, iq (i : Int)), (14, .slice Aw kw cw), (15, iq (k : Int)), (16, .bool (docK how (hasL xs (XS.getD k 0) (YS.getD i 0)) (hasL xs' (XS.getD k 0) (YS.getD i 0))))] (by kernel_rfl) (pok_then (pok_blk (pok_then (pok_then (pok_blk (pok_then (pok_blk (pok_then (pok_then (pok_blk (pok_then pok_body))))))))))) (by kernel_rfl) rfl rfl (by kernel_rfl) (by kernel_rfl) ?_
   refine drawn_done (by kernel_rfl) ?_
   refine then_normal ?_
   refine cont_seq ?_
   refine cont_seq ?_
   refine cont_region 2 rfl ?_
   refine bS [0, 0] 2 0 [(0, .slice A n cap), (1, .slice A' n' cap'), (2, iq how), (7, .slice Ax kx cx), (8, .slice Ay ky cy), (11, .slice Aq kq cq), (12, .slice Ar kr cr), (13, iq (i : Int)), (14, .slice Aw kw cw), (15, iq (k : Int)), (96, .bool (!(docK how (hasL xs (XS.getD k 0) (YS.getD i 0)) (hasL xs' (XS.getD k 0) (YS.getD i 0)))))] ?_
   refine cont_done ?_
   refine then_normal ?_
   refine cont_split 96 (!(docK how (hasL xs (XS.getD k 0) (YS.getD i 0)) (hasL xs' (XS.getD k 0) (YS.getD i 0)))) rfl (fun c40_ => ?_) (fun c40_ => ?_)
   ·
    replace c40_ : (docK how (hasL xs (XS.getD k 0) (YS.getD i 0)) (hasL xs' (XS.getD k 0) (YS.getD i 0))) = false := by simpa using c40_
    have hkeep_ : docK how (hasL xs (XS.getD k 0) (YS.getD i 0)) (hasL xs' (XS.getD k 0) (YS.getD i 0)) = false := c40_
    refine cont_true rfl ?_
    refine cont_exit ?_
    refine then_exit ?_
    refine blk_exit ?_
    refine then_normal ?_
    refine cont_region 3 rfl ?_
    refine bS [0, 0] 2 1 [(0, .slice A n cap), (1, .slice A' n' cap'), (2, iq how), (7, .slice Ax kx cx), (8, .slice Ay ky cy), (11, .slice Aq kq cq), (12, .slice Ar kr cr), (13, iq (i : Int)), (14, .slice Aw kw cw), (72, iq (IntKind.i64.wrap ((k : Int) + 1)))] ?_
    refine cont_recast 72 (iq (IntKind.i64.wrap ((k : Int) + 1))) (iq ((k + 1 : Nat) : Int)) rfl (by rw [show (((k + 1 : Nat) : Int)) = (k : Int) + 1 by omega]; exact wrapI (by omega) (by omega)) ?_
    refine bS [0] 3 0 [(0, .slice A n cap), (1, .slice A' n' cap'), (2, iq how), (7, .slice Ax kx cx), (8, .slice Ay ky cy), (11, .slice Aq kq cq), (12, .slice Ar kr cr), (13, iq (i : Int)), (14, .slice Aw kw cw), (15, iq ((k + 1 : Nat) : Int))] ?_
    refine cont_done ?_
    refine then_normal ?_
    refine cont_rowEqR 0 (ownL (fun x => keepF (docK how) xs xs' x (YS.getD i 0)) (YS.getD i 0) (YS.getD (i + 1) 0) XS k) (ownL (fun x => keepF (docK how) xs xs' x (YS.getD i 0)) (YS.getD i 0) (YS.getD (i + 1) 0) XS (k + 1)) rfl (ownL_skip (f := (fun x => keepF (docK how) xs xs' x (YS.getD i 0))) hkeep_) ?_
    refine cont_again (k + 1, kw, Aw, gw, cw) (show (k + 1) ≤ XS.length - 1 ∧ (kw) ≤ (k + 1) from ⟨by omega, by omega⟩) (show XS.length - 1 - (k + 1) < XS.length - 1 - k from by omega) (by kernel_rfl) (by kernel_rfl)
   replace c40_ : (docK how (hasL xs (XS.getD k 0) (YS.getD i 0)) (hasL xs' (XS.getD k 0) (YS.getD i 0))) = true := by simpa using c40_
   have hkeep_ : docK how (hasL xs (XS.getD k 0) (YS.getD i 0)) (hasL xs' (XS.getD k 0) (YS.getD i 0)) = true := c40_
   refine cont_false rfl ?_
   refine cont_skip ?_
   refine then_normal ?_
   refine cont_seq ?_
   refine cont_fact (F := (0 < kw → (Aw : Option Addr) = pB gw) ∧ (ownL (fun x => keepF (docK how) xs xs' x (YS.getD i 0)) (YS.getD i 0) (YS.getD (i + 1) 0) XS k).length = kw ∧ kw ≤ cw ∧ cw ≤ maxLen) (fun w hT => Row.factsR (hT.ok 0 _ rfl)) (fun hr41_ => ?_)
   obtain ⟨hr41_a, hr41_l, hr41_c, hr41_m⟩ := hr41_
   unfold maxLen at hr41_m
   refine drawn_enter 18 [] rfl (by kernel_rfl) ?_
   refine takes 0 [] [(0, 0), (1, 0), (2, 0), (3, 0)] 14 [3, 2, 1, 0] [(0, .slice A n cap), (1, .slice A' n' cap'), (2, iq how), (7, .slice Ax kx cx), (8, .slice Ay ky cy), (11, .slice Aq kq cq), (12, .slice Ar kr cr), (13, iq (i : Int)), (14, .slice Aw kw cw), (15, iq (k : Int)), (100, .bool (decide ((kw : Int) > 0)))] (by kernel_rfl) (pok_then (pok_blk (pok_then (pok_then (pok_blk (pok_then (pok_blk (pok_then (pok_then (pok_blk (pok_then pok_body))))))))))) (by kernel_rfl) rfl rfl (by kernel_rfl) (by kernel_rfl) ?_
   refine cont_split 100 (decide ((kw : Int) > 0)) rfl (fun c42_ => ?_) (fun c42_ => ?_)
   ·
    replace c42_ := of_decide_eq_true c42_
    refine takes 0 [] [(4, 0), (5, 0), (12, 0), (13, 0), (6, 0)] 9 [6, 13, 12, 5, 4, 3, 2, 1, 0] [(0, .slice A n cap), (1, .slice A' n' cap'), (2, iq how), (7, .slice Ax kx cx), (8, .slice Ay ky cy), (11, .slice Aq kq cq), (12, .slice Ar kr cr), (13, iq (i : Int)), (14, .slice Aw kw cw), (15, iq (k : Int)), (100, .bool true), (101, .slice Aw kw cw), (102, .slice Aw kw cw), (103, iq (kw : Int)), (109, .slice Ax kx cx), (110, iq (k : Int))] (by kernel_rfl) (pok_then (pok_blk (pok_then (pok_then (pok_blk (pok_then (pok_blk (pok_then (pok_then (pok_blk (pok_then pok_body))))))))))) (by kernel_rfl) rfl rfl (by kernel_rfl) (by kernel_rfl) ?_
    refine takes 0 [] [(7, 0)] 8 [7, 6, 13, 12, 5, 4, 3, 2, 1, 0] [(0, .slice A n cap), (1, .slice A' n' cap'), (2, iq how), (7, .slice Ax kx cx), (8, .slice Ay ky cy), (11, .slice Aq kq cq), (12, .slice Ar kr cr), (13, iq (i : Int)), (14, .slice Aw kw cw), (15, iq (k : Int)), (100, .bool true), (101, .slice Aw kw cw), (102, .slice Aw kw cw), (103, iq (kw : Int)), (104, iq (IntKind.i64.wrap ((kw : Int) - 1))), (109, .slice Ax kx cx), (110, iq (k : Int))] (by kernel_rfl) (pok_then (pok_blk (pok_then (pok_then (pok_blk (pok_then (pok_blk (pok_then (pok_then (pok_blk (pok_then pok_body))))))))))) (by kernel_rfl) rfl rfl (by kernel_rfl) (by kernel_rfl) ?_
    refine cont_recast 104 (iq (IntKind.i64.wrap ((kw : Int) - 1))) (iq ((kw : Int) - 1)) rfl (wrapI (by omega) (by omega)) ?_
    refine takes 0 [] [(8, 0)] 7 [8, 7, 6, 13, 12, 5, 4, 3, 2, 1, 0] [(0, .slice A n cap), (1, .slice A' n' cap'), (2, iq how), (7, .slice Ax kx cx), (8, .slice Ay ky cy), (11, .slice Aq kq cq), (12, .slice Ar kr cr), (13, iq (i : Int)), (14, .slice Aw kw cw), (15, iq (k : Int)), (100, .bool true), (101, .slice Aw kw cw), (102, .slice Aw kw cw), (103, iq (kw : Int)), (104, iq ((kw : Int) - 1)), (105, iq (mx ((kw : Int) - 1) 0)), (109, .slice Ax kx cx), (110, iq (k : Int))] (by kernel_rfl) (pok_then (pok_blk (pok_then (pok_then (pok_blk (pok_then (pok_blk (pok_then (pok_then (pok_blk (pok_then pok_body))))))))))) (by kernel_rfl) rfl rfl (by kernel_rfl) (by kernel_rfl) ?_
    refine cont_recast 105 (iq (mx ((kw : Int) - 1) 0)) (iq ((kw - 1 : Nat) : Int)) rfl (congrArg (Value.int .i64) (by unfold mx; omega)) ?_
    refine cont_recast 101 (.slice Aw kw cw) (.slice (pB gw) kw cw) rfl (by rw [hr41_a (by omega)]) ?_
    refine sem_take 0 [] 9 6 106 (Instr.indexAt 58 (.slice (pB gw) kw cw) (iq ((kw - 1 : Nat) : Int))) (.pointer (some ⟨gw, (kw - 1 : Nat) * 4, none⟩)) (by kernel_rfl) (pok_then (pok_blk (pok_then (pok_then (pok_blk (pok_then (pok_blk (pok_then (pok_then (pok_blk (pok_then pok_body))))))))))) (by kernel_rfl) rfl (by kernel_rfl) (by kernel_rfl) (fun w hT => run_indexAt (e := 53) (sz := 4) _ (by kernel_rfl) (by kernel_rfl) (by omega) (by omega) (by omega) w) ?_
    refine takes 0 [] [(10, 0)] 5 [10, 9, 8, 7, 6, 13, 12, 5, 4, 3, 2, 1, 0] [(0, .slice A n cap), (1, .slice A' n' cap'), (2, iq how), (7, .slice Ax kx cx), (8, .slice Ay ky cy), (11, .slice Aq kq cq), (12, .slice Ar kr cr), (13, iq (i : Int)), (14, .slice Aw kw cw), (15, iq (k : Int)), (100, .bool true), (101, .slice (pB gw) kw cw), (102, .slice Aw kw cw), (103, iq (kw : Int)), (104, iq ((kw : Int) - 1)), (105, iq ((kw - 1 : Nat) : Int)), (106, .pointer (some ⟨gw, (kw - 1 : Nat) * 4, none⟩)), (107, .pointer (some ⟨gw, (kw - 1 : Nat) * 4 + 2, none⟩)), (109, .slice Ax kx cx), (110, iq (k : Int))] (by kernel_rfl) (pok_then (pok_blk (pok_then (pok_then (pok_blk (pok_then (pok_blk (pok_then (pok_then (pok_blk (pok_then pok_body))))))))))) (by kernel_rfl) rfl rfl (by kernel_rfl) (by kernel_rfl) ?_
    refine sem_take 0 [] 11 4 108 (Instr.loadAt 3 (.pointer (some ⟨gw, (kw - 1 : Nat) * 4 + 2, none⟩))) (iq ((rget (ownL (fun x => keepF (docK how) xs xs' x (YS.getD i 0)) (YS.getD i 0) (YS.getD (i + 1) 0) XS k) (kw - 1 : Nat)).x1)) (by kernel_rfl) (pok_then (pok_blk (pok_then (pok_then (pok_blk (pok_then (pok_blk (pok_then (pok_then (pok_blk (pok_then pok_body))))))))))) (by kernel_rfl) rfl (by kernel_rfl) (by kernel_rfl) (fun w hT => run_load1 (by kernel_rfl) (Rd.cellF0 (Row.rd (hT 0 _ rfl)) (kw - 1 : Nat) 2 _ (by omega) rfl)) ?_
    refine cont_recast 109 (.slice Ax kx cx) (.slice (pB gx_) kx cx) rfl (by rw [hr29_a (by omega)]) ?_
    refine sem_take 0 [] 14 3 111 (Instr.indexAt 34 (.slice (pB gx_) kx cx) (iq (k : Int))) (.pointer (some ⟨gx_, k, none⟩)) (by kernel_rfl) (pok_then (pok_blk (pok_then (pok_then (pok_blk (pok_then (pok_blk (pok_then (pok_then (pok_blk (pok_then pok_body))))))))))) (by kernel_rfl) rfl (by kernel_rfl) (by kernel_rfl) (fun w hT => run_indexAt (e := 3) (sz := 1) _ (by kernel_rfl) (by kernel_rfl) (by omega) (by omega) (by omega) w) ?_
    refine sem_take 0 [] 15 2 112 (Instr.loadAt 3 (.pointer (some ⟨gx_, k, none⟩))) (iq (XS.getD k 0)) (by kernel_rfl) (pok_then (pok_blk (pok_then (pok_then (pok_blk (pok_then (pok_blk (pok_then (pok_then (pok_blk (pok_then pok_body))))))))))) (by kernel_rfl) rfl (by kernel_rfl) (by kernel_rfl) (fun w hT => run_load1 (by kernel_rfl) (Row.cell (hT 4 _ rfl) (k) _ (ivals_get (by omega)))) ?_
    refine takes 0 [] [(16, 0), (17, 0)] 0 [17, 16, 15, 14, 11, 10, 9, 8, 7, 6, 13, 12, 5, 4, 3, 2, 1, 0] [(0, .slice A n cap), (1, .slice A' n' cap'), (2, iq how), (7, .slice Ax kx cx), (8, .slice Ay ky cy), (11, .slice Aq kq cq), (12, .slice Ar kr cr), (13, iq (i : Int)), (14, .slice Aw kw cw), (15, iq (k : Int)), (101, .slice (pB gw) kw cw), (102, .slice Aw kw cw), (103, iq (kw : Int)), (104, iq ((kw : Int) - 1)), (105, iq ((kw - 1 : Nat) : Int)), (106, .pointer (some ⟨gw, (kw - 1 : Nat) * 4, none⟩)), (107, .pointer (some ⟨gw, (kw - 1 : Nat) * 4 + 2, none⟩)), (108, iq ((rget (ownL (fun x => keepF (docK how) xs xs' x (YS.getD i 0)) (YS.getD i 0) (YS.getD (i + 1) 0) XS k) (kw - 1 : Nat)).x1)), (109, .slice (pB gx_) kx cx), (110, iq (k : Int)), (111, .pointer (some ⟨gx_, k, none⟩)), (112, iq (XS.getD k 0)), (113, .bool (((rget (ownL (fun x => keepF (docK how) xs xs' x (YS.getD i 0)) (YS.getD i 0) (YS.getD (i + 1) 0) XS k) (kw - 1 : Nat)).x1) == (XS.getD k 0))), (114, .bool (((rget (ownL (fun x => keepF (docK how) xs xs' x (YS.getD i 0)) (YS.getD i 0) (YS.getD (i + 1) 0) XS k) (kw - 1 : Nat)).x1) == (XS.getD k 0)))] (by kernel_rfl) (pok_then (pok_blk (pok_then (pok_then (pok_blk (pok_then (pok_blk (pok_then (pok_then (pok_blk (pok_then pok_body))))))))))) (by kernel_rfl) rfl rfl (by kernel_rfl) (by kernel_rfl) ?_
    refine drawn_done (by kernel_rfl) ?_
    refine then_normal ?_
    refine cont_split 114 (((rget (ownL (fun x => keepF (docK how) xs xs' x (YS.getD i 0)) (YS.getD i 0) (YS.getD (i + 1) 0) XS k) (kw - 1 : Nat)).x1) == (XS.getD k 0)) rfl (fun c43_ => ?_) (fun c43_ => ?_)
    ·
     refine cont_recast 113 (.bool (((rget (ownL (fun x => keepF (docK how) xs xs' x (YS.getD i 0)) (YS.getD i 0) (YS.getD (i + 1) 0) XS k) (kw - 1 : Nat)).x1) == (XS.getD k 0))) (.bool true) rfl (congrArg Value.bool c43_) ?_
     replace c43_ := eq_of_beqt c43_
     refine cont_true rfl ?_
     refine cont_region 12 rfl ?_
     refine bS [0, 0, 0, 0] 4 8 [(0, .slice A n cap), (1, .slice A' n' cap'), (2, iq how), (7, .slice Ax kx cx), (8, .slice Ay ky cy), (11, .slice Aq kq cq), (12, .slice Ar kr cr), (13, iq (i : Int)), (14, .slice Aw kw cw), (15, iq (k : Int)), (101, .slice (pB gw) kw cw), (102, .slice Aw kw cw), (103, iq (kw : Int)), (104, iq ((kw : Int) - 1)), (105, iq ((kw - 1 : Nat) : Int)), (106, .pointer (some ⟨gw, (kw - 1 : Nat) * 4, none⟩)), (107, .pointer (some ⟨gw, (kw - 1 : Nat) * 4 + 2, none⟩)), (108, iq ((rget (ownL (fun x => keepF (docK how) xs xs' x (YS.getD i 0)) (YS.getD i 0) (YS.getD (i + 1) 0) XS k) (kw - 1 : Nat)).x1)), (109, .slice (pB gx_) kx cx), (110, iq (k : Int)), (111, .pointer (some ⟨gx_, k, none⟩)), (112, iq (XS.getD k 0)), (113, .bool true), (115, .slice Aw kw cw), (118, iq (IntKind.i64.wrap ((kw : Int) - 1)))] ?_
     refine cont_recast 118 (iq (IntKind.i64.wrap ((kw : Int) - 1))) (iq ((kw - 1 : Nat) : Int)) rfl (by rw [show (((kw - 1 : Nat) : Int)) = (kw : Int) - 1 by omega]; exact wrapI (by omega) (by omega)) ?_
     refine bS [0, 0, 0] 7 5 [(0, .slice A n cap), (1, .slice A' n' cap'), (2, iq how), (7, .slice Ax kx cx), (8, .slice Ay ky cy), (11, .slice Aq kq cq), (12, .slice Ar kr cr), (13, iq (i : Int)), (14, .slice Aw kw cw), (15, iq (k : Int)), (101, .slice (pB gw) kw cw), (102, .slice Aw kw cw), (103, iq (kw : Int)), (104, iq ((kw : Int) - 1)), (105, iq ((kw - 1 : Nat) : Int)), (106, .pointer (some ⟨gw, (kw - 1 : Nat) * 4, none⟩)), (107, .pointer (some ⟨gw, (kw - 1 : Nat) * 4 + 2, none⟩)), (108, iq ((rget (ownL (fun x => keepF (docK how) xs xs' x (YS.getD i 0)) (YS.getD i 0) (YS.getD (i + 1) 0) XS k) (kw - 1 : Nat)).x1)), (109, .slice (pB gx_) kx cx), (110, iq (k : Int)), (111, .pointer (some ⟨gx_, k, none⟩)), (112, iq (XS.getD k 0)), (113, .bool true), (115, .slice Aw kw cw), (118, iq ((kw - 1 : Nat) : Int)), (119, .slice Ax kx cx), (121, iq (IntKind.i64.wrap ((k : Int) + 1)))] ?_
     refine cont_recast 121 (iq (IntKind.i64.wrap ((k : Int) + 1))) (iq ((k + 1 : Nat) : Int)) rfl (by rw [show (((k + 1 : Nat) : Int)) = (k : Int) + 1 by omega]; exact wrapI (by omega) (by omega)) ?_
     refine pl_step 8 4 rfl rfl ?_
     refine cont_recast 119 (.slice Ax kx cx) (.slice (pB gx_) kx cx) rfl (by rw [hr29_a (by omega)]) ?_
     refine sem_step 122 (Instr.indexAt 34 (.slice (pB gx_) kx cx) (iq ((k + 1 : Nat) : Int))) (.pointer (some ⟨gx_, (k + 1 : Nat), none⟩)) (by kernel_rfl) (fun w hT => run_indexAt (e := 3) (sz := 1) _ (by kernel_rfl) (by kernel_rfl) (by omega) (by omega) (by omega) w) ?_
     refine pl_step 9 3 rfl rfl ?_
     refine sem_step 123 (Instr.loadAt 3 (.pointer (some ⟨gx_, (k + 1 : Nat), none⟩))) (iq (XS.getD (k + 1 : Nat) 0)) (by kernel_rfl) (fun w hT => run_load1 (by kernel_rfl) (Row.cell (hT.ok 4 _ rfl) ((k + 1 : Nat)) _ (ivals_get (by omega)))) ?_
     refine pl_step 10 2 rfl rfl ?_
     refine cont_recast 115 (.slice Aw kw cw) (.slice (pB gw) kw cw) rfl (by rw [hr41_a (by omega)]) ?_
     refine sem_step 124 (Instr.indexAt 58 (.slice (pB gw) kw cw) (iq ((kw - 1 : Nat) : Int))) (.pointer (some ⟨gw, (kw - 1 : Nat) * 4, none⟩)) (by kernel_rfl) (fun w hT => run_indexAt (e := 53) (sz := 4) _ (by kernel_rfl) (by kernel_rfl) (by omega) (by omega) (by omega) w) ?_
     refine bS [0] 11 1 [(0, .slice A n cap), (1, .slice A' n' cap'), (2, iq how), (7, .slice Ax kx cx), (8, .slice Ay ky cy), (11, .slice Aq kq cq), (12, .slice Ar kr cr), (13, iq (i : Int)), (14, .slice Aw kw cw), (15, iq (k : Int)), (101, .slice (pB gw) kw cw), (102, .slice Aw kw cw), (103, iq (kw : Int)), (104, iq ((kw : Int) - 1)), (105, iq ((kw - 1 : Nat) : Int)), (106, .pointer (some ⟨gw, (kw - 1 : Nat) * 4, none⟩)), (107, .pointer (some ⟨gw, (kw - 1 : Nat) * 4 + 2, none⟩)), (108, iq ((rget (ownL (fun x => keepF (docK how) xs xs' x (YS.getD i 0)) (YS.getD i 0) (YS.getD (i + 1) 0) XS k) (kw - 1 : Nat)).x1)), (109, .slice (pB gx_) kx cx), (110, iq (k : Int)), (111, .pointer (some ⟨gx_, k, none⟩)), (112, iq (XS.getD k 0)), (113, .bool true), (123, iq (XS.getD (k + 1 : Nat) 0)), (125, .pointer (some ⟨gw, (kw - 1 : Nat) * 4 + 2, none⟩))] ?_
     refine pl_step 12 0 rfl rfl ?_
     refine sem_stepU (Instr.storeAt 3 (.pointer (some ⟨gw, (kw - 1 : Nat) * 4 + 2, none⟩)) (iq (XS.getD (k + 1 : Nat) 0))) (fun _ => [.gen (rowE (Aw) gw kw cw 53 4 (rvals ((ownL (fun x => keepF (docK how) xs xs' x (YS.getD i 0)) (YS.getD i 0) (YS.getD (i + 1) 0) XS k).set (kw - 1 : Nat) { rget (ownL (fun x => keepF (docK how) xs xs' x (YS.getD i 0)) (YS.getD i 0) (YS.getD (i + 1) 0) XS k) (kw - 1 : Nat) with x1 := XS.getD (k + 1 : Nat) 0 })) true), .gen (rowE (Aq) gq kq cq 53 4 (rvals ((mgG touchL (ownD how xs xs' XS) YS i).1)) true), .gen (rowE (Ar) gr kr cr 53 4 (rvals ((mgG touchL (ownD how xs xs' XS) YS i).2)) true), .gen (rowE (Ay) gy_ ky cy 3 1 (ivals .i64 YS) true), .gen (rowE (Ax) gx_ kx cx 3 1 (ivals .i64 XS) true), .gen (rdE (A) g o n 4 (rvals xs)), .gen (rdE (A') g' o' n' 4 (rvals xs'))]) (fun _ => True) (by kernel_rfl) (fun w hT => store_fieldR hT (i := 0) (J := (kw - 1 : Nat)) (k := 2) { rget (ownL (fun x => keepF (docK how) xs xs' x (YS.getD i 0)) (YS.getD i 0) (YS.getD (i + 1) 0) XS k) (kw - 1 : Nat) with x1 := XS.getD (k + 1 : Nat) 0 } rfl (by kernel_rfl) (by omega) (by decide) (by omega) rfl) (fun _ _ => ?_)
     refine cont_done ?_
     refine blk_normal ?_
     refine then_normal ?_
     refine cont_region 3 rfl ?_
     refine bS [0, 0] 2 1 [(0, .slice A n cap), (1, .slice A' n' cap'), (2, iq how), (7, .slice Ax kx cx), (8, .slice Ay ky cy), (11, .slice Aq kq cq), (12, .slice Ar kr cr), (13, iq (i : Int)), (14, .slice Aw kw cw), (72, iq (IntKind.i64.wrap ((k : Int) + 1))), (101, .slice (pB gw) kw cw), (102, .slice Aw kw cw), (103, iq (kw : Int)), (104, iq ((kw : Int) - 1)), (105, iq ((kw - 1 : Nat) : Int)), (106, .pointer (some ⟨gw, (kw - 1 : Nat) * 4, none⟩)), (107, .pointer (some ⟨gw, (kw - 1 : Nat) * 4 + 2, none⟩)), (108, iq ((rget (ownL (fun x => keepF (docK how) xs xs' x (YS.getD i 0)) (YS.getD i 0) (YS.getD (i + 1) 0) XS k) (kw - 1 : Nat)).x1)), (109, .slice (pB gx_) kx cx), (110, iq (k : Int)), (111, .pointer (some ⟨gx_, k, none⟩)), (112, iq (XS.getD k 0)), (113, .bool true)] ?_
     refine cont_recast 72 (iq (IntKind.i64.wrap ((k : Int) + 1))) (iq ((k + 1 : Nat) : Int)) rfl (by rw [show (((k + 1 : Nat) : Int)) = (k : Int) + 1 by omega]; exact wrapI (by omega) (by omega)) ?_
     refine bS [0] 3 0 [(0, .slice A n cap), (1, .slice A' n' cap'), (2, iq how), (7, .slice Ax kx cx), (8, .slice Ay ky cy), (11, .slice Aq kq cq), (12, .slice Ar kr cr), (13, iq (i : Int)), (14, .slice Aw kw cw), (15, iq ((k + 1 : Nat) : Int)), (101, .slice (pB gw) kw cw), (102, .slice Aw kw cw), (103, iq (kw : Int)), (104, iq ((kw : Int) - 1)), (105, iq ((kw - 1 : Nat) : Int)), (106, .pointer (some ⟨gw, (kw - 1 : Nat) * 4, none⟩)), (107, .pointer (some ⟨gw, (kw - 1 : Nat) * 4 + 2, none⟩)), (108, iq ((rget (ownL (fun x => keepF (docK how) xs xs' x (YS.getD i 0)) (YS.getD i 0) (YS.getD (i + 1) 0) XS k) (kw - 1 : Nat)).x1)), (109, .slice (pB gx_) kx cx), (110, iq (k : Int)), (111, .pointer (some ⟨gx_, k, none⟩)), (112, iq (XS.getD k 0)), (113, .bool true)] ?_
     refine cont_done ?_
     refine then_normal ?_
     refine cont_rowEqR 0 ((ownL (fun x => keepF (docK how) xs xs' x (YS.getD i 0)) (YS.getD i 0) (YS.getD (i + 1) 0) XS k).set (kw - 1 : Nat) { rget (ownL (fun x => keepF (docK how) xs xs' x (YS.getD i 0)) (YS.getD i 0) (YS.getD (i + 1) 0) XS k) (kw - 1 : Nat) with x1 := XS.getD (k + 1 : Nat) 0 }) (ownL (fun x => keepF (docK how) xs xs' x (YS.getD i 0)) (YS.getD i 0) (YS.getD (i + 1) 0) XS (k + 1)) rfl (ownL_put (f := (fun x => keepF (docK how) xs xs' x (YS.getD i 0))) hkeep_ (by omega) c43_) ?_
     refine cont_again (k + 1, kw, Aw, gw, cw) (show (k + 1) ≤ XS.length - 1 ∧ (kw) ≤ (k + 1) from ⟨by omega, by omega⟩) (show XS.length - 1 - (k + 1) < XS.length - 1 - k from by omega) (by kernel_rfl) (by kernel_rfl)
    refine cont_recast 113 (.bool (((rget (ownL (fun x => keepF (docK how) xs xs' x (YS.getD i 0)) (YS.getD i 0) (YS.getD (i + 1) 0) XS k) (kw - 1 : Nat)).x1) == (XS.getD k 0))) (.bool false) rfl (congrArg Value.bool c43_) ?_
    replace c43_ := ne_of_beqf c43_
    refine cont_false rfl ?_
    refine drawn_enter 23 [0] rfl (by kernel_rfl) ?_
    refine takes 0 [0] [(0, 0), (1, 0), (2, 0), (5, 0), (6, 0), (9, 0), (10, 0), (14, 0), (15, 0)] 14 [15, 14, 10, 9, 6, 5, 2, 1, 0] [(0, .slice A n cap), (1, .slice A' n' cap'), (2, iq how), (7, .slice Ax kx cx), (8, .slice Ay ky cy), (11, .slice Aq kq cq), (12, .slice Ar kr cr), (13, iq (i : Int)), (14, .slice Aw kw cw), (15, iq (k : Int)), (101, .slice (pB gw) kw cw), (102, .slice Aw kw cw), (103, iq (kw : Int)), (104, iq ((kw : Int) - 1)), (105, iq ((kw - 1 : Nat) : Int)), (106, .pointer (some ⟨gw, (kw - 1 : Nat) * 4, none⟩)), (107, .pointer (some ⟨gw, (kw - 1 : Nat) * 4 + 2, none⟩)), (108, iq ((rget (ownL (fun x => keepF (docK how) xs xs' x (YS.getD i 0)) (YS.getD i 0) (YS.getD (i + 1) 0) XS k) (kw - 1 : Nat)).x1)), (109, .slice (pB gx_) kx cx), (110, iq (k : Int)), (111, .pointer (some ⟨gx_, k, none⟩)), (112, iq (XS.getD k 0)), (113, .bool false), (126, .slice Aw kw cw), (127, .slice Ax kx cx), (128, iq (k : Int)), (131, .slice Ay ky cy), (132, iq (i : Int)), (135, .slice Ax kx cx), (136, iq (k : Int)), (140, .slice Ay ky cy), (141, iq (i : Int))] (by kernel_rfl) (pok_blk (pok_then (pok_then (pok_blk (pok_then (pok_blk (pok_then (pok_then (pok_blk (pok_then pok_body)))))))))) (by kernel_rfl) rfl rfl (by kernel_rfl) (by kernel_rfl) ?_
    refine cont_recast 127 (.slice Ax kx cx) (.slice (pB gx_) kx cx) rfl (by rw [hr29_a (by omega)]) ?_
    refine sem_take 0 [0] 3 13 129 (Instr.indexAt 34 (.slice (pB gx_) kx cx) (iq (k : Int))) (.pointer (some ⟨gx_, k, none⟩)) (by kernel_rfl) (pok_blk (pok_then (pok_then (pok_blk (pok_then (pok_blk (pok_then (pok_then (pok_blk (pok_then pok_body)))))))))) (by kernel_rfl) rfl (by kernel_rfl) (by kernel_rfl) (fun w hT => run_indexAt (e := 3) (sz := 1) _ (by kernel_rfl) (by kernel_rfl) (by omega) (by omega) (by omega) w) ?_
    refine sem_take 0 [0] 4 12 130 (Instr.loadAt 3 (.pointer (some ⟨gx_, k, none⟩))) (iq (XS.getD k 0)) (by kernel_rfl) (pok_blk (pok_then (pok_then (pok_blk (pok_then (pok_blk (pok_then (pok_then (pok_blk (pok_then pok_body)))))))))) (by kernel_rfl) rfl (by kernel_rfl) (by kernel_rfl) (fun w hT => run_load1 (by kernel_rfl) (Row.cell (hT 4 _ rfl) (k) _ (ivals_get (by omega)))) ?_
    refine cont_recast 131 (.slice Ay ky cy) (.slice (pB gy_) ky cy) rfl (by rw [hr30_a (by omega)]) ?_
    refine sem_take 0 [0] 7 11 133 (Instr.indexAt 34 (.slice (pB gy_) ky cy) (iq (i : Int))) (.pointer (some ⟨gy_, i, none⟩)) (by kernel_rfl) (pok_blk (pok_then (pok_then (pok_blk (pok_then (pok_blk (pok_then (pok_then (pok_blk (pok_then pok_body)))))))))) (by kernel_rfl) rfl (by kernel_rfl) (by kernel_rfl) (fun w hT => run_indexAt (e := 3) (sz := 1) _ (by kernel_rfl) (by kernel_rfl) (by omega) (by omega) (by omega) w) ?_
    refine sem_take 0 [0] 8 10 134 (Instr.loadAt 3 (.pointer (some ⟨gy_, i, none⟩))) (iq (YS.getD i 0)) (by kernel_rfl) (pok_blk (pok_then (pok_then (pok_blk (pok_then (pok_blk (pok_then (pok_then (pok_blk (pok_then pok_body)))))))))) (by kernel_rfl) rfl (by kernel_rfl) (by kernel_rfl) (fun w hT => run_load1 (by kernel_rfl) (Row.cell (hT 3 _ rfl) (i) _ (ivals_get (by omega)))) ?_
    refine takes 0 [0] [(11, 0)] 9 [11, 8, 7, 4, 3, 15, 14, 10, 9, 6, 5, 2, 1, 0] [(0, .slice A n cap), (1, .slice A' n' cap'), (2, iq how), (7, .slice Ax kx cx), (8, .slice Ay ky cy), (11, .slice Aq kq cq), (12, .slice Ar kr cr), (13, iq (i : Int)), (14, .slice Aw kw cw), (15, iq (k : Int)), (101, .slice (pB gw) kw cw), (102, .slice Aw kw cw), (103, iq (kw : Int)), (104, iq ((kw : Int) - 1)), (105, iq ((kw - 1 : Nat) : Int)), (106, .pointer (some ⟨gw, (kw - 1 : Nat) * 4, none⟩)), (107, .pointer (some ⟨gw, (kw - 1 : Nat) * 4 + 2, none⟩)), (108, iq ((rget (ownL (fun x => keepF (docK how) xs xs' x (YS.getD i 0)) (YS.getD i 0) (YS.getD (i + 1) 0) XS k) (kw - 1 : Nat)).x1)), (109, .slice (pB gx_) kx cx), (110, iq (k : Int)), (111, .pointer (some ⟨gx_, k, none⟩)), (112, iq (XS.getD k 0)), (113, .bool false), (126, .slice Aw kw cw), (130, iq (XS.getD k 0)), (134, iq (YS.getD i 0)), (135, .slice Ax kx cx), (137, iq (IntKind.i64.wrap ((k : Int) + 1))), (140, .slice Ay ky cy), (141, iq (i : Int))] (by kernel_rfl) (pok_blk (pok_then (pok_then (pok_blk (pok_then (pok_blk (pok_then (pok_then (pok_blk (pok_then pok_body)))))))))) (by kernel_rfl) rfl rfl (by kernel_rfl) (by kernel_rfl) ?_
    refine cont_recast 137 (iq (IntKind.i64.wrap ((k : Int) + 1))) (iq ((k + 1 : Nat) : Int)) rfl (by rw [show (((k + 1 : Nat) : Int)) = (k : Int) + 1 by omega]; exact wrapI (by omega) (by omega)) ?_
    refine cont_recast 135 (.slice Ax kx cx) (.slice (pB gx_) kx cx) rfl (by rw [hr29_a (by omega)]) ?_
    refine sem_take 0 [0] 12 8 138 (Instr.indexAt 34 (.slice (pB gx_) kx cx) (iq ((k + 1 : Nat) : Int))) (.pointer (some ⟨gx_, (k + 1 : Nat), none⟩)) (by kernel_rfl) (pok_blk (pok_then (pok_then (pok_blk (pok_then (pok_blk (pok_then (pok_then (pok_blk (pok_then pok_body)))))))))) (by kernel_rfl) rfl (by kernel_rfl) (by kernel_rfl) (fun w hT => run_indexAt (e := 3) (sz := 1) _ (by kernel_rfl) (by kernel_rfl) (by omega) (by omega) (by omega) w) ?_
    refine sem_take 0 [0] 13 7 139 (Instr.loadAt 3 (.pointer (some ⟨gx_, (k + 1 : Nat), none⟩))) (iq (XS.getD (k + 1 : Nat) 0)) (by kernel_rfl) (pok_blk (pok_then (pok_then (pok_blk (pok_then (pok_blk (pok_then (pok_then (pok_blk (pok_then pok_body)))))))))) (by kernel_rfl) rfl (by kernel_rfl) (by kernel_rfl) (fun w hT => run_load1 (by kernel_rfl) (Row.cell (hT 4 _ rfl) ((k + 1 : Nat)) _ (ivals_get (by omega)))) ?_
    refine takes 0 [0] [(16, 0)] 6 [16, 13, 12, 11, 8, 7, 4, 3, 15, 14, 10, 9, 6, 5, 2, 1, 0] [(0, .slice A n cap), (1, .slice A' n' cap'), (2, iq how), (7, .slice Ax kx cx), (8, .slice Ay ky cy), (11, .slice Aq kq cq), (12, .slice Ar kr cr), (13, iq (i : Int)), (14, .slice Aw kw cw), (15, iq (k : Int)), (101, .slice (pB gw) kw cw), (102, .slice Aw kw cw), (103, iq (kw : Int)), (104, iq ((kw : Int) - 1)), (105, iq ((kw - 1 : Nat) : Int)), (106, .pointer (some ⟨gw, (kw - 1 : Nat) * 4, none⟩)), (107, .pointer (some ⟨gw, (kw - 1 : Nat) * 4 + 2, none⟩)), (108, iq ((rget (ownL (fun x => keepF (docK how) xs xs' x (YS.getD i 0)) (YS.getD i 0) (YS.getD (i + 1) 0) XS k) (kw - 1 : Nat)).x1)), (109, .slice (pB gx_) kx cx), (110, iq (k : Int)), (111, .pointer (some ⟨gx_, k, none⟩)), (112, iq (XS.getD k 0)), (113, .bool false), (126, .slice Aw kw cw), (130, iq (XS.getD k 0)), (134, iq (YS.getD i 0)), (139, iq (XS.getD (k + 1 : Nat) 0)), (140, .slice Ay ky cy), (142, iq (IntKind.i64.wrap ((i : Int) + 1)))] (by kernel_rfl) (pok_blk (pok_then (pok_then (pok_blk (pok_then (pok_blk (pok_then (pok_then (pok_blk (pok_then pok_body)))))))))) (by kernel_rfl) rfl rfl (by kernel_rfl) (by kernel_rfl) ?_
    refine cont_recast 142 (iq (IntKind.i64.wrap ((i : Int) + 1))) (iq ((i + 1 : Nat) : Int)) rfl (by rw [show (((i + 1 : Nat) : Int)) = (i : Int) + 1 by omega]; exact wrapI (by omega) (by omega)) ?_
    refine cont_recast 140 (.slice Ay ky cy) (.slice (pB gy_) ky cy) rfl (by rw [hr30_a (by omega)]) ?_
    refine sem_take 0 [0] 17 5 143 (Instr.indexAt 34 (.slice (pB gy_) ky cy) (iq ((i + 1 : Nat) : Int))) (.pointer (some ⟨gy_, (i + 1 : Nat), none⟩)) (by kernel_rfl) (pok_blk (pok_then (pok_then (pok_blk (pok_then (pok_blk (pok_then (pok_then (pok_blk (pok_then pok_body)))))))))) (by kernel_rfl) rfl (by kernel_rfl) (by kernel_rfl) (fun w hT => run_indexAt (e := 3) (sz := 1) _ (by kernel_rfl) (by kernel_rfl) (by omega) (by omega) (by omega) w) ?_
    refine sem_take 0 [0] 18 4 144 (Instr.loadAt 3 (.pointer (some ⟨gy_, (i + 1 : Nat), none⟩))) (iq (YS.getD (i + 1 : Nat) 0)) (by kernel_rfl) (pok_blk (pok_then (pok_then (pok_blk (pok_then (pok_blk (pok_then (pok_then (pok_blk (pok_then pok_body)))))))))) (by kernel_rfl) rfl (by kernel_rfl) (by kernel_rfl) (fun w hT => run_load1 (by kernel_rfl) (Row.cell (hT 3 _ rfl) ((i + 1 : Nat)) _ (ivals_get (by omega)))) ?_
    refine takes 0 [0] [(19, 0)] 3 [19, 18, 17, 16, 13, 12, 11, 8, 7, 4, 3, 15, 14, 10, 9, 6, 5, 2, 1, 0] [(0, .slice A n cap), (1, .slice A' n' cap'), (2, iq how), (7, .slice Ax kx cx), (8, .slice Ay ky cy), (11, .slice Aq kq cq), (12, .slice Ar kr cr), (13, iq (i : Int)), (14, .slice Aw kw cw), (15, iq (k : Int)), (101, .slice (pB gw) kw cw), (102, .slice Aw kw cw), (103, iq (kw : Int)), (104, iq ((kw : Int) - 1)), (105, iq ((kw - 1 : Nat) : Int)), (106, .pointer (some ⟨gw, (kw - 1 : Nat) * 4, none⟩)), (107, .pointer (some ⟨gw, (kw - 1 : Nat) * 4 + 2, none⟩)), (108, iq ((rget (ownL (fun x => keepF (docK how) xs xs' x (YS.getD i 0)) (YS.getD i 0) (YS.getD (i + 1) 0) XS k) (kw - 1 : Nat)).x1)), (109, .slice (pB gx_) kx cx), (110, iq (k : Int)), (111, .pointer (some ⟨gx_, k, none⟩)), (112, iq (XS.getD k 0)), (113, .bool false), (126, .slice Aw kw cw), (145, .agg #[iq (XS.getD k 0), iq (YS.getD i 0), iq (XS.getD (k + 1 : Nat) 0), iq (YS.getD (i + 1 : Nat) 0)])] (by kernel_rfl) (pok_blk (pok_then (pok_then (pok_blk (pok_then (pok_blk (pok_then (pok_then (pok_blk (pok_then pok_body)))))))))) (by kernel_rfl) rfl rfl (by kernel_rfl) (by kernel_rfl) ?_
    refine drawn_one 20 2 rfl (by kernel_rfl) ?_
    refine one_step1 0 (fun b44 => [(0, .slice A n cap), (1, .slice A' n' cap'), (2, iq how), (7, .slice Ax kx cx), (8, .slice Ay ky cy), (11, .slice Aq kq cq), (12, .slice Ar kr cr), (13, iq (i : Int)), (14, .slice Aw kw cw), (15, iq (k : Int)), (101, .slice (pB gw) kw cw), (102, .slice Aw kw cw), (103, iq (kw : Int)), (104, iq ((kw : Int) - 1)), (105, iq ((kw - 1 : Nat) : Int)), (106, .pointer (some ⟨gw, (kw - 1 : Nat) * 4, none⟩)), (107, .pointer (some ⟨gw, (kw - 1 : Nat) * 4 + 2, none⟩)), (108, iq ((rget (ownL (fun x => keepF (docK how) xs xs' x (YS.getD i 0)) (YS.getD i 0) (YS.getD (i + 1) 0) XS k) (kw - 1 : Nat)).x1)), (109, .slice (pB gx_) kx cx), (110, iq (k : Int)), (111, .pointer (some ⟨gx_, k, none⟩)), (112, iq (XS.getD k 0)), (113, .bool false), (126, .slice Aw kw cw), (146, .slice (pB b44) 1 1)]) (fun b44 => [.cells b44 [iq (XS.getD k 0), iq (YS.getD i 0), iq (XS.getD (k + 1 : Nat) 0), iq (YS.getD (i + 1 : Nat) 0)] 53 true, .gen (rowE (Aw) gw kw cw 53 4 (rvals (ownL (fun x => keepF (docK how) xs xs' x (YS.getD i 0)) (YS.getD i 0) (YS.getD (i + 1) 0) XS k)) true), .gen (rowE (Aq) gq kq cq 53 4 (rvals ((mgG touchL (ownD how xs xs' XS) YS i).1)) true), .gen (rowE (Ar) gr kr cr 53 4 (rvals ((mgG touchL (ownD how xs xs' XS) YS i).2)) true), .gen (rowE (Ay) gy_ ky cy 3 1 (ivals .i64 YS) true), .gen (rowE (Ax) gx_ kx cx 3 1 (ivals .i64 XS) true), .gen (rdE (A) g o n 4 (rvals xs)), .gen (rdE (A') g' o' n' 4 (rvals xs'))]) (fun b44 => by kernel_rfl) (fun b44 => by kernel_rfl) (fun b44 => ?_)
    refine drawn_next 1 [0] (by kernel_rfl) ?_
    refine drawn_one 21 1 rfl (by kernel_rfl) ?_
    refine sem_stepW (α := Option Addr × Nat × Nat) 147 (Builtin.append_ #[58, 58] 58 #[.slice Aw kw cw, .slice (pB b44) 1 1]) (fun x_ => .slice x_.1 (kw + 1) x_.2.2) (fun x_ => [.cells b44 [iq (XS.getD k 0), iq (YS.getD i 0), iq (XS.getD (k + 1 : Nat) 0), iq (YS.getD (i + 1 : Nat) 0)] 53 true, .gen (rowE (x_.1) x_.2.1 (kw + 1) x_.2.2 53 4 (rvals ((ownL (fun x => keepF (docK how) xs xs' x (YS.getD i 0)) (YS.getD i 0) (YS.getD (i + 1) 0) XS k) ++ [(⟨XS.getD k 0, YS.getD i 0, XS.getD (k + 1 : Nat) 0, YS.getD (i + 1 : Nat) 0⟩ : Rect)])) true), .gen (rowE (Aq) gq kq cq 53 4 (rvals ((mgG touchL (ownD how xs xs' XS) YS i).1)) true), .gen (rowE (Ar) gr kr cr 53 4 (rvals ((mgG touchL (ownD how xs xs' XS) YS i).2)) true), .gen (rowE (Ay) gy_ ky cy 3 1 (ivals .i64 YS) true), .gen (rowE (Ax) gx_ kx cx 3 1 (ivals .i64 XS) true), .gen (rdE (A) g o n 4 (rvals xs)), .gen (rdE (A') g' o' n' 4 (rvals xs'))]) (fun _ => True) (by kernel_rfl) (fun w hT => append_own (n' := (kw + 1)) (z := .agg #[iq 0, iq 0, iq 0, iq 0]) hT (i := 1) (bytes := 32) rfl (by kernel_rfl) (by kernel_rfl) rfl (by decide) (by decide) (Rd.ofCells (vals := rvals [(⟨XS.getD k 0, YS.getD i 0, XS.getD (k + 1 : Nat) 0, YS.getD (i + 1 : Nat) 0⟩ : Rect)]) (hT.ok 0 _ rfl) rfl rfl) (rvals_one [(⟨XS.getD k 0, YS.getD i 0, XS.getD (k + 1 : Nat) 0, YS.getD (i + 1 : Nat) 0⟩ : Rect)]) (by omega) (rvals_append (ownL (fun x => keepF (docK how) xs xs' x (YS.getD i 0)) (YS.getD i 0) (YS.getD (i + 1) 0) XS k) [(⟨XS.getD k 0, YS.getD i 0, XS.getD (k + 1 : Nat) 0, YS.getD (i + 1 : Nat) 0⟩ : Rect)]) rfl) ?_
    rintro ⟨A45, g45, cp45⟩ -
    refine cont_norm [(0, .slice A n cap), (1, .slice A' n' cap'), (2, iq how), (7, .slice Ax kx cx), (8, .slice Ay ky cy), (11, .slice Aq kq cq), (12, .slice Ar kr cr), (13, iq (i : Int)), (14, .slice Aw kw cw), (15, iq (k : Int)), (101, .slice (pB gw) kw cw), (102, .slice Aw kw cw), (103, iq (kw : Int)), (104, iq ((kw : Int) - 1)), (105, iq ((kw - 1 : Nat) : Int)), (106, .pointer (some ⟨gw, (kw - 1 : Nat) * 4, none⟩)), (107, .pointer (some ⟨gw, (kw - 1 : Nat) * 4 + 2, none⟩)), (108, iq ((rget (ownL (fun x => keepF (docK how) xs xs' x (YS.getD i 0)) (YS.getD i 0) (YS.getD (i + 1) 0) XS k) (kw - 1 : Nat)).x1)), (109, .slice (pB gx_) kx cx), (110, iq (k : Int)), (111, .pointer (some ⟨gx_, k, none⟩)), (112, iq (XS.getD k 0)), (113, .bool false), (126, .slice Aw kw cw), (146, .slice (pB b44) 1 1), (147, .slice A45 (kw + 1) cp45)] [.cells b44 [iq (XS.getD k 0), iq (YS.getD i 0), iq (XS.getD (k + 1 : Nat) 0), iq (YS.getD (i + 1 : Nat) 0)] 53 true, .gen (rowE (A45) g45 (kw + 1) cp45 53 4 (rvals ((ownL (fun x => keepF (docK how) xs xs' x (YS.getD i 0)) (YS.getD i 0) (YS.getD (i + 1) 0) XS k) ++ [(⟨XS.getD k 0, YS.getD i 0, XS.getD (k + 1 : Nat) 0, YS.getD (i + 1 : Nat) 0⟩ : Rect)])) true), .gen (rowE (Aq) gq kq cq 53 4 (rvals ((mgG touchL (ownD how xs xs' XS) YS i).1)) true), .gen (rowE (Ar) gr kr cr 53 4 (rvals ((mgG touchL (ownD how xs xs' XS) YS i).2)) true), .gen (rowE (Ay) gy_ ky cy 3 1 (ivals .i64 YS) true), .gen (rowE (Ax) gx_ kx cx 3 1 (ivals .i64 XS) true), .gen (rdE (A) g o n 4 (rvals xs)), .gen (rdE (A') g' o' n' 4 (rvals xs'))] (by kernel_rfl) rfl ?_
    refine cont_fact (F := (0 < (kw + 1) → (A45 : Option Addr) = pB g45) ∧ ((ownL (fun x => keepF (docK how) xs xs' x (YS.getD i 0)) (YS.getD i 0) (YS.getD (i + 1) 0) XS k) ++ [(⟨XS.getD k 0, YS.getD i 0, XS.getD (k + 1 : Nat) 0, YS.getD (i + 1 : Nat) 0⟩ : Rect)]).length = (kw + 1) ∧ (kw + 1) ≤ cp45 ∧ cp45 ≤ maxLen) (fun w hT => Row.factsR (hT.ok 1 _ rfl)) (fun hr46_ => ?_)
    obtain ⟨hr46_a, hr46_l, hr46_c, hr46_m⟩ := hr46_
    unfold maxLen at hr46_m
    refine drawn_next 1 [0] (by kernel_rfl) ?_
    refine takes 1 [0] [(22, 0)] 0 [22, 21, 20, 19, 18, 17, 16, 13, 12, 11, 8, 7, 4, 3, 15, 14, 10, 9, 6, 5, 2, 1, 0] [(0, .slice A n cap), (1, .slice A' n' cap'), (2, iq how), (7, .slice Ax kx cx), (8, .slice Ay ky cy), (11, .slice Aq kq cq), (12, .slice Ar kr cr), (13, iq (i : Int)), (14, .slice A45 (kw + 1) cp45), (15, iq (k : Int)), (101, .slice (pB gw) kw cw), (102, .slice Aw kw cw), (103, iq (kw : Int)), (104, iq ((kw : Int) - 1)), (105, iq ((kw - 1 : Nat) : Int)), (106, .pointer (some ⟨gw, (kw - 1 : Nat) * 4, none⟩)), (107, .pointer (some ⟨gw, (kw - 1 : Nat) * 4 + 2, none⟩)), (108, iq ((rget (ownL (fun x => keepF (docK how) xs xs' x (YS.getD i 0)) (YS.getD i 0) (YS.getD (i + 1) 0) XS k) (kw - 1 : Nat)).x1)), (109, .slice (pB gx_) kx cx), (110, iq (k : Int)), (111, .pointer (some ⟨gx_, k, none⟩)), (112, iq (XS.getD k 0)), (113, .bool false)] (by kernel_rfl) (pok_blk (pok_then (pok_then (pok_blk (pok_then (pok_blk (pok_then (pok_then (pok_blk (pok_then pok_body)))))))))) (by kernel_rfl) rfl rfl (by kernel_rfl) (by kernel_rfl) ?_
    refine drawn_done (by kernel_rfl) ?_
    refine blk_normal ?_
    refine then_normal ?_
    refine cont_region 3 rfl ?_
    refine bS [0, 0] 2 1 [(0, .slice A n cap), (1, .slice A' n' cap'), (2, iq how), (7, .slice Ax kx cx), (8, .slice Ay ky cy), (11, .slice Aq kq cq), (12, .slice Ar kr cr), (13, iq (i : Int)), (14, .slice A45 (kw + 1) cp45), (72, iq (IntKind.i64.wrap ((k : Int) + 1))), (101, .slice (pB gw) kw cw), (102, .slice Aw kw cw), (103, iq (kw : Int)), (104, iq ((kw : Int) - 1)), (105, iq ((kw - 1 : Nat) : Int)), (106, .pointer (some ⟨gw, (kw - 1 : Nat) * 4, none⟩)), (107, .pointer (some ⟨gw, (kw - 1 : Nat) * 4 + 2, none⟩)), (108, iq ((rget (ownL (fun x => keepF (docK how) xs xs' x (YS.getD i 0)) (YS.getD i 0) (YS.getD (i + 1) 0) XS k) (kw - 1 : Nat)).x1)), (109, .slice (pB gx_) kx cx), (110, iq (k : Int)), (111, .pointer (some ⟨gx_, k, none⟩)), (112, iq (XS.getD k 0)), (113, .bool false)] ?_
    refine cont_recast 72 (iq (IntKind.i64.wrap ((k : Int) + 1))) (iq ((k + 1 : Nat) : Int)) rfl (by rw [show (((k + 1 : Nat) : Int)) = (k : Int) + 1 by omega]; exact wrapI (by omega) (by omega)) ?_
    refine cont_forget 0 rfl ?_
    refine bS [0] 3 0 [(0, .slice A n cap), (1, .slice A' n' cap'), (2, iq how), (7, .slice Ax kx cx), (8, .slice Ay ky cy), (11, .slice Aq kq cq), (12, .slice Ar kr cr), (13, iq (i : Int)), (14, .slice A45 (kw + 1) cp45), (15, iq ((k + 1 : Nat) : Int)), (101, .slice (pB gw) kw cw), (102, .slice Aw kw cw), (103, iq (kw : Int)), (104, iq ((kw : Int) - 1)), (105, iq ((kw - 1 : Nat) : Int)), (106, .pointer (some ⟨gw, (kw - 1 : Nat) * 4, none⟩)), (107, .pointer (some ⟨gw, (kw - 1 : Nat) * 4 + 2, none⟩)), (108, iq ((rget (ownL (fun x => keepF (docK how) xs xs' x (YS.getD i 0)) (YS.getD i 0) (YS.getD (i + 1) 0) XS k) (kw - 1 : Nat)).x1)), (109, .slice (pB gx_) kx cx), (110, iq (k : Int)), (111, .pointer (some ⟨gx_, k, none⟩)), (112, iq (XS.getD k 0)), (113, .bool false)] ?_
    refine cont_done ?_
    refine then_normal ?_
    refine cont_rowEqR 0 ((ownL (fun x => keepF (docK how) xs xs' x (YS.getD i 0)) (YS.getD i 0) (YS.getD (i + 1) 0) XS k) ++ [(⟨XS.getD k 0, YS.getD i 0, XS.getD (k + 1 : Nat) 0, YS.getD (i + 1 : Nat) 0⟩ : Rect)]) (ownL (fun x => keepF (docK how) xs xs' x (YS.getD i 0)) (YS.getD i 0) (YS.getD (i + 1) 0) XS (k + 1)) rfl (ownL_new (f := (fun x => keepF (docK how) xs xs' x (YS.getD i 0))) hkeep_ (fun J hJ he_ => by have hJ2 : J = (kw - 1 : Nat) := (by omega); subst hJ2; exact c43_ he_)) ?_
    refine cont_again (k + 1, (kw + 1), A45, g45, cp45) (show (k + 1) ≤ XS.length - 1 ∧ ((kw + 1)) ≤ (k + 1) from ⟨by omega, by omega⟩) (show XS.length - 1 - (k + 1) < XS.length - 1 - k from by omega) (by kernel_rfl) (by kernel_rfl)
   replace c42_ := of_decide_eq_false c42_
   refine takes 0 [] [(4, 0), (5, 0), (12, 0), (13, 0), (6, 0), (14, 0), (7, 0), (15, 0), (8, 0), (9, 0), (10, 0), (11, 0), (16, 0), (17, 0)] 0 [17, 16, 11, 10, 9, 8, 15, 7, 14, 6, 13, 12, 5, 4, 3, 2, 1, 0] [(0, .slice A n cap), (1, .slice A' n' cap'), (2, iq how), (7, .slice Ax kx cx), (8, .slice Ay ky cy), (11, .slice Aq kq cq), (12, .slice Ar kr cr), (13, iq (i : Int)), (14, .slice Aw kw cw), (15, iq (k : Int)), (101, undef), (102, undef), (103, undef), (104, undef), (105, undef), (106, undef), (107, undef), (108, undef), (109, undef), (110, undef), (111, undef), (112, undef), (113, undef), (114, .bool false)] (by kernel_rfl) (pok_then (pok_blk (pok_then (pok_then (pok_blk (pok_then (pok_blk (pok_then (pok_then (pok_blk (pok_then pok_body))))))))))) (by kernel_rfl) rfl rfl (by kernel_rfl) (by kernel_rfl) ?_
   refine drawn_done (by kernel_rfl) ?_
   refine then_normal ?_
   refine cont_false rfl ?_
   refine drawn_enter 23 [0] rfl (by kernel_rfl) ?_
   refine takes 0 [0] [(0, 0), (1, 0), (2, 0), (5, 0), (6, 0), (9, 0), (10, 0), (14, 0), (15, 0)] 14 [15, 14, 10, 9, 6, 5, 2, 1, 0] [(0, .slice A n cap), (1, .slice A' n' cap'), (2, iq how), (7, .slice Ax kx cx), (8, .slice Ay ky cy), (11, .slice Aq kq cq), (12, .slice Ar kr cr), (13, iq (i : Int)), (14, .slice Aw kw cw), (15, iq (k : Int)), (101, undef), (102, undef), (103, undef), (104, undef), (105, undef), (106, undef), (107, undef), (108, undef), (109, undef), (110, undef), (111, undef), (112, undef), (113, undef), (126, .slice Aw kw cw), (127, .slice Ax kx cx), (128, iq (k : Int)), (131, .slice Ay ky cy), (132, iq (i : Int)), (135, .slice Ax kx cx), (136, iq (k : Int)), (140, .slice Ay ky cy), (141, iq (i : Int))] (by kernel_rfl) (pok_blk (pok_then (pok_then (pok_blk (pok_then (pok_blk (pok_then (pok_then (pok_blk (pok_then pok_body)))))))))) (by kernel_rfl) rfl rfl (by kernel_rfl) (by kernel_rfl) ?_
   refine cont_recast 127 (.slice Ax kx cx) (.slice (pB gx_) kx cx) rfl (by rw [hr29_a (by omega)]) ?_
   refine sem_take 0 [0] 3 13 129 (Instr.indexAt 34 (.slice (pB gx_) kx cx) (iq (k : Int))) (.pointer (some ⟨gx_, k, none⟩)) (by kernel_rfl) (pok_blk (pok_then (pok_then (pok_blk (pok_then (pok_blk (pok_then (pok_then (pok_blk (pok_then pok_body)))))))))) (by kernel_rfl) rfl (by kernel_rfl) (by kernel_rfl) (fun w hT => run_indexAt (e := 3) (sz := 1) _ (by kernel_rfl) (by kernel_rfl) (by omega) (by omega) (by omega) w) ?_
   refine sem_take 0 [0] 4 12 130 (Instr.loadAt 3 (.pointer (some ⟨gx_, k, none⟩))) (iq (XS.getD k 0)) (by kernel_rfl) (pok_blk (pok_then (pok_then (pok_blk (pok_then (pok_blk (pok_then (pok_then (pok_blk (pok_then pok_body)))))))))) (by kernel_rfl) rfl (by kernel_rfl) (by kernel_rfl) (fun w hT => run_load1 (by kernel_rfl) (Row.cell (hT 4 _ rfl) (k) _ (ivals_get (by omega)))) ?_
   refine cont_recast 131 (.slice Ay ky cy) (.slice (pB gy_) ky cy) rfl (by rw [hr30_a (by omega)]) ?_
   refine sem_take 0 [0] 7 11 133 (Instr.indexAt 34 (.slice (pB gy_) ky cy) (iq (i : Int))) (.pointer (some ⟨gy_, i, none⟩)) (by kernel_rfl) (pok_blk (pok_then (pok_then (pok_blk (pok_then (pok_blk (pok_then (pok_then (pok_blk (pok_then pok_body)))))))))) (by kernel_rfl) rfl (by kernel_rfl) (by kernel_rfl) (fun w hT => run_indexAt (e := 3) (sz := 1) _ (by kernel_rfl) (by kernel_rfl) (by omega) (by omega) (by omega) w) ?_
   refine sem_take 0 [0] 8 10 134 (Instr.loadAt 3 (.pointer (some ⟨gy_, i, none⟩))) (iq (YS.getD i 0)) (by kernel_rfl) (pok_blk (pok_then (pok_then (pok_blk (pok_then (pok_blk (pok_then (pok_then (pok_blk (pok_then pok_body)))))))))) (by kernel_rfl) rfl (by kernel_rfl) (by kernel_rfl) (fun w hT => run_load1 (by kernel_rfl) (Row.cell (hT 3 _ rfl) (i) _ (ivals_get (by omega)))) ?_
   refine takes 0 [0] [(11, 0)] 9 [11, 8, 7, 4, 3, 15, 14, 10, 9, 6, 5, 2, 1, 0] [(0, .slice A n cap), (1, .slice A' n' cap'), (2, iq how), (7, .slice Ax kx cx), (8, .slice Ay ky cy), (11, .slice Aq kq cq), (12, .slice Ar kr cr), (13, iq (i : Int)), (14, .slice Aw kw cw), (15, iq (k : Int)), (101, undef), (102, undef), (103, undef), (104, undef), (105, undef), (106, undef), (107, undef), (108, undef), (109, undef), (110, undef), (111, undef), (112, undef), (113, undef), (126, .slice Aw kw cw), (130, iq (XS.getD k 0)), (134, iq (YS.getD i 0)), (135, .slice Ax kx cx), (137, iq (IntKind.i64.wrap ((k : Int) + 1))), (140, .slice Ay ky cy), (141, iq (i : Int))] (by kernel_rfl) (pok_blk (pok_then (pok_then (pok_blk (pok_then (pok_blk (pok_then (pok_then (pok_blk (pok_then pok_body)))))))))) (by kernel_rfl) rfl rfl (by kernel_rfl) (by kernel_rfl) ?_
   refine cont_recast 137 (iq (IntKind.i64.wrap ((k : Int) + 1))) (iq ((k + 1 : Nat) : Int)) rfl (by rw [show (((k + 1 : Nat) : Int)) = (k : Int) + 1 by omega]; exact wrapI (by omega) (by omega)) ?_
   refine cont_recast 135 (.slice Ax kx cx) (.slice (pB gx_) kx cx) rfl (by rw [hr29_a (by omega)]) ?_
   refine sem_take 0 [0] 12 8 138 (Instr.indexAt 34 (.slice (pB gx_) kx cx) (iq ((k + 1 : Nat) : Int))) (.pointer (some ⟨gx_, (k + 1 : Nat), none⟩)) (by kernel_rfl) (pok_blk (pok_then (pok_then (pok_blk (pok_then (pok_blk (pok_then (pok_then (pok_blk (pok_then pok_body)))))))))) (by kernel_rfl) rfl (by kernel_rfl) (by kernel_rfl) (fun w hT => run_indexAt (e := 3) (sz := 1) _ (by kernel_rfl) (by kernel_rfl) (by omega) (by omega) (by omega) w) ?_
   refine sem_take 0 [0] 13 7 139 (Instr.loadAt 3 (.pointer (some ⟨gx_, (k + 1 : Nat), none⟩))) (iq (XS.getD (k + 1 : Nat) 0)) (by kernel_rfl) (pok_blk (pok_then (pok_then (pok_blk (pok_then (pok_blk (pok_then (pok_then (pok_blk (pok_then pok_body)))))))))) (by kernel_rfl) rfl (by kernel_rfl) (by kernel_rfl) (fun w hT => run_load1 (by kernel_rfl) (Row.cell (hT 4 _ rfl) ((k + 1 : Nat)) _ (ivals_get (by omega)))) ?_
   refine takes 0 [0] [(16, 0)] 6 [16, 13, 12, 11, 8, 7, 4, 3, 15, 14, 10, 9, 6, 5, 2, 1, 0] [(0, .slice A n cap), (1, .slice A' n' cap'), (2, iq how), (7, .slice Ax kx cx), (8, .slice Ay ky cy), (11, .slice Aq kq cq), (12, .slice Ar kr cr), (13, iq (i : Int)), (14, .slice Aw kw cw), (15, iq (k : Int)), (101, undef), (102, undef), (103, undef), (104, undef), (105, undef), (106, undef), (107, undef), (108, undef), (109, undef), (110, undef), (111, undef), (112, undef), (113, undef), (126, .slice Aw kw cw), (130, iq (XS.getD k 0)), (134, iq (YS.getD i 0)), (139, iq (XS.getD (k + 1 : Nat) 0)), (140, .slice Ay ky cy), (142, iq (IntKind.i64.wrap ((i : Int) + 1)))] (by kernel_rfl) (pok_blk (pok_then (pok_then (pok_blk (pok_then (pok_blk (pok_then (pok_then (pok_blk (pok_then pok_body)))))))))) (by kernel_rfl) rfl rfl (by kernel_rfl) (by kernel_rfl) ?_
   refine cont_recast 142 (iq (IntKind.i64.wrap ((i : Int) + 1))) (iq ((i + 1 : Nat) : Int)) rfl (by rw [show (((i + 1 : Nat) : Int)) = (i : Int) + 1 by omega]; exact wrapI (by omega) (by omega)) ?_
   refine cont_recast 140 (.slice Ay ky cy) (.slice (pB gy_) ky cy) rfl (by rw [hr30_a (by omega)]) ?_
   refine sem_take 0 [0] 17 5 143 (Instr.indexAt 34 (.slice (pB gy_) ky cy) (iq ((i + 1 : Nat) : Int))) (.pointer (some ⟨gy_, (i + 1 : Nat), none⟩)) (by kernel_rfl) (pok_blk (pok_then (pok_then (pok_blk (pok_then (pok_blk (pok_then (pok_then (pok_blk (pok_then pok_body)))))))))) (by kernel_rfl) rfl (by kernel_rfl) (by kernel_rfl) (fun w hT => run_indexAt (e := 3) (sz := 1) _ (by kernel_rfl) (by kernel_rfl) (by omega) (by omega) (by omega) w) ?_
   refine sem_take 0 [0] 18 4 144 (Instr.loadAt 3 (.pointer (some ⟨gy_, (i + 1 : Nat), none⟩))) (iq (YS.getD (i + 1 : Nat) 0)) (by kernel_rfl) (pok_blk (pok_then (pok_then (pok_blk (pok_then (pok_blk (pok_then (pok_then (pok_blk (pok_then pok_body)))))))))) (by kernel_rfl) rfl (by kernel_rfl) (by kernel_rfl) (fun w hT => run_load1 (by kernel_rfl) (Row.cell (hT 3 _ rfl) ((i + 1 : Nat)) _ (ivals_get (by omega)))) ?_
   refine takes 0 [0] [(19, 0)] 3 [19, 18, 17, 16, 13, 12, 11, 8, 7, 4, 3, 15, 14, 10, 9, 6, 5, 2, 1, 0] [(0, .slice A n cap), (1, .slice A' n' cap'), (2, iq how), (7, .slice Ax kx cx), (8, .slice Ay ky cy), (11, .slice Aq kq cq), (12, .slice Ar kr cr), (13, iq (i : Int)), (14, .slice Aw kw cw), (15, iq (k : Int)), (101, undef), (102, undef), (103, undef), (104, undef), (105, undef), (106, undef), (107, undef), (108, undef), (109, undef), (110, undef), (111, undef), (112, undef), (113, undef), (126, .slice Aw kw cw), (145, .agg #[iq (XS.getD k 0), iq (YS.getD i 0), iq (XS.getD (k + 1 : Nat) 0), iq (YS.getD (i + 1 : Nat) 0)])] (by kernel_rfl) (pok_blk (pok_then (pok_then (pok_blk (pok_then (pok_blk (pok_then (pok_then (pok_blk (pok_then pok_body)))))))))) (by kernel_rfl) rfl rfl (by kernel_rfl) (by kernel_rfl) ?_
   refine drawn_one 20 2 rfl (by kernel_rfl) ?_
   refine one_step1 0 (fun b47 => [(0, .slice A n cap), (1, .slice A' n' cap'), (2, iq how), (7, .slice Ax kx cx), (8, .slice Ay ky cy), (11, .slice Aq kq cq), (12, .slice Ar kr cr), (13, iq (i : Int)), (14, .slice Aw kw cw), (15, iq (k : Int)), (101, undef), (102, undef), (103, undef), (104, undef), (105, undef), (106, undef), (107, undef), (108, undef), (109, undef), (110, undef), (111, undef), (112, undef), (113, undef), (126, .slice Aw kw cw), (146, .slice (pB b47) 1 1)]) (fun b47 => [.cells b47 [iq (XS.getD k 0), iq (YS.getD i 0), iq (XS.getD (k + 1 : Nat) 0), iq (YS.getD (i + 1 : Nat) 0)] 53 true, .gen (rowE (Aw) gw kw cw 53 4 (rvals (ownL (fun x => keepF (docK how) xs xs' x (YS.getD i 0)) (YS.getD i 0) (YS.getD (i + 1) 0) XS k)) true), .gen (rowE (Aq) gq kq cq 53 4 (rvals ((mgG touchL (ownD how xs xs' XS) YS i).1)) true), .gen (rowE (Ar) gr kr cr 53 4 (rvals ((mgG touchL (ownD how xs xs' XS) YS i).2)) true), .gen (rowE (Ay) gy_ ky cy 3 1 (ivals .i64 YS) true), .gen (rowE (Ax) gx_ kx cx 3 1 (ivals .i64 XS) true), .gen (rdE (A) g o n 4 (rvals xs)), .gen (rdE (A') g' o' n' 4 (rvals xs'))]) (fun b47 => by kernel_rfl) (fun b47 => by kernel_rfl) (fun b47 => ?_)
   refine drawn_next 1 [0] (by kernel_rfl) ?_
   refine drawn_one 21 1 rfl (by kernel_rfl) ?_
   refine sem_stepW (α := Option Addr × Nat × Nat) 147 (Builtin.append_ #[58, 58] 58 #[.slice Aw kw cw, .slice (pB b47) 1 1]) (fun x_ => .slice x_.1 (kw + 1) x_.2.2) (fun x_ => [.cells b47 [iq (XS.getD k 0), iq (YS.getD i 0), iq (XS.getD (k + 1 : Nat) 0), iq (YS.getD (i + 1 : Nat) 0)] 53 true, .gen (rowE (x_.1) x_.2.1 (kw + 1) x_.2.2 53 4 (rvals ((ownL (fun x => keepF (docK how) xs xs' x (YS.getD i 0)) (YS.getD i 0) (YS.getD (i + 1) 0) XS k) ++ [(⟨XS.getD k 0, YS.getD i 0, XS.getD (k + 1 : Nat) 0, YS.getD (i + 1 : Nat) 0⟩ : Rect)])) true), .gen (rowE (Aq) gq kq cq 53 4 (rvals ((mgG touchL (ownD how xs xs' XS) YS i).1)) true), .gen (rowE (Ar) gr kr cr 53 4 (rvals ((mgG touchL (ownD how xs xs' XS) YS i).2)) true), .gen (rowE (Ay) gy_ ky cy 3 1 (ivals .i64 YS) true), .gen (rowE (Ax) gx_ kx cx 3 1 (ivals .i64 XS) true), .gen (rdE (A) g o n 4 (rvals xs)), .gen (rdE (A') g' o' n' 4 (rvals xs'))]) (fun _ => True) (by kernel_rfl) (fun w hT => append_own (n' := (kw + 1)) (z := .agg #[iq 0, iq 0, iq 0, iq 0]) hT (i := 1) (bytes := 32) rfl (by kernel_rfl) (by kernel_rfl) rfl (by decide) (by decide) (Rd.ofCells (vals := rvals [(⟨XS.getD k 0, YS.getD i 0, XS.getD (k + 1 : Nat) 0, YS.getD (i + 1 : Nat) 0⟩ : Rect)]) (hT.ok 0 _ rfl) rfl rfl) (rvals_one [(⟨XS.getD k 0, YS.getD i 0, XS.getD (k + 1 : Nat) 0, YS.getD (i + 1 : Nat) 0⟩ : Rect)]) (by omega) (rvals_append (ownL (fun x => keepF (docK how) xs xs' x (YS.getD i 0)) (YS.getD i 0) (YS.getD (i + 1) 0) XS k) [(⟨XS.getD k 0, YS.getD i 0, XS.getD (k + 1 : Nat) 0, YS.getD (i + 1 : Nat) 0⟩ : Rect)]) rfl) ?_
   rintro ⟨A48, g48, cp48⟩ -
   refine cont_norm [(0, .slice A n cap), (1, .slice A' n' cap'), (2, iq how), (7, .slice Ax kx cx), (8, .slice Ay ky cy), (11, .slice Aq kq cq), (12, .slice Ar kr cr), (13, iq (i : Int)), (14, .slice Aw kw cw), (15, iq (k : Int)), (101, undef), (102, undef), (103, undef), (104, undef), (105, undef), (106, undef), (107, undef), (108, undef), (109, undef), (110, undef), (111, undef), (112, undef), (113, undef), (126, .slice Aw kw cw), (146, .slice (pB b47) 1 1), (147, .slice A48 (kw + 1) cp48)] [.cells b47 [iq (XS.getD k 0), iq (YS.getD i 0), iq (XS.getD (k + 1 : Nat) 0), iq (YS.getD (i + 1 : Nat) 0)] 53 true, .gen (rowE (A48) g48 (kw + 1) cp48 53 4 (rvals ((ownL (fun x => keepF (docK how) xs xs' x (YS.getD i 0)) (YS.getD i 0) (YS.getD (i + 1) 0) XS k) ++ [(⟨XS.getD k 0, YS.getD i 0, XS.getD (k + 1 : Nat) 0, YS.getD (i + 1 : Nat) 0⟩ : Rect)])) true), .gen (rowE (Aq) gq kq cq 53 4 (rvals ((mgG touchL (ownD how xs xs' XS) YS i).1)) true), .gen (rowE (Ar) gr kr cr 53 4 (rvals ((mgG touchL (ownD how xs xs' XS) YS i).2)) true), .gen (rowE (Ay) gy_ ky cy 3 1 (ivals .i64 YS) true), .gen (rowE (Ax) gx_ kx cx 3 1 (ivals .i64 XS) true), .gen (rdE (A) g o n 4 (rvals xs)), .gen (rdE (A') g' o' n' 4 (rvals xs'))] (by kernel_rfl) rfl ?_
   refine cont_fact (F := (0 < (kw + 1) → (A48 : Option Addr) = pB g48) ∧ ((ownL (fun x => keepF (docK how) xs xs' x (YS.getD i 0)) (YS.getD i 0) (YS.getD (i + 1) 0) XS k) ++ [(⟨XS.getD k 0, YS.getD i 0, XS.getD (k + 1 : Nat) 0, YS.getD (i + 1 : Nat) 0⟩ : Rect)]).length = (kw + 1) ∧ (kw + 1) ≤ cp48 ∧ cp48 ≤ maxLen) (fun w hT => Row.factsR (hT.ok 1 _ rfl)) (fun hr49_ => ?_)
   obtain ⟨hr49_a, hr49_l, hr49_c, hr49_m⟩ := hr49_
   unfold maxLen at hr49_m
   refine drawn_next 1 [0] (by kernel_rfl) ?_
   refine takes 1 [0] [(22, 0)] 0 [22, 21, 20, 19, 18, 17, 16, 13, 12, 11, 8, 7, 4, 3, 15, 14, 10, 9, 6, 5, 2, 1, 0] [(0, .slice A n cap), (1, .slice A' n' cap'), (2, iq how), (7, .slice Ax kx cx), (8, .slice Ay ky cy), (11, .slice Aq kq cq), (12, .slice Ar kr cr), (13, iq (i : Int)), (14, .slice A48 (kw + 1) cp48), (15, iq (k : Int)), (101, undef), (102, undef), (103, undef), (104, undef), (105, undef), (106, undef), (107, undef), (108, undef), (109, undef), (110, undef), (111, undef), (112, undef), (113, undef)] (by kernel_rfl) (pok_blk (pok_then (pok_then (pok_blk (pok_then (pok_blk (pok_then (pok_then (pok_blk (pok_then pok_body)))))))))) (by kernel_rfl) rfl rfl (by kernel_rfl) (by kernel_rfl) ?_
   refine drawn_done (by kernel_rfl) ?_
   refine blk_normal ?_
   refine then_normal ?_
   refine cont_region 3 rfl ?_
   refine bS [0, 0] 2 1 [(0, .slice A n cap), (1, .slice A' n' cap'), (2, iq how), (7, .slice Ax kx cx), (8, .slice Ay ky cy), (11, .slice Aq kq cq), (12, .slice Ar kr cr), (13, iq (i : Int)), (14, .slice A48 (kw + 1) cp48), (72, iq (IntKind.i64.wrap ((k : Int) + 1))), (101, undef), (102, undef), (103, undef), (104, undef), (105, undef), (106, undef), (107, undef), (108, undef), (109, undef), (110, undef), (111, undef), (112, undef), (113, undef)] ?_
   refine cont_recast 72 (iq (IntKind.i64.wrap ((k : Int) + 1))) (iq ((k + 1 : Nat) : Int)) rfl (by rw [show (((k + 1 : Nat) : Int)) = (k : Int) + 1 by omega]; exact wrapI (by omega) (by omega)) ?_
   refine cont_forget 0 rfl ?_
   refine bS [0] 3 0 [(0, .slice A n cap), (1, .slice A' n' cap'), (2, iq how), (7, .slice Ax kx cx), (8, .slice Ay ky cy), (11, .slice Aq kq cq), (12, .slice Ar kr cr), (13, iq (i : Int)), (14, .slice A48 (kw + 1) cp48), (15, iq ((k + 1 : Nat) : Int)), (101, undef), (102, undef), (103, undef), (104, undef), (105, undef), (106, undef), (107, undef), (108, undef), (109, undef), (110, undef), (111, undef), (112, undef), (113, undef)] ?_
   refine cont_done ?_
   refine then_normal ?_
   refine cont_rowEqR 0 ((ownL (fun x => keepF (docK how) xs xs' x (YS.getD i 0)) (YS.getD i 0) (YS.getD (i + 1) 0) XS k) ++ [(⟨XS.getD k 0, YS.getD i 0, XS.getD (k + 1 : Nat) 0, YS.getD (i + 1 : Nat) 0⟩ : Rect)]) (ownL (fun x => keepF (docK how) xs xs' x (YS.getD i 0)) (YS.getD i 0) (YS.getD (i + 1) 0) XS (k + 1)) rfl (ownL_new (f := (fun x => keepF (docK how) xs xs' x (YS.getD i 0))) hkeep_ (fun J hJ he_ => by omega)) ?_
   refine cont_again (k + 1, (kw + 1), A48, g48, cp48) (show (k + 1) ≤ XS.length - 1 ∧ ((kw + 1)) ≤ (k + 1) from ⟨by omega, by omega⟩) (show XS.length - 1 - (k + 1) < XS.length - 1 - k from by omega) (by kernel_rfl) (by kernel_rfl)
  replace c39_ := of_decide_eq_false c39_
  refine cont_false rfl ?_
  refine cont_exit ?_
  refine then_exit ?_
  refine then_exit ?_
  refine blk_exit ?_
  refine then_normal ?_
  refine cont_seq ?_
  refine cont_rowEqR 0 (ownL (fun x => keepF (docK how) xs xs' x (YS.getD i 0)) (YS.getD i 0) (YS.getD (i + 1) 0) XS k) (ownD how xs xs' XS (YS.getD i 0) (YS.getD (i + 1) 0)) rfl (by unfold ownD; rw [show k = XS.length - 1 by omega]) ?_
  refine cont_fact (F := (0 < kw → (Aw : Option Addr) = pB gw) ∧ (ownD how xs xs' XS (YS.getD i 0) (YS.getD (i + 1) 0)).length = kw ∧ kw ≤ cw ∧ cw ≤ maxLen) (fun w hT => Row.factsR (hT.ok 0 _ rfl)) (fun hr50_ => ?_)
  obtain ⟨hr50_a, hr50_l, hr50_c, hr50_m⟩ := hr50_
  unfold maxLen at hr50_m
  refine drawn_enter 20 [] rfl (by kernel_rfl) ?_
  refine takes 0 [] [(0, 0), (1, 0), (2, 0), (3, 0)] 16 [3, 2, 1, 0] [(0, .slice A n cap), (1, .slice A' n' cap'), (2, iq how), (7, .slice Ax kx cx), (8, .slice Ay ky cy), (11, .slice Aq kq cq), (12, .slice Ar kr cr), (13, iq (i : Int)), (14, .slice Aw kw cw), (151, .bool (decide ((kr : Int) > 0)))] (by kernel_rfl) (pok_then (pok_blk (pok_then (pok_then (pok_blk (pok_then pok_body)))))) (by kernel_rfl) rfl rfl (by kernel_rfl) (by kernel_rfl) ?_
  refine cont_split 151 (decide ((kr : Int) > 0)) rfl (fun c51_ => ?_) (fun c51_ => ?_)
  ·
   replace c51_ := of_decide_eq_true c51_
   refine takes 0 [] [(4, 0), (5, 0), (13, 0), (14, 0), (6, 0)] 11 [6, 14, 13, 5, 4, 3, 2, 1, 0] [(0, .slice A n cap), (1, .slice A' n' cap'), (2, iq how), (7, .slice Ax kx cx), (8, .slice Ay ky cy), (11, .slice Aq kq cq), (12, .slice Ar kr cr), (13, iq (i : Int)), (14, .slice Aw kw cw), (151, .bool true), (152, .slice Ar kr cr), (153, .slice Ar kr cr), (154, iq (kr : Int)), (161, .slice Ay ky cy), (162, iq (i : Int))] (by kernel_rfl) (pok_then (pok_blk (pok_then (pok_then (pok_blk (pok_then pok_body)))))) (by kernel_rfl) rfl rfl (by kernel_rfl) (by kernel_rfl) ?_
   refine takes 0 [] [(7, 0)] 10 [7, 6, 14, 13, 5, 4, 3, 2, 1, 0] [(0, .slice A n cap), (1, .slice A' n' cap'), (2, iq how), (7, .slice Ax kx cx), (8, .slice Ay ky cy), (11, .slice Aq kq cq), (12, .slice Ar kr cr), (13, iq (i : Int)), (14, .slice Aw kw cw), (151, .bool true), (152, .slice Ar kr cr), (153, .slice Ar kr cr), (154, iq (kr : Int)), (155, iq (IntKind.i64.wrap ((kr : Int) - 1))), (161, .slice Ay ky cy), (162, iq (i : Int))] (by kernel_rfl) (pok_then (pok_blk (pok_then (pok_then (pok_blk (pok_then pok_body)))))) (by kernel_rfl) rfl rfl (by kernel_rfl) (by kernel_rfl) ?_
   refine cont_recast 155 (iq (IntKind.i64.wrap ((kr : Int) - 1))) (iq ((kr : Int) - 1)) rfl (wrapI (by omega) (by omega)) ?_
   refine takes 0 [] [(8, 0)] 9 [8, 7, 6, 14, 13, 5, 4, 3, 2, 1, 0] [(0, .slice A n cap), (1, .slice A' n' cap'), (2, iq how), (7, .slice Ax kx cx), (8, .slice Ay ky cy), (11, .slice Aq kq cq), (12, .slice Ar kr cr), (13, iq (i : Int)), (14, .slice Aw kw cw), (151, .bool true), (152, .slice Ar kr cr), (153, .slice Ar kr cr), (154, iq (kr : Int)), (155, iq ((kr : Int) - 1)), (156, iq (mn 0 ((kr : Int) - 1))), (161, .slice Ay ky cy), (162, iq (i : Int))] (by kernel_rfl) (pok_then (pok_blk (pok_then (pok_then (pok_blk (pok_then pok_body)))))) (by kernel_rfl) rfl rfl (by kernel_rfl) (by kernel_rfl) ?_
   refine takes 0 [] [(9, 0)] 8 [9, 8, 7, 6, 14, 13, 5, 4, 3, 2, 1, 0] [(0, .slice A n cap), (1, .slice A' n' cap'), (2, iq how), (7, .slice Ax kx cx), (8, .slice Ay ky cy), (11, .slice Aq kq cq), (12, .slice Ar kr cr), (13, iq (i : Int)), (14, .slice Aw kw cw), (151, .bool true), (152, .slice Ar kr cr), (153, .slice Ar kr cr), (154, iq (kr : Int)), (155, iq ((kr : Int) - 1)), (156, iq (mn 0 ((kr : Int) - 1))), (157, iq (mx (mn 0 ((kr : Int) - 1)) 0)), (161, .slice Ay ky cy), (162, iq (i : Int))] (by kernel_rfl) (pok_then (pok_blk (pok_then (pok_then (pok_blk (pok_then pok_body)))))) (by kernel_rfl) rfl rfl (by kernel_rfl) (by kernel_rfl) ?_
   refine cont_recast 157 (iq (mx (mn 0 ((kr : Int) - 1)) 0)) (iq 0) rfl (congrArg (Value.int .i64) (by unfold mx mn; omega)) ?_
   refine cont_recast 152 (.slice Ar kr cr) (.slice (pB gr) kr cr) rfl (by rw [hr36_a (by omega)]) ?_
   refine sem_take 0 [] 10 7 158 (Instr.indexAt 58 (.slice (pB gr) kr cr) (iq 0)) (.pointer (some ⟨gr, 0 * 4, none⟩)) (by kernel_rfl) (pok_then (pok_blk (pok_then (pok_then (pok_blk (pok_then pok_body)))))) (by kernel_rfl) rfl (by kernel_rfl) (by kernel_rfl) (fun w hT => run_indexAt (e := 53) (sz := 4) _ (by kernel_rfl) (by kernel_rfl) (by omega) (by omega) (by omega) w) ?_
   refine takes 0 [] [(11, 0)] 6 [11, 10, 9, 8, 7, 6, 14, 13, 5, 4, 3, 2, 1, 0] [(0, .slice A n cap), (1, .slice A' n' cap'), (2, iq how), (7, .slice Ax kx cx), (8, .slice Ay ky cy), (11, .slice Aq kq cq), (12, .slice Ar kr cr), (13, iq (i : Int)), (14, .slice Aw kw cw), (151, .bool true), (152, .slice (pB gr) kr cr), (153, .slice Ar kr cr), (154, iq (kr : Int)), (155, iq ((kr : Int) - 1)), (156, iq (mn 0 ((kr : Int) - 1))), (157, iq 0), (158, .pointer (some ⟨gr, 0 * 4, none⟩)), (159, .pointer (some ⟨gr, 0 * 4 + 3, none⟩)), (161, .slice Ay ky cy), (162, iq (i : Int))] (by kernel_rfl) (pok_then (pok_blk (pok_then (pok_then (pok_blk (pok_then pok_body)))))) (by kernel_rfl) rfl rfl (by kernel_rfl) (by kernel_rfl) ?_
   refine sem_take 0 [] 12 5 160 (Instr.loadAt 3 (.pointer (some ⟨gr, 0 * 4 + 3, none⟩))) (iq ((rget ((mgG touchL (ownD how xs xs' XS) YS i).2) 0).y1)) (by kernel_rfl) (pok_then (pok_blk (pok_then (pok_then (pok_blk (pok_then pok_body)))))) (by kernel_rfl) rfl (by kernel_rfl) (by kernel_rfl) (fun w hT => run_load1 (by kernel_rfl) (Rd.cellF0 (Row.rd (hT 2 _ rfl)) 0 3 _ (by omega) rfl)) ?_
   refine cont_recast 161 (.slice Ay ky cy) (.slice (pB gy_) ky cy) rfl (by rw [hr30_a (by omega)]) ?_
   refine sem_take 0 [] 15 4 163 (Instr.indexAt 34 (.slice (pB gy_) ky cy) (iq (i : Int))) (.pointer (some ⟨gy_, i, none⟩)) (by kernel_rfl) (pok_then (pok_blk (pok_then (pok_then (pok_blk (pok_then pok_body)))))) (by kernel_rfl) rfl (by kernel_rfl) (by kernel_rfl) (fun w hT => run_indexAt (e := 3) (sz := 1) _ (by kernel_rfl) (by kernel_rfl) (by omega) (by omega) (by omega) w) ?_
   refine sem_take 0 [] 16 3 164 (Instr.loadAt 3 (.pointer (some ⟨gy_, i, none⟩))) (iq (YS.getD i 0)) (by kernel_rfl) (pok_then (pok_blk (pok_then (pok_then (pok_blk (pok_then pok_body)))))) (by kernel_rfl) rfl (by kernel_rfl) (by kernel_rfl) (fun w hT => run_load1 (by kernel_rfl) (Row.cell (hT 3 _ rfl) (i) _ (ivals_get (by omega)))) ?_
   refine takes 0 [] [(17, 0), (18, 0), (19, 0)] 0 [19, 18, 17, 16, 15, 12, 11, 10, 9, 8, 7, 6, 14, 13, 5, 4, 3, 2, 1, 0] [(0, .slice A n cap), (1, .slice A' n' cap'), (2, iq how), (7, .slice Ax kx cx), (8, .slice Ay ky cy), (11, .slice Aq kq cq), (12, .slice Ar kr cr), (13, iq (i : Int)), (14, .slice Aw kw cw), (17, .bool (((rget ((mgG touchL (ownD how xs xs' XS) YS i).2) 0).y1) == (YS.getD i 0))), (152, .slice (pB gr) kr cr), (153, .slice Ar kr cr), (154, iq (kr : Int)), (155, iq ((kr : Int) - 1)), (156, iq (mn 0 ((kr : Int) - 1))), (157, iq 0), (158, .pointer (some ⟨gr, 0 * 4, none⟩)), (159, .pointer (some ⟨gr, 0 * 4 + 3, none⟩)), (160, iq ((rget ((mgG touchL (ownD how xs xs' XS) YS i).2) 0).y1)), (161, .slice (pB gy_) ky cy), (162, iq (i : Int)), (163, .pointer (some ⟨gy_, i, none⟩)), (164, iq (YS.getD i 0)), (165, .bool (((rget ((mgG touchL (ownD how xs xs' XS) YS i).2) 0).y1) == (YS.getD i 0)))] (by kernel_rfl) (pok_then (pok_blk (pok_then (pok_then (pok_blk (pok_then pok_body)))))) (by kernel_rfl) rfl rfl (by kernel_rfl) (by kernel_rfl) ?_
   refine drawn_done (by kernel_rfl) ?_
   refine then_normal ?_
   refine cont_seq ?_
   refine cont_seq ?_
   refine cont_region 6 rfl ?_
   refine bS [0, 0] 2 4 [(0, .slice A n cap), (1, .slice A' n' cap'), (2, iq how), (7, .slice Ax kx cx), (8, .slice Ay ky cy), (11, .slice Aq kq cq), (12, .slice Ar kr cr), (13, iq (i : Int)), (14, .slice Aw kw cw), (152, .slice (pB gr) kr cr), (153, .slice Ar kr cr), (154, iq (kr : Int)), (155, iq ((kr : Int) - 1)), (156, iq (mn 0 ((kr : Int) - 1))), (157, iq 0), (158, .pointer (some ⟨gr, 0 * 4, none⟩)), (159, .pointer (some ⟨gr, 0 * 4 + 3, none⟩)), (160, iq ((rget ((mgG touchL (ownD how xs xs' XS) YS i).2) 0).y1)), (161, .slice (pB gy_) ky cy), (162, iq (i : Int)), (163, .pointer (some ⟨gy_, i, none⟩)), (164, iq (YS.getD i 0)), (165, .bool (((rget ((mgG touchL (ownD how xs xs' XS) YS i).2) 0).y1) == (YS.getD i 0))), (168, .bool (((rget ((mgG touchL (ownD how xs xs' XS) YS i).2) 0).y1) == (YS.getD i 0)))] ?_
   refine cont_split 168 (((rget ((mgG touchL (ownD how xs xs' XS) YS i).2) 0).y1) == (YS.getD i 0)) rfl (fun c52_ => ?_) (fun c52_ => ?_)
   ·
    refine cont_recast 165 (.bool (((rget ((mgG touchL (ownD how xs xs' XS) YS i).2) 0).y1) == (YS.getD i 0))) (.bool true) rfl (congrArg Value.bool c52_) ?_
    replace c52_ := eq_of_beqt c52_
    refine bS [0, 0] 4 2 [(0, .slice A n cap), (1, .slice A' n' cap'), (2, iq how), (7, .slice Ax kx cx), (8, .slice Ay ky cy), (11, .slice Aq kq cq), (12, .slice Ar kr cr), (13, iq (i : Int)), (14, .slice Aw kw cw), (152, .slice (pB gr) kr cr), (153, .slice Ar kr cr), (154, iq (kr : Int)), (155, iq ((kr : Int) - 1)), (156, iq (mn 0 ((kr : Int) - 1))), (157, iq 0), (158, .pointer (some ⟨gr, 0 * 4, none⟩)), (159, .pointer (some ⟨gr, 0 * 4 + 3, none⟩)), (160, iq ((rget ((mgG touchL (ownD how xs xs' XS) YS i).2) 0).y1)), (161, .slice (pB gy_) ky cy), (162, iq (i : Int)), (163, .pointer (some ⟨gy_, i, none⟩)), (164, iq (YS.getD i 0)), (165, .bool true), (168, .bool true), (169, .slice Ar kr cr), (170, .slice Aw kw cw)] ?_
    refine pl_step 5 1 rfl rfl ?_
    refine call_pure (d := 171) (.bool (eqF span1 ((mgG touchL (ownD how xs xs' XS) YS i).2) (ownD how xs xs' XS (YS.getD i 0) (YS.getD (i + 1) 0)))) (by kernel_rfl) (fun w hT => refSpans Ar gr 0 kr cr ((mgG touchL (ownD how xs xs' XS) YS i).2) Aw gw 0 kw cw (ownD how xs xs' XS (YS.getD i 0) (YS.getD (i + 1) 0)) w (hT.viewRo (.cons (i := 2) rfl Vw.rowRd (.cons (i := 0) rfl Vw.rowRd .nil)) rfl) (by omega)) ?_
    refine bS [0] 6 0 [(0, .slice A n cap), (1, .slice A' n' cap'), (2, iq how), (7, .slice Ax kx cx), (8, .slice Ay ky cy), (11, .slice Aq kq cq), (12, .slice Ar kr cr), (13, iq (i : Int)), (14, .slice Aw kw cw), (152, .slice (pB gr) kr cr), (153, .slice Ar kr cr), (154, iq (kr : Int)), (155, iq ((kr : Int) - 1)), (156, iq (mn 0 ((kr : Int) - 1))), (157, iq 0), (158, .pointer (some ⟨gr, 0 * 4, none⟩)), (159, .pointer (some ⟨gr, 0 * 4 + 3, none⟩)), (160, iq ((rget ((mgG touchL (ownD how xs xs' XS) YS i).2) 0).y1)), (161, .slice (pB gy_) ky cy), (162, iq (i : Int)), (163, .pointer (some ⟨gy_, i, none⟩)), (164, iq (YS.getD i 0)), (165, .bool true), (169, .slice Ar kr cr), (170, .slice Aw kw cw), (171, .bool (eqF span1 ((mgG touchL (ownD how xs xs' XS) YS i).2) (ownD how xs xs' XS (YS.getD i 0) (YS.getD (i + 1) 0)))), (172, .bool (eqF span1 ((mgG touchL (ownD how xs xs' XS) YS i).2) (ownD how xs xs' XS (YS.getD i 0) (YS.getD (i + 1) 0))))] ?_
    refine cont_done ?_
    refine then_normal ?_
    refine cont_split 172 (eqF span1 ((mgG touchL (ownD how xs xs' XS) YS i).2) (ownD how xs xs' XS (YS.getD i 0) (YS.getD (i + 1) 0))) rfl (fun c53_ => ?_) (fun c53_ => ?_)
    ·
     refine cont_recast 171 (.bool (eqF span1 ((mgG touchL (ownD how xs xs' XS) YS i).2) (ownD how xs xs' XS (YS.getD i 0) (YS.getD (i + 1) 0)))) (.bool true) rfl (congrArg Value.bool c53_) ?_
     refine cont_true rfl ?_
     refine cont_seq ?_
     refine cont_seq ?_
     refine cont_region 1 rfl ?_
     have hal_ : touchL (mgG touchL (ownD how xs xs' XS) YS i).2 (ownD how xs xs' XS (YS.getD i 0) (YS.getD (i + 1) 0)) (YS.getD i 0) = true := touchL_true (by omega) ‹_› ‹_›
     refine bS [0] 1 0 [(0, .slice A n cap), (1, .slice A' n' cap'), (2, iq how), (7, .slice Ax kx cx), (8, .slice Ay ky cy), (11, .slice Aq kq cq), (12, .slice Ar kr cr), (13, iq (i : Int)), (18, iq 0), (152, .slice (pB gr) kr cr), (153, .slice Ar kr cr), (154, iq (kr : Int)), (155, iq ((kr : Int) - 1)), (156, iq (mn 0 ((kr : Int) - 1))), (157, iq 0), (158, .pointer (some ⟨gr, 0 * 4, none⟩)), (159, .pointer (some ⟨gr, 0 * 4 + 3, none⟩)), (160, iq ((rget ((mgG touchL (ownD how xs xs' XS) YS i).2) 0).y1)), (161, .slice (pB gy_) ky cy), (162, iq (i : Int)), (163, .pointer (some ⟨gy_, i, none⟩)), (164, iq (YS.getD i 0)), (165, .bool true), (169, .slice Ar kr cr), (170, .slice Aw kw cw), (171, .bool true)] ?_
     refine cont_done ?_
     refine then_normal ?_
     refine cont_block ?_
     refine cont_rowEqR 2 ((mgG touchL (ownD how xs xs' XS) YS i).2) (setY1 (YS.getD (i + 1) 0) ((mgG touchL (ownD how xs xs' XS) YS i).2.take 0) ++ (mgG touchL (ownD how xs xs' XS) YS i).2.drop 0) rfl setY1_zero ?_
     refine cont_loop (α := Nat) (fun x_ : Nat => x_ ≤ kr) (fun x_ : Nat => [(0, .slice A n cap), (1, .slice A' n' cap'), (2, iq how), (7, .slice Ax kx cx), (8, .slice Ay ky cy), (11, .slice Aq kq cq), (12, .slice Ar kr cr), (13, iq (i : Int)), (18, iq (x_ : Int)), (152, .slice (pB gr) kr cr), (153, .slice Ar kr cr), (154, iq (kr : Int)), (155, iq ((kr : Int) - 1)), (156, iq (mn 0 ((kr : Int) - 1))), (157, iq 0), (158, .pointer (some ⟨gr, 0 * 4, none⟩)), (159, .pointer (some ⟨gr, 0 * 4 + 3, none⟩)), (160, iq ((rget ((mgG touchL (ownD how xs xs' XS) YS i).2) 0).y1)), (161, .slice (pB gy_) ky cy), (162, iq (i : Int)), (163, .pointer (some ⟨gy_, i, none⟩)), (164, iq (YS.getD i 0)), (165, .bool true), (169, .slice Ar kr cr), (170, .slice Aw kw cw), (171, .bool true)]) (fun x_ : Nat => [.gen (rowE (Aw) gw kw cw 53 4 (rvals (ownD how xs xs' XS (YS.getD i 0) (YS.getD (i + 1) 0))) true), .gen (rowE (Aq) gq kq cq 53 4 (rvals ((mgG touchL (ownD how xs xs' XS) YS i).1)) true), .gen (rowE (Ar) gr kr cr 53 4 (rvals (setY1 (YS.getD (i + 1) 0) ((mgG touchL (ownD how xs xs' XS) YS i).2.take x_) ++ (mgG touchL (ownD how xs xs' XS) YS i).2.drop x_)) true), .gen (rowE (Ay) gy_ ky cy 3 1 (ivals .i64 YS) true), .gen (rowE (Ax) gx_ kx cx 3 1 (ivals .i64 XS) true), .gen (rdE (A) g o n 4 (rvals xs)), .gen (rdE (A') g' o' n' 4 (rvals xs'))]) (fun x_ : Nat => kr - x_) 0 (by omega) (by kernel_rfl) (by kernel_rfl) ?_
     rintro j hinv54_
     replace hinv54_ : j ≤ kr := hinv54_
     refine cont_norm [(0, .slice A n cap), (1, .slice A' n' cap'), (2, iq how), (7, .slice Ax kx cx), (8, .slice Ay ky cy), (11, .slice Aq kq cq), (12, .slice Ar kr cr), (13, iq (i : Int)), (18, iq (j : Int)), (152, .slice (pB gr) kr cr), (153, .slice Ar kr cr), (154, iq (kr : Int)), (155, iq ((kr : Int) - 1)), (156, iq (mn 0 ((kr : Int) - 1))), (157, iq 0), (158, .pointer (some ⟨gr, 0 * 4, none⟩)), (159, .pointer (some ⟨gr, 0 * 4 + 3, none⟩)), (160, iq ((rget ((mgG touchL (ownD how xs xs' XS) YS i).2) 0).y1)), (161, .slice (pB gy_) ky cy), (162, iq (i : Int)), (163, .pointer (some ⟨gy_, i, none⟩)), (164, iq (YS.getD i 0)), (165, .bool true), (169, .slice Ar kr cr), (170, .slice Aw kw cw), (171, .bool true)] [.gen (rowE (Aw) gw kw cw 53 4 (rvals (ownD how xs xs' XS (YS.getD i 0) (YS.getD (i + 1) 0))) true), .gen (rowE (Aq) gq kq cq 53 4 (rvals ((mgG touchL (ownD how xs xs' XS) YS i).1)) true), .gen (rowE (Ar) gr kr cr 53 4 (rvals (setY1 (YS.getD (i + 1) 0) ((mgG touchL (ownD how xs xs' XS) YS i).2.take j) ++ (mgG touchL (ownD how xs xs' XS) YS i).2.drop j)) true), .gen (rowE (Ay) gy_ ky cy 3 1 (ivals .i64 YS) true), .gen (rowE (Ax) gx_ kx cx 3 1 (ivals .i64 XS) true), .gen (rdE (A) g o n 4 (rvals xs)), .gen (rdE (A') g' o' n' 4 (rvals xs'))] (by kernel_rfl) rfl ?_
     have hj := hinv54_
     refine cont_seq ?_
     refine cont_seq ?_
     refine cont_region 4 rfl ?_
     refine bS [0, 0, 0, 0] 4 0 [(0, .slice A n cap), (1, .slice A' n' cap'), (2, iq how), (7, .slice Ax kx cx), (8, .slice Ay ky cy), (11, .slice Aq kq cq), (12, .slice Ar kr cr), (13, iq (i : Int)), (18, iq (j : Int)), (152, .slice (pB gr) kr cr), (153, .slice Ar kr cr), (154, iq (kr : Int)), (155, iq ((kr : Int) - 1)), (156, iq (mn 0 ((kr : Int) - 1))), (157, iq 0), (158, .pointer (some ⟨gr, 0 * 4, none⟩)), (159, .pointer (some ⟨gr, 0 * 4 + 3, none⟩)), (160, iq ((rget ((mgG touchL (ownD how xs xs' XS) YS i).2) 0).y1)), (161, .slice (pB gy_) ky cy), (162, iq (i : Int)), (163, .pointer (some ⟨gy_, i, none⟩)), (164, iq (YS.getD i 0)), (165, .bool true), (169, .slice Ar kr cr), (170, .slice Aw kw cw), (171, .bool true), (176, .bool (decide ((j : Int) < (kr : Int))))] ?_
     refine cont_done ?_
     refine then_normal ?_
     refine cont_split 176 (decide ((j : Int) < (kr : Int))) rfl (fun c55_ => ?_) (fun c55_ => ?_)
     ·
      replace c55_ := of_decide_eq_true c55_
      refine cont_true rfl ?_
      refine cont_skip ?_
      refine then_normal ?_
      refine cont_seq ?_
      refine cont_block ?_
      refine cont_region 10 rfl ?_
      refine cont_fact (F := (0 < kr → (Ar : Option Addr) = pB gr) ∧ (setY1 (YS.getD (i + 1) 0) ((mgG touchL (ownD how xs xs' XS) YS i).2.take j) ++ (mgG touchL (ownD how xs xs' XS) YS i).2.drop j).length = kr ∧ kr ≤ cr ∧ cr ≤ maxLen) (fun w hT => Row.factsR (hT.ok 2 _ rfl)) (fun hr56_ => ?_)
      obtain ⟨hr56_a, hr56_l, hr56_c, hr56_m⟩ := hr56_
      unfold maxLen at hr56_m
      refine bS [0, 0, 0, 0, 0] 5 5 [(0, .slice A n cap), (1, .slice A' n' cap'), (2, iq how), (7, .slice Ax kx cx), (8, .slice Ay ky cy), (11, .slice Aq kq cq), (12, .slice Ar kr cr), (13, iq (i : Int)), (18, iq (j : Int)), (152, .slice (pB gr) kr cr), (153, .slice Ar kr cr), (154, iq (kr : Int)), (155, iq ((kr : Int) - 1)), (156, iq (mn 0 ((kr : Int) - 1))), (157, iq 0), (158, .pointer (some ⟨gr, 0 * 4, none⟩)), (159, .pointer (some ⟨gr, 0 * 4 + 3, none⟩)), (160, iq ((rget ((mgG touchL (ownD how xs xs' XS) YS i).2) 0).y1)), (161, .slice (pB gy_) ky cy), (162, iq (i : Int)), (163, .pointer (some ⟨gy_, i, none⟩)), (164, iq (YS.getD i 0)), (165, .bool true), (169, .slice Ar kr cr), (170, .slice Aw kw cw), (171, .bool true), (179, .slice Ar kr cr), (180, iq (j : Int)), (181, .slice Ay ky cy), (183, iq (IntKind.i64.wrap ((i : Int) + 1)))] ?_
      refine cont_recast 183 (iq (IntKind.i64.wrap ((i : Int) + 1))) (iq ((i + 1 : Nat) : Int)) rfl (by rw [show (((i + 1 : Nat) : Int)) = (i : Int) + 1 by omega]; exact wrapI (by omega) (by omega)) ?_
      refine pl_step 6 4 rfl rfl ?_
      refine cont_recast 181 (.slice Ay ky cy) (.slice (pB gy_) ky cy) rfl (by rw [hr30_a (by omega)]) ?_
      refine sem_step 184 (Instr.indexAt 34 (.slice (pB gy_) ky cy) (iq ((i + 1 : Nat) : Int))) (.pointer (some ⟨gy_, (i + 1 : Nat), none⟩)) (by kernel_rfl) (fun w hT => run_indexAt (e := 3) (sz := 1) _ (by kernel_rfl) (by kernel_rfl) (by omega) (by omega) (by omega) w) ?_
      refine pl_step 7 3 rfl rfl ?_
      refine sem_step 185 (Instr.loadAt 3 (.pointer (some ⟨gy_, (i + 1 : Nat), none⟩))) (iq (YS.getD (i + 1 : Nat) 0)) (by kernel_rfl) (fun w hT => run_load1 (by kernel_rfl) (Row.cell (hT.ok 3 _ rfl) ((i + 1 : Nat)) _ (ivals_get (by omega)))) ?_
      refine pl_step 8 2 rfl rfl ?_
      refine cont_recast 179 (.slice Ar kr cr) (.slice (pB gr) kr cr) rfl (by rw [hr56_a (by omega)]) ?_
      refine sem_step 186 (Instr.indexAt 58 (.slice (pB gr) kr cr) (iq (j : Int))) (.pointer (some ⟨gr, j * 4, none⟩)) (by kernel_rfl) (fun w hT => run_indexAt (e := 53) (sz := 4) _ (by kernel_rfl) (by kernel_rfl) (by omega) (by omega) (by omega) w) ?_
      refine bS [0] 9 1 [(0, .slice A n cap), (1, .slice A' n' cap'), (2, iq how), (7, .slice Ax kx cx), (8, .slice Ay ky cy), (11, .slice Aq kq cq), (12, .slice Ar kr cr), (13, iq (i : Int)), (18, iq (j : Int)), (152, .slice (pB gr) kr cr), (153, .slice Ar kr cr), (154, iq (kr : Int)), (155, iq ((kr : Int) - 1)), (156, iq (mn 0 ((kr : Int) - 1))), (157, iq 0), (158, .pointer (some ⟨gr, 0 * 4, none⟩)), (159, .pointer (some ⟨gr, 0 * 4 + 3, none⟩)), (160, iq ((rget ((mgG touchL (ownD how xs xs' XS) YS i).2) 0).y1)), (161, .slice (pB gy_) ky cy), (162, iq (i : Int)), (163, .pointer (some ⟨gy_, i, none⟩)), (164, iq (YS.getD i 0)), (165, .bool true), (169, .slice Ar kr cr), (170, .slice Aw kw cw), (171, .bool true), (185, iq (YS.getD (i + 1 : Nat) 0)), (187, .pointer (some ⟨gr, j * 4 + 3, none⟩))] ?_
      refine pl_step 10 0 rfl rfl ?_
      refine sem_stepU (Instr.storeAt 3 (.pointer (some ⟨gr, j * 4 + 3, none⟩)) (iq (YS.getD (i + 1 : Nat) 0))) (fun _ => [.gen (rowE (Aw) gw kw cw 53 4 (rvals (ownD how xs xs' XS (YS.getD i 0) (YS.getD (i + 1) 0))) true), .gen (rowE (Aq) gq kq cq 53 4 (rvals ((mgG touchL (ownD how xs xs' XS) YS i).1)) true), .gen (rowE (Ar) gr kr cr 53 4 (rvals ((setY1 (YS.getD (i + 1) 0) ((mgG touchL (ownD how xs xs' XS) YS i).2.take j) ++ (mgG touchL (ownD how xs xs' XS) YS i).2.drop j).set j { rget (setY1 (YS.getD (i + 1) 0) ((mgG touchL (ownD how xs xs' XS) YS i).2.take j) ++ (mgG touchL (ownD how xs xs' XS) YS i).2.drop j) j with y1 := YS.getD (i + 1 : Nat) 0 })) true), .gen (rowE (Ay) gy_ ky cy 3 1 (ivals .i64 YS) true), .gen (rowE (Ax) gx_ kx cx 3 1 (ivals .i64 XS) true), .gen (rdE (A) g o n 4 (rvals xs)), .gen (rdE (A') g' o' n' 4 (rvals xs'))]) (fun _ => True) (by kernel_rfl) (fun w hT => store_fieldR hT (i := 2) (J := j) (k := 3) { rget (setY1 (YS.getD (i + 1) 0) ((mgG touchL (ownD how xs xs' XS) YS i).2.take j) ++ (mgG touchL (ownD how xs xs' XS) YS i).2.drop j) j with y1 := YS.getD (i + 1 : Nat) 0 } rfl (by kernel_rfl) (by omega) (by decide) (by omega) rfl) (fun _ _ => ?_)
      refine cont_done ?_
      refine blk_normal ?_
      refine then_normal ?_
      refine cont_region 3 rfl ?_
      refine bS [0, 0] 2 1 [(0, .slice A n cap), (1, .slice A' n' cap'), (2, iq how), (7, .slice Ax kx cx), (8, .slice Ay ky cy), (11, .slice Aq kq cq), (12, .slice Ar kr cr), (13, iq (i : Int)), (152, .slice (pB gr) kr cr), (153, .slice Ar kr cr), (154, iq (kr : Int)), (155, iq ((kr : Int) - 1)), (156, iq (mn 0 ((kr : Int) - 1))), (157, iq 0), (158, .pointer (some ⟨gr, 0 * 4, none⟩)), (159, .pointer (some ⟨gr, 0 * 4 + 3, none⟩)), (160, iq ((rget ((mgG touchL (ownD how xs xs' XS) YS i).2) 0).y1)), (161, .slice (pB gy_) ky cy), (162, iq (i : Int)), (163, .pointer (some ⟨gy_, i, none⟩)), (164, iq (YS.getD i 0)), (165, .bool true), (169, .slice Ar kr cr), (170, .slice Aw kw cw), (171, .bool true), (178, iq (IntKind.i64.wrap ((j : Int) + 1)))] ?_
      refine cont_recast 178 (iq (IntKind.i64.wrap ((j : Int) + 1))) (iq ((j : Int) + 1)) rfl (wrapI (by omega) (by omega)) ?_
      refine bS [0] 3 0 [(0, .slice A n cap), (1, .slice A' n' cap'), (2, iq how), (7, .slice Ax kx cx), (8, .slice Ay ky cy), (11, .slice Aq kq cq), (12, .slice Ar kr cr), (13, iq (i : Int)), (18, iq ((j : Int) + 1)), (152, .slice (pB gr) kr cr), (153, .slice Ar kr cr), (154, iq (kr : Int)), (155, iq ((kr : Int) - 1)), (156, iq (mn 0 ((kr : Int) - 1))), (157, iq 0), (158, .pointer (some ⟨gr, 0 * 4, none⟩)), (159, .pointer (some ⟨gr, 0 * 4 + 3, none⟩)), (160, iq ((rget ((mgG touchL (ownD how xs xs' XS) YS i).2) 0).y1)), (161, .slice (pB gy_) ky cy), (162, iq (i : Int)), (163, .pointer (some ⟨gy_, i, none⟩)), (164, iq (YS.getD i 0)), (165, .bool true), (169, .slice Ar kr cr), (170, .slice Aw kw cw), (171, .bool true)] ?_
      refine cont_done ?_
      refine then_normal ?_
      refine cont_rowEqR 2 ((setY1 (YS.getD (i + 1) 0) ((mgG touchL (ownD how xs xs' XS) YS i).2.take j) ++ (mgG touchL (ownD how xs xs' XS) YS i).2.drop j).set j { rget (setY1 (YS.getD (i + 1) 0) ((mgG touchL (ownD how xs xs' XS) YS i).2.take j) ++ (mgG touchL (ownD how xs xs' XS) YS i).2.drop j) j with y1 := YS.getD (i + 1 : Nat) 0 }) (setY1 (YS.getD (i + 1) 0) ((mgG touchL (ownD how xs xs' XS) YS i).2.take (j + 1)) ++ (mgG touchL (ownD how xs xs' XS) YS i).2.drop (j + 1)) rfl (setY1_step (by omega)) ?_
      refine cont_again (j + 1) (show (j + 1) ≤ kr from (by omega)) (show kr - (j + 1) < kr - j from by omega) (by kernel_rfl) (by kernel_rfl)
     replace c55_ := of_decide_eq_false c55_
     refine cont_false rfl ?_
     refine cont_exit ?_
     refine then_exit ?_
     refine then_exit ?_
     refine blk_exit ?_
     refine then_normal ?_
     refine cont_exit ?_
     refine then_exit ?_
     refine blk_exit ?_
     refine then_normal ?_
     refine cont_region 3 rfl ?_
     refine cont_rowEqR 2 (setY1 (YS.getD (i + 1) 0) ((mgG touchL (ownD how xs xs' XS) YS i).2.take j) ++ (mgG touchL (ownD how xs xs' XS) YS i).2.drop j) (setY1 (YS.getD (i + 1) 0) (mgG touchL (ownD how xs xs' XS) YS i).2) rfl (setY1_done (by omega)) ?_
     refine cont_pick [1, 2, 3, 4, 5, 6] [.gen (rowE (Aq) gq kq cq 53 4 (rvals ((mgG touchL (ownD how xs xs' XS) YS i).1)) true), .gen (rowE (Ar) gr kr cr 53 4 (rvals (setY1 (YS.getD (i + 1) 0) (mgG touchL (ownD how xs xs' XS) YS i).2)) true), .gen (rowE (Ay) gy_ ky cy 3 1 (ivals .i64 YS) true), .gen (rowE (Ax) gx_ kx cx 3 1 (ivals .i64 XS) true), .gen (rdE (A) g o n 4 (rvals xs)), .gen (rdE (A') g' o' n' 4 (rvals xs'))] (by decide) rfl rfl ?_
     refine bS [0, 0] 2 1 [(0, .slice A n cap), (1, .slice A' n' cap'), (2, iq how), (7, .slice Ax kx cx), (8, .slice Ay ky cy), (11, .slice Aq kq cq), (12, .slice Ar kr cr), (65, iq (IntKind.i64.wrap ((i : Int) + 1))), (152, .slice (pB gr) kr cr), (153, .slice Ar kr cr), (154, iq (kr : Int)), (155, iq ((kr : Int) - 1)), (156, iq (mn 0 ((kr : Int) - 1))), (157, iq 0), (158, .pointer (some ⟨gr, 0 * 4, none⟩)), (159, .pointer (some ⟨gr, 0 * 4 + 3, none⟩)), (160, iq ((rget ((mgG touchL (ownD how xs xs' XS) YS i).2) 0).y1)), (161, .slice (pB gy_) ky cy), (162, iq (i : Int)), (163, .pointer (some ⟨gy_, i, none⟩)), (164, iq (YS.getD i 0)), (165, .bool true), (169, .slice Ar kr cr), (170, .slice Aw kw cw), (171, .bool true)] ?_
     refine cont_recast 65 (iq (IntKind.i64.wrap ((i : Int) + 1))) (iq ((i + 1 : Nat) : Int)) rfl (by rw [show (((i + 1 : Nat) : Int)) = (i : Int) + 1 by omega]; exact wrapI (by omega) (by omega)) ?_
     refine bS [0] 3 0 [(0, .slice A n cap), (1, .slice A' n' cap'), (2, iq how), (7, .slice Ax kx cx), (8, .slice Ay ky cy), (11, .slice Aq kq cq), (12, .slice Ar kr cr), (13, iq ((i + 1 : Nat) : Int)), (152, .slice (pB gr) kr cr), (153, .slice Ar kr cr), (154, iq (kr : Int)), (155, iq ((kr : Int) - 1)), (156, iq (mn 0 ((kr : Int) - 1))), (157, iq 0), (158, .pointer (some ⟨gr, 0 * 4, none⟩)), (159, .pointer (some ⟨gr, 0 * 4 + 3, none⟩)), (160, iq ((rget ((mgG touchL (ownD how xs xs' XS) YS i).2) 0).y1)), (161, .slice (pB gy_) ky cy), (162, iq (i : Int)), (163, .pointer (some ⟨gy_, i, none⟩)), (164, iq (YS.getD i 0)), (165, .bool true), (169, .slice Ar kr cr), (170, .slice Aw kw cw), (171, .bool true)] ?_
     refine cont_done ?_
     refine then_normal ?_
     have hst_ := mgG_on (al := touchL) (own := (ownD how xs xs' XS)) (ys := YS) (i := i) hal_
     refine cont_rowEqR 0 ((mgG touchL (ownD how xs xs' XS) YS i).1) ((mgG touchL (ownD how xs xs' XS) YS (i + 1)).1) rfl hst_.1 ?_
     refine cont_rowEqR 1 (setY1 (YS.getD (i + 1) 0) (mgG touchL (ownD how xs xs' XS) YS i).2) ((mgG touchL (ownD how xs xs' XS) YS (i + 1)).2) rfl hst_.2 ?_
     refine cont_again (i + 1, kq, Aq, gq, cq, kr, Ar, gr, cr) (show (i + 1) ≤ YS.length - 1 from (by omega)) (show YS.length - 1 - (i + 1) < YS.length - 1 - i from by omega) (by kernel_rfl) (by kernel_rfl)
    refine cont_recast 171 (.bool (eqF span1 ((mgG touchL (ownD how xs xs' XS) YS i).2) (ownD how xs xs' XS (YS.getD i 0) (YS.getD (i + 1) 0)))) (.bool false) rfl (congrArg Value.bool c53_) ?_
    refine cont_false rfl ?_
    refine cont_skip ?_
    refine then_normal ?_
    refine cont_seq ?_
    refine cont_region 4 rfl ?_
    have hal_ : touchL (mgG touchL (ownD how xs xs' XS) YS i).2 (ownD how xs xs' XS (YS.getD i 0) (YS.getD (i + 1) 0)) (YS.getD i 0) = false := by first | exact touchL_no0 (by omega) | exact touchL_no1 ‹_› | exact touchL_no2 ‹_›
    refine bS [0, 0] 2 2 [(0, .slice A n cap), (1, .slice A' n' cap'), (2, iq how), (7, .slice Ax kx cx), (8, .slice Ay ky cy), (13, iq (i : Int)), (14, .slice Aw kw cw), (152, .slice (pB gr) kr cr), (153, .slice Ar kr cr), (154, iq (kr : Int)), (155, iq ((kr : Int) - 1)), (156, iq (mn 0 ((kr : Int) - 1))), (157, iq 0), (158, .pointer (some ⟨gr, 0 * 4, none⟩)), (159, .pointer (some ⟨gr, 0 * 4 + 3, none⟩)), (160, iq ((rget ((mgG touchL (ownD how xs xs' XS) YS i).2) 0).y1)), (161, .slice (pB gy_) ky cy), (162, iq (i : Int)), (163, .pointer (some ⟨gy_, i, none⟩)), (164, iq (YS.getD i 0)), (165, .bool true), (169, .slice Ar kr cr), (170, .slice Aw kw cw), (171, .bool false), (188, .slice Aq kq cq), (189, .slice Ar kr cr)] ?_
    refine pl_step 3 1 rfl rfl ?_
    refine sem_stepW (α := Option Addr × Nat × Nat) 190 (Builtin.append_ #[58, 58] 58 #[.slice Aq kq cq, .slice Ar kr cr]) (fun x_ => .slice x_.1 (kq + kr) x_.2.2) (fun x_ => [.gen (rowE (Aw) gw kw cw 53 4 (rvals (ownD how xs xs' XS (YS.getD i 0) (YS.getD (i + 1) 0))) true), .gen (rowE (x_.1) x_.2.1 (kq + kr) x_.2.2 53 4 (rvals (((mgG touchL (ownD how xs xs' XS) YS i).1) ++ ((mgG touchL (ownD how xs xs' XS) YS i).2))) true), .gen (rowE (Ar) gr kr cr 53 4 (rvals ((mgG touchL (ownD how xs xs' XS) YS i).2)) true), .gen (rowE (Ay) gy_ ky cy 3 1 (ivals .i64 YS) true), .gen (rowE (Ax) gx_ kx cx 3 1 (ivals .i64 XS) true), .gen (rdE (A) g o n 4 (rvals xs)), .gen (rdE (A') g' o' n' 4 (rvals xs'))]) (fun _ => True) (by kernel_rfl) (fun w hT => append_own (n' := (kq + kr)) (z := .agg #[iq 0, iq 0, iq 0, iq 0]) hT (i := 1) (bytes := 32) rfl (by kernel_rfl) (by kernel_rfl) rfl (by decide) (by decide) (Row.rd (hT.ok 2 _ rfl)) (rvals_one ((mgG touchL (ownD how xs xs' XS) YS i).2)) (by omega) (rvals_append ((mgG touchL (ownD how xs xs' XS) YS i).1) ((mgG touchL (ownD how xs xs' XS) YS i).2)) rfl) ?_
    rintro ⟨A57, g57, cp57⟩ -
    refine cont_norm [(0, .slice A n cap), (1, .slice A' n' cap'), (2, iq how), (7, .slice Ax kx cx), (8, .slice Ay ky cy), (13, iq (i : Int)), (14, .slice Aw kw cw), (152, .slice (pB gr) kr cr), (153, .slice Ar kr cr), (154, iq (kr : Int)), (155, iq ((kr : Int) - 1)), (156, iq (mn 0 ((kr : Int) - 1))), (157, iq 0), (158, .pointer (some ⟨gr, 0 * 4, none⟩)), (159, .pointer (some ⟨gr, 0 * 4 + 3, none⟩)), (160, iq ((rget ((mgG touchL (ownD how xs xs' XS) YS i).2) 0).y1)), (161, .slice (pB gy_) ky cy), (162, iq (i : Int)), (163, .pointer (some ⟨gy_, i, none⟩)), (164, iq (YS.getD i 0)), (165, .bool true), (169, .slice Ar kr cr), (170, .slice Aw kw cw), (171, .bool false), (188, .slice Aq kq cq), (189, .slice Ar kr cr), (190, .slice A57 (kq + kr) cp57)] [.gen (rowE (Aw) gw kw cw 53 4 (rvals (ownD how xs xs' XS (YS.getD i 0) (YS.getD (i + 1) 0))) true), .gen (rowE (A57) g57 (kq + kr) cp57 53 4 (rvals (((mgG touchL (ownD how xs xs' XS) YS i).1) ++ ((mgG touchL (ownD how xs xs' XS) YS i).2))) true), .gen (rowE (Ar) gr kr cr 53 4 (rvals ((mgG touchL (ownD how xs xs' XS) YS i).2)) true), .gen (rowE (Ay) gy_ ky cy 3 1 (ivals .i64 YS) true), .gen (rowE (Ax) gx_ kx cx 3 1 (ivals .i64 XS) true), .gen (rdE (A) g o n 4 (rvals xs)), .gen (rdE (A') g' o' n' 4 (rvals xs'))] (by kernel_rfl) rfl ?_
    refine cont_fact (F := (0 < (kq + kr) → (A57 : Option Addr) = pB g57) ∧ (((mgG touchL (ownD how xs xs' XS) YS i).1) ++ ((mgG touchL (ownD how xs xs' XS) YS i).2)).length = (kq + kr) ∧ (kq + kr) ≤ cp57 ∧ cp57 ≤ maxLen) (fun w hT => Row.factsR (hT.ok 1 _ rfl)) (fun hr58_ => ?_)
    obtain ⟨hr58_a, hr58_l, hr58_c, hr58_m⟩ := hr58_
    unfold maxLen at hr58_m
    refine bS [0] 4 0 [(0, .slice A n cap), (1, .slice A' n' cap'), (2, iq how), (7, .slice Ax kx cx), (8, .slice Ay ky cy), (11, .slice A57 (kq + kr) cp57), (13, iq (i : Int)), (14, .slice Aw kw cw), (152, .slice (pB gr) kr cr), (153, .slice Ar kr cr), (154, iq (kr : Int)), (155, iq ((kr : Int) - 1)), (156, iq (mn 0 ((kr : Int) - 1))), (157, iq 0), (158, .pointer (some ⟨gr, 0 * 4, none⟩)), (159, .pointer (some ⟨gr, 0 * 4 + 3, none⟩)), (160, iq ((rget ((mgG touchL (ownD how xs xs' XS) YS i).2) 0).y1)), (161, .slice (pB gy_) ky cy), (162, iq (i : Int)), (163, .pointer (some ⟨gy_, i, none⟩)), (164, iq (YS.getD i 0)), (165, .bool true), (169, .slice Ar kr cr), (170, .slice Aw kw cw), (171, .bool false)] ?_
    refine cont_done ?_
    refine then_normal ?_
    refine cont_region 2 rfl ?_
    refine bS [0, 0] 2 0 [(0, .slice A n cap), (1, .slice A' n' cap'), (2, iq how), (7, .slice Ax kx cx), (8, .slice Ay ky cy), (11, .slice A57 (kq + kr) cp57), (12, .slice Aw kw cw), (13, iq (i : Int)), (152, .slice (pB gr) kr cr), (153, .slice Ar kr cr), (154, iq (kr : Int)), (155, iq ((kr : Int) - 1)), (156, iq (mn 0 ((kr : Int) - 1))), (157, iq 0), (158, .pointer (some ⟨gr, 0 * 4, none⟩)), (159, .pointer (some ⟨gr, 0 * 4 + 3, none⟩)), (160, iq ((rget ((mgG touchL (ownD how xs xs' XS) YS i).2) 0).y1)), (161, .slice (pB gy_) ky cy), (162, iq (i : Int)), (163, .pointer (some ⟨gy_, i, none⟩)), (164, iq (YS.getD i 0)), (165, .bool true), (169, .slice Ar kr cr), (170, .slice Aw kw cw), (171, .bool false)] ?_
    refine cont_done ?_
    refine blk_normal ?_
    refine then_normal ?_
    refine cont_region 3 rfl ?_
    refine cont_pick [1, 0, 3, 4, 5, 6] [.gen (rowE (A57) g57 (kq + kr) cp57 53 4 (rvals (((mgG touchL (ownD how xs xs' XS) YS i).1) ++ ((mgG touchL (ownD how xs xs' XS) YS i).2))) true), .gen (rowE (Aw) gw kw cw 53 4 (rvals (ownD how xs xs' XS (YS.getD i 0) (YS.getD (i + 1) 0))) true), .gen (rowE (Ay) gy_ ky cy 3 1 (ivals .i64 YS) true), .gen (rowE (Ax) gx_ kx cx 3 1 (ivals .i64 XS) true), .gen (rdE (A) g o n 4 (rvals xs)), .gen (rdE (A') g' o' n' 4 (rvals xs'))] (by decide) rfl rfl ?_
    refine bS [0, 0] 2 1 [(0, .slice A n cap), (1, .slice A' n' cap'), (2, iq how), (7, .slice Ax kx cx), (8, .slice Ay ky cy), (11, .slice A57 (kq + kr) cp57), (12, .slice Aw kw cw), (65, iq (IntKind.i64.wrap ((i : Int) + 1))), (152, .slice (pB gr) kr cr), (153, .slice Ar kr cr), (154, iq (kr : Int)), (155, iq ((kr : Int) - 1)), (156, iq (mn 0 ((kr : Int) - 1))), (157, iq 0), (158, .pointer (some ⟨gr, 0 * 4, none⟩)), (159, .pointer (some ⟨gr, 0 * 4 + 3, none⟩)), (160, iq ((rget ((mgG touchL (ownD how xs xs' XS) YS i).2) 0).y1)), (161, .slice (pB gy_) ky cy), (162, iq (i : Int)), (163, .pointer (some ⟨gy_, i, none⟩)), (164, iq (YS.getD i 0)), (165, .bool true), (169, .slice Ar kr cr), (170, .slice Aw kw cw), (171, .bool false)] ?_
    refine cont_recast 65 (iq (IntKind.i64.wrap ((i : Int) + 1))) (iq ((i + 1 : Nat) : Int)) rfl (by rw [show (((i + 1 : Nat) : Int)) = (i : Int) + 1 by omega]; exact wrapI (by omega) (by omega)) ?_
    refine bS [0] 3 0 [(0, .slice A n cap), (1, .slice A' n' cap'), (2, iq how), (7, .slice Ax kx cx), (8, .slice Ay ky cy), (11, .slice A57 (kq + kr) cp57), (12, .slice Aw kw cw), (13, iq ((i + 1 : Nat) : Int)), (152, .slice (pB gr) kr cr), (153, .slice Ar kr cr), (154, iq (kr : Int)), (155, iq ((kr : Int) - 1)), (156, iq (mn 0 ((kr : Int) - 1))), (157, iq 0), (158, .pointer (some ⟨gr, 0 * 4, none⟩)), (159, .pointer (some ⟨gr, 0 * 4 + 3, none⟩)), (160, iq ((rget ((mgG touchL (ownD how xs xs' XS) YS i).2) 0).y1)), (161, .slice (pB gy_) ky cy), (162, iq (i : Int)), (163, .pointer (some ⟨gy_, i, none⟩)), (164, iq (YS.getD i 0)), (165, .bool true), (169, .slice Ar kr cr), (170, .slice Aw kw cw), (171, .bool false)] ?_
    refine cont_done ?_
    refine then_normal ?_
    have hst_ := mgG_off (al := touchL) (own := (ownD how xs xs' XS)) (ys := YS) (i := i) hal_
    refine cont_rowEqR 0 (((mgG touchL (ownD how xs xs' XS) YS i).1) ++ ((mgG touchL (ownD how xs xs' XS) YS i).2)) ((mgG touchL (ownD how xs xs' XS) YS (i + 1)).1) rfl hst_.1 ?_
    refine cont_rowEqR 1 (ownD how xs xs' XS (YS.getD i 0) (YS.getD (i + 1) 0)) ((mgG touchL (ownD how xs xs' XS) YS (i + 1)).2) rfl hst_.2 ?_
    refine cont_again (i + 1, (kq + kr), A57, g57, cp57, kw, Aw, gw, cw) (show (i + 1) ≤ YS.length - 1 from (by omega)) (show YS.length - 1 - (i + 1) < YS.length - 1 - i from by omega) (by kernel_rfl) (by kernel_rfl)
   refine cont_recast 165 (.bool (((rget ((mgG touchL (ownD how xs xs' XS) YS i).2) 0).y1) == (YS.getD i 0))) (.bool false) rfl (congrArg Value.bool c52_) ?_
   replace c52_ := ne_of_beqf c52_
   refine bS [0, 0, 0, 0] 6 0 [(0, .slice A n cap), (1, .slice A' n' cap'), (2, iq how), (7, .slice Ax kx cx), (8, .slice Ay ky cy), (11, .slice Aq kq cq), (12, .slice Ar kr cr), (13, iq (i : Int)), (14, .slice Aw kw cw), (152, .slice (pB gr) kr cr), (153, .slice Ar kr cr), (154, iq (kr : Int)), (155, iq ((kr : Int) - 1)), (156, iq (mn 0 ((kr : Int) - 1))), (157, iq 0), (158, .pointer (some ⟨gr, 0 * 4, none⟩)), (159, .pointer (some ⟨gr, 0 * 4 + 3, none⟩)), (160, iq ((rget ((mgG touchL (ownD how xs xs' XS) YS i).2) 0).y1)), (161, .slice (pB gy_) ky cy), (162, iq (i : Int)), (163, .pointer (some ⟨gy_, i, none⟩)), (164, iq (YS.getD i 0)), (165, .bool false), (169, undef), (170, undef), (171, undef), (172, .bool false)] ?_
   refine cont_done ?_
   refine then_normal ?_
   refine cont_false rfl ?_
   refine cont_skip ?_
   refine then_normal ?_
   refine cont_seq ?_
   refine cont_region 4 rfl ?_
   have hal_ : touchL (mgG touchL (ownD how xs xs' XS) YS i).2 (ownD how xs xs' XS (YS.getD i 0) (YS.getD (i + 1) 0)) (YS.getD i 0) = false := by first | exact touchL_no0 (by omega) | exact touchL_no1 ‹_› | exact touchL_no2 ‹_›
   refine bS [0, 0] 2 2 [(0, .slice A n cap), (1, .slice A' n' cap'), (2, iq how), (7, .slice Ax kx cx), (8, .slice Ay ky cy), (13, iq (i : Int)), (14, .slice Aw kw cw), (152, .slice (pB gr) kr cr), (153, .slice Ar kr cr), (154, iq (kr : Int)), (155, iq ((kr : Int) - 1)), (156, iq (mn 0 ((kr : Int) - 1))), (157, iq 0), (158, .pointer (some ⟨gr, 0 * 4, none⟩)), (159, .pointer (some ⟨gr, 0 * 4 + 3, none⟩)), (160, iq ((rget ((mgG touchL (ownD how xs xs' XS) YS i).2) 0).y1)), (161, .slice (pB gy_) ky cy), (162, iq (i : Int)), (163, .pointer (some ⟨gy_, i, none⟩)), (164, iq (YS.getD i 0)), (165, .bool false), (169, undef), (170, undef), (171, undef), (188, .slice Aq kq cq), (189, .slice Ar kr cr)] ?_
   refine pl_step 3 1 rfl rfl ?_
   refine sem_stepW (α := Option Addr × Nat × Nat) 190 (Builtin.append_ #[58, 58] 58 #[.slice Aq kq cq, .slice Ar kr cr]) (fun x_ => .slice x_.1 (kq + kr) x_.2.2) (fun x_ => [.gen (rowE (Aw) gw kw cw 53 4 (rvals (ownD how xs xs' XS (YS.getD i 0) (YS.getD (i + 1) 0))) true), .gen (rowE (x_.1) x_.2.1 (kq + kr) x_.2.2 53 4 (rvals (((mgG touchL (ownD how xs xs' XS) YS i).1) ++ ((mgG touchL (ownD how xs xs' XS) YS i).2))) true), .gen (rowE (Ar) gr kr cr 53 4 (rvals ((mgG touchL (ownD how xs xs' XS) YS i).2)) true), .gen (rowE (Ay) gy_ ky cy 3 1 (ivals .i64 YS) true), .gen (rowE (Ax) gx_ kx cx 3 1 (ivals .i64 XS) true), .gen (rdE (A) g o n 4 (rvals xs)), .gen (rdE (A') g' o' n' 4 (rvals xs'))]) (fun _ => True) (by kernel_rfl) (fun w hT => append_own (n' := (kq + kr)) (z := .agg #[iq 0, iq 0, iq 0, iq 0]) hT (i := 1) (bytes := 32) rfl (by kernel_rfl) (by kernel_rfl) rfl (by decide) (by decide) (Row.rd (hT.ok 2 _ rfl)) (rvals_one ((mgG touchL (ownD how xs xs' XS) YS i).2)) (by omega) (rvals_append ((mgG touchL (ownD how xs xs' XS) YS i).1) ((mgG touchL (ownD how xs xs' XS) YS i).2)) rfl) ?_
   rintro ⟨A59, g59, cp59⟩ -
   refine cont_norm [(0, .slice A n cap), (1, .slice A' n' cap'), (2, iq how), (7, .slice Ax kx cx), (8, .slice Ay ky cy), (13, iq (i : Int)), (14, .slice Aw kw cw), (152, .slice (pB gr) kr cr), (153, .slice Ar kr cr), (154, iq (kr : Int)), (155, iq ((kr : Int) - 1)), (156, iq (mn 0 ((kr : Int) - 1))), (157, iq 0), (158, .pointer (some ⟨gr, 0 * 4, none⟩)), (159, .pointer (some ⟨gr, 0 * 4 + 3, none⟩)), (160, iq ((rget ((mgG touchL (ownD how xs xs' XS) YS i).2) 0).y1)), (161, .slice (pB gy_) ky cy), (162, iq (i : Int)), (163, .pointer (some ⟨gy_, i, none⟩)), (164, iq (YS.getD i 0)), (165, .bool false), (169, undef), (170, undef), (171, undef), (188, .slice Aq kq cq), (189, .slice Ar kr cr), (190, .slice A59 (kq + kr) cp59)] [.gen (rowE (Aw) gw kw cw 53 4 (rvals (ownD how xs xs' XS (YS.getD i 0) (YS.getD (i + 1) 0))) true), .gen (rowE (A59) g59 (kq + kr) cp59 53 4 (rvals (((mgG touchL (ownD how xs xs' XS) YS i).1) ++ ((mgG touchL (ownD how xs xs' XS) YS i).2))) true), .gen (rowE (Ar) gr kr cr 53 4 (rvals ((mgG touchL (ownD how xs xs' XS) YS i).2)) true), .gen (rowE (Ay) gy_ ky cy 3 1 (ivals .i64 YS) true), .gen (rowE (Ax) gx_ kx cx 3 1 (ivals .i64 XS) true), .gen (rdE (A) g o n 4 (rvals xs)), .gen (rdE (A') g' o' n' 4 (rvals xs'))] (by kernel_rfl) rfl ?_
   refine cont_fact (F := (0 < (kq + kr) → (A59 : Option Addr) = pB g59) ∧ (((mgG touchL (ownD how xs xs' XS) YS i).1) ++ ((mgG touchL (ownD how xs xs' XS) YS i).2)).length = (kq + kr) ∧ (kq + kr) ≤ cp59 ∧ cp59 ≤ maxLen) (fun w hT => Row.factsR (hT.ok 1 _ rfl)) (fun hr60_ => ?_)
   obtain ⟨hr60_a, hr60_l, hr60_c, hr60_m⟩ := hr60_
   unfold maxLen at hr60_m
   refine bS [0] 4 0 [(0, .slice A n cap), (1, .slice A' n' cap'), (2, iq how), (7, .slice Ax kx cx), (8, .slice Ay ky cy), (11, .slice A59 (kq + kr) cp59), (13, iq (i : Int)), (14, .slice Aw kw cw), (152, .slice (pB gr) kr cr), (153, .slice Ar kr cr), (154, iq (kr : Int)), (155, iq ((kr : Int) - 1)), (156, iq (mn 0 ((kr : Int) - 1))), (157, iq 0), (158, .pointer (some ⟨gr, 0 * 4, none⟩)), (159, .pointer (some ⟨gr, 0 * 4 + 3, none⟩)), (160, iq ((rget ((mgG touchL (ownD how xs xs' XS) YS i).2) 0).y1)), (161, .slice (pB gy_) ky cy), (162, iq (i : Int)), (163, .pointer (some ⟨gy_, i, none⟩)), (164, iq (YS.getD i 0)), (165, .bool false), (169, undef), (170, undef), (171, undef)] ?_
   refine cont_done ?_
   refine then_normal ?_
   refine cont_region 2 rfl ?_
   refine bS [0, 0] 2 0 [(0, .slice A n cap), (1, .slice A' n' cap'), (2, iq how), (7, .slice Ax kx cx), (8, .slice Ay ky cy), (11, .slice A59 (kq + kr) cp59), (12, .slice Aw kw cw), (13, iq (i : Int)), (152, .slice (pB gr) kr cr), (153, .slice Ar kr cr), (154, iq (kr : Int)), (155, iq ((kr : Int) - 1)), (156, iq (mn 0 ((kr : Int) - 1))), (157, iq 0), (158, .pointer (some ⟨gr, 0 * 4, none⟩)), (159, .pointer (some ⟨gr, 0 * 4 + 3, none⟩)), (160, iq ((rget ((mgG touchL (ownD how xs xs' XS) YS i).2) 0).y1)), (161, .slice (pB gy_) ky cy), (162, iq (i : Int)), (163, .pointer (some ⟨gy_, i, none⟩)), (164, iq (YS.getD i 0)), (165, .bool false), (169, undef), (170, undef), (171, undef)] ?_
   refine cont_done ?_
   refine blk_normal ?_
   refine then_normal ?_
   refine cont_region 3 rfl ?_
   refine cont_pick [1, 0, 3, 4, 5, 6] [.gen (rowE (A59) g59 (kq + kr) cp59 53 4 (rvals (((mgG touchL (ownD how xs xs' XS) YS i).1) ++ ((mgG touchL (ownD how xs xs' XS) YS i).2))) true), .gen (rowE (Aw) gw kw cw 53 4 (rvals (ownD how xs xs' XS (YS.getD i 0) (YS.getD (i + 1) 0))) true), .gen (rowE (Ay) gy_ ky cy 3 1 (ivals .i64 YS) true), .gen (rowE (Ax) gx_ kx cx 3 1 (ivals .i64 XS) true), .gen (rdE (A) g o n 4 (rvals xs)), .gen (rdE (A') g' o' n' 4 (rvals xs'))] (by decide) rfl rfl ?_
   refine bS [0, 0] 2 1 [(0, .slice A n cap), (1, .slice A' n' cap'), (2, iq how), (7, .slice Ax kx cx), (8, .slice Ay ky cy), (11, .slice A59 (kq + kr) cp59), (12, .slice Aw kw cw), (65, iq (IntKind.i64.wrap ((i : Int) + 1))), (152, .slice (pB gr) kr cr), (153, .slice Ar kr cr), (154, iq (kr : Int)), (155, iq ((kr : Int) - 1)), (156, iq (mn 0 ((kr : Int) - 1))), (157, iq 0), (158, .pointer (some ⟨gr, 0 * 4, none⟩)), (159, .pointer (some ⟨gr, 0 * 4 + 3, none⟩)), (160, iq ((rget ((mgG touchL (ownD how xs xs' XS) YS i).2) 0).y1)), (161, .slice (pB gy_) ky cy), (162, iq (i : Int)), (163, .pointer (some ⟨gy_, i, none⟩)), (164, iq (YS.getD i 0)), (165, .bool false), (169, undef), (170, undef), (171, undef)] ?_
   refine cont_recast 65 (iq (IntKind.i64.wrap ((i : Int) + 1))) (iq ((i + 1 : Nat) : Int)) rfl (by rw [show (((i + 1 : Nat) : Int)) = (i : Int) + 1 by omega]; exact wrapI (by omega) (by omega)) ?_
   refine bS [0] 3 0 [(0, .slice A n cap), (1, .slice A' n' cap'), (2, iq how), (7, .slice Ax kx cx), (8, .slice Ay ky cy), (11, .slice A59 (kq + kr) cp59), (12, .slice Aw kw cw), (13, iq ((i + 1 : Nat) : Int)), (152, .slice (pB gr) kr cr), (153, .slice Ar kr cr), (154, iq (kr : Int)), (155, iq ((kr : Int) - 1)), (156, iq (mn 0 ((kr : Int) - 1))), (157, iq 0), (158, .pointer (some ⟨gr, 0 * 4, none⟩)), (159, .pointer (some ⟨gr, 0 * 4 + 3, none⟩)), (160, iq ((rget ((mgG touchL (ownD how xs xs' XS) YS i).2) 0).y1)), (161, .slice (pB gy_) ky cy), (162, iq (i : Int)), (163, .pointer (some ⟨gy_, i, none⟩)), (164, iq (YS.getD i 0)), (165, .bool false), (169, undef), (170, undef), (171, undef)] ?_
   refine cont_done ?_
   refine then_normal ?_
   have hst_ := mgG_off (al := touchL) (own := (ownD how xs xs' XS)) (ys := YS) (i := i) hal_
   refine cont_rowEqR 0 (((mgG touchL (ownD how xs xs' XS) YS i).1) ++ ((mgG touchL (ownD how xs xs' XS) YS i).2)) ((mgG touchL (ownD how xs xs' XS) YS (i + 1)).1) rfl hst_.1 ?_
   refine cont_rowEqR 1 (ownD how xs xs' XS (YS.getD i 0) (YS.getD (i + 1) 0)) ((mgG touchL (ownD how xs xs' XS) YS (i + 1)).2) rfl hst_.2 ?_
   refine cont_again (i + 1, (kq + kr), A59, g59, cp59, kw, Aw, gw, cw) (show (i + 1) ≤ YS.length - 1 from (by omega)) (show YS.length - 1 - (i + 1) < YS.length - 1 - i from by omega) (by kernel_rfl) (by kernel_rfl)
  replace c51_ := of_decide_eq_false c51_
  refine takes 0 [] [(4, 0), (5, 0), (13, 0), (14, 0), (6, 0), (15, 0), (7, 0), (16, 0), (8, 0), (9, 0), (10, 0), (11, 0), (12, 0), (17, 0), (18, 0), (19, 0)] 0 [19, 18, 17, 12, 11, 10, 9, 8, 16, 7, 15, 6, 14, 13, 5, 4, 3, 2, 1, 0] [(0, .slice A n cap), (1, .slice A' n' cap'), (2, iq how), (7, .slice Ax kx cx), (8, .slice Ay ky cy), (11, .slice Aq kq cq), (12, .slice Ar kr cr), (13, iq (i : Int)), (14, .slice Aw kw cw), (17, .bool false), (152, undef), (153, undef), (154, undef), (155, undef), (156, undef), (157, undef), (158, undef), (159, undef), (160, undef), (161, undef), (162, undef), (163, undef), (164, undef), (165, undef)] (by kernel_rfl) (pok_then (pok_blk (pok_then (pok_then (pok_blk (pok_then pok_body)))))) (by kernel_rfl) rfl rfl (by kernel_rfl) (by kernel_rfl) ?_
  refine drawn_done (by kernel_rfl) ?_
  refine then_normal ?_
  refine cont_seq ?_
  refine cont_seq ?_
  refine cont_region 6 rfl ?_
  refine bS [0, 0, 0, 0, 0, 0] 6 0 [(0, .slice A n cap), (1, .slice A' n' cap'), (2, iq how), (7, .slice Ax kx cx), (8, .slice Ay ky cy), (11, .slice Aq kq cq), (12, .slice Ar kr cr), (13, iq (i : Int)), (14, .slice Aw kw cw), (152, undef), (153, undef), (154, undef), (155, undef), (156, undef), (157, undef), (158, undef), (159, undef), (160, undef), (161, undef), (162, undef), (163, undef), (164, undef), (165, undef), (169, undef), (170, undef), (171, undef), (172, .bool false)] ?_
  refine cont_done ?_
  refine then_normal ?_
  refine cont_false rfl ?_
  refine cont_skip ?_
  refine then_normal ?_
  refine cont_seq ?_
  refine cont_region 4 rfl ?_
  have hal_ : touchL (mgG touchL (ownD how xs xs' XS) YS i).2 (ownD how xs xs' XS (YS.getD i 0) (YS.getD (i + 1) 0)) (YS.getD i 0) = false := by first | exact touchL_no0 (by omega) | exact touchL_no1 ‹_› | exact touchL_no2 ‹_›
  refine bS [0, 0] 2 2 [(0, .slice A n cap), (1, .slice A' n' cap'), (2, iq how), (7, .slice Ax kx cx), (8, .slice Ay ky cy), (13, iq (i : Int)), (14, .slice Aw kw cw), (152, undef), (153, undef), (154, undef), (155, undef), (156, undef), (157, undef), (158, undef), (159, undef), (160, undef), (161, undef), (162, undef), (163, undef), (164, undef), (165, undef), (169, undef), (170, undef), (171, undef), (188, .slice Aq kq cq), (189, .slice Ar kr cr)] ?_
  refine pl_step 3 1 rfl rfl ?_
  refine sem_stepW (α := Option Addr × Nat × Nat) 190 (Builtin.append_ #[58, 58] 58 #[.slice Aq kq cq, .slice Ar kr cr]) (fun x_ => .slice x_.1 (kq + kr) x_.2.2) (fun x_ => [.gen (rowE (Aw) gw kw cw 53 4 (rvals (ownD how xs xs' XS (YS.getD i 0) (YS.getD (i + 1) 0))) true), .gen (rowE (x_.1) x_.2.1 (kq + kr) x_.2.2 53 4 (rvals (((mgG touchL (ownD how xs xs' XS) YS i).1) ++ ((mgG touchL (ownD how xs xs' XS) YS i).2))) true), .gen (rowE (Ar) gr kr cr 53 4 (rvals ((mgG touchL (ownD how xs xs' XS) YS i).2)) true), .gen (rowE (Ay) gy_ ky cy 3 1 (ivals .i64 YS) true), .gen (rowE (Ax) gx_ kx cx 3 1 (ivals .i64 XS) true), .gen (rdE (A) g o n 4 (rvals xs)), .gen (rdE (A') g' o' n' 4 (rvals xs'))]) (fun _ => True) (by kernel_rfl) (fun w hT => append_own (n' := (kq + kr)) (z := .agg #[iq 0, iq 0, iq 0, iq 0]) hT (i := 1) (bytes := 32) rfl (by kernel_rfl) (by kernel_rfl) rfl (by decide) (by decide) (Row.rd (hT.ok 2 _ rfl)) (rvals_one ((mgG touchL (ownD how xs xs' XS) YS i).2)) (by omega) (rvals_append ((mgG touchL (ownD how xs xs' XS) YS i).1) ((mgG touchL (ownD how xs xs' XS) YS i).2)) rfl) ?_
  rintro ⟨A61, g61, cp61⟩ -
  refine cont_norm [(0, .slice A n cap), (1, .slice A' n' cap'), (2, iq how), (7, .slice Ax kx cx), (8, .slice Ay ky cy), (13, iq (i : Int)), (14, .slice Aw kw cw), (152, undef), (153, undef), (154, undef), (155, undef), (156, undef), (157, undef), (158, undef), (159, undef), (160, undef), (161, undef), (162, undef), (163, undef), (164, undef), (165, undef), (169, undef), (170, undef), (171, undef), (188, .slice Aq kq cq), (189, .slice Ar kr cr), (190, .slice A61 (kq + kr) cp61)] [.gen (rowE (Aw) gw kw cw 53 4 (rvals (ownD how xs xs' XS (YS.getD i 0) (YS.getD (i + 1) 0))) true), .gen (rowE (A61) g61 (kq + kr) cp61 53 4 (rvals (((mgG touchL (ownD how xs xs' XS) YS i).1) ++ ((mgG touchL (ownD how xs xs' XS) YS i).2))) true), .gen (rowE (Ar) gr kr cr 53 4 (rvals ((mgG touchL (ownD how xs xs' XS) YS i).2)) true), .gen (rowE (Ay) gy_ ky cy 3 1 (ivals .i64 YS) true), .gen (rowE (Ax) gx_ kx cx 3 1 (ivals .i64 XS) true), .gen (rdE (A) g o n 4 (rvals xs)), .gen (rdE (A') g' o' n' 4 (rvals xs'))] (by kernel_rfl) rfl ?_
  refine cont_fact (F := (0 < (kq + kr) → (A61 : Option Addr) = pB g61) ∧ (((mgG touchL (ownD how xs xs' XS) YS i).1) ++ ((mgG touchL (ownD how xs xs' XS) YS i).2)).length = (kq + kr) ∧ (kq + kr) ≤ cp61 ∧ cp61 ≤ maxLen) (fun w hT => Row.factsR (hT.ok 1 _ rfl)) (fun hr62_ => ?_)
  obtain ⟨hr62_a, hr62_l, hr62_c, hr62_m⟩ := hr62_
  unfold maxLen at hr62_m
  refine bS [0] 4 0 [(0, .slice A n cap), (1, .slice A' n' cap'), (2, iq how), (7, .slice Ax kx cx), (8, .slice Ay ky cy), (11, .slice A61 (kq + kr) cp61), (13, iq (i : Int)), (14, .slice Aw kw cw), (152, undef), (153, undef), (154, undef), (155, undef), (156, undef), (157, undef), (158, undef), (159, undef), (160, undef), (161, undef), (162, undef), (163, undef), (164, undef), (165, undef), (169, undef), (170, undef), (171, undef)] ?_
  refine cont_done ?_
  refine then_normal ?_
  refine cont_region 2 rfl ?_
  refine bS [0, 0] 2 0 [(0, .slice A n cap), (1, .slice A' n' cap'), (2, iq how), (7, .slice Ax kx cx), (8, .slice Ay ky cy), (11, .slice A61 (kq + kr) cp61), (12, .slice Aw kw cw), (13, iq (i : Int)), (152, undef), (153, undef), (154, undef), (155, undef), (156, undef), (157, undef), (158, undef), (159, undef), (160, undef), (161, undef), (162, undef), (163, undef), (164, undef), (165, undef), (169, undef), (170, undef), (171, undef)] ?_
  refine cont_done ?_
  refine blk_normal ?_
  refine then_normal ?_
  refine cont_region 3 rfl ?_
  refine cont_pick [1, 0, 3, 4, 5, 6] [.gen (rowE (A61) g61 (kq + kr) cp61 53 4 (rvals (((mgG touchL (ownD how xs xs' XS) YS i).1) ++ ((mgG touchL (ownD how xs xs' XS) YS i).2))) true), .gen (rowE (Aw) gw kw cw 53 4 (rvals (ownD how xs xs' XS (YS.getD i 0) (YS.getD (i + 1) 0))) true), .gen (rowE (Ay) gy_ ky cy 3 1 (ivals .i64 YS) true), .gen (rowE (Ax) gx_ kx cx 3 1 (ivals .i64 XS) true), .gen (rdE (A) g o n 4 (rvals xs)), .gen (rdE (A') g' o' n' 4 (rvals xs'))] (by decide) rfl rfl ?_
  refine bS [0, 0] 2 1 [(0, .slice A n cap), (1, .slice A' n' cap'), (2, iq how), (7, .slice Ax kx cx), (8, .slice Ay ky cy), (11, .slice A61 (kq + kr) cp61), (12, .slice Aw kw cw), (65, iq (IntKind.i64.wrap ((i : Int) + 1))), (152, undef), (153, undef), (154, undef), (155, undef), (156, undef), (157, undef), (158, undef), (159, undef), (160, undef), (161, undef), (162, undef), (163, undef), (164, undef), (165, undef), (169, undef), (170, undef), (171, undef)] ?_
  refine cont_recast 65 (iq (IntKind.i64.wrap ((i : Int) + 1))) (iq ((i + 1 : Nat) : Int)) rfl (by rw [show (((i + 1 : Nat) : Int)) = (i : Int) + 1 by omega]; exact wrapI (by omega) (by omega)) ?_
  refine bS [0] 3 0 [(0, .slice A n cap), (1, .slice A' n' cap'), (2, iq how), (7, .slice Ax kx cx), (8, .slice Ay ky cy), (11, .slice A61 (kq + kr) cp61), (12, .slice Aw kw cw), (13, iq ((i + 1 : Nat) : Int)), (152, undef), (153, undef), (154, undef), (155, undef), (156, undef), (157, undef), (158, undef), (159, undef), (160, undef), (161, undef), (162, undef), (163, undef), (164, undef), (165, undef), (169, undef), (170, undef), (171, undef)] ?_
  refine cont_done ?_
  refine then_normal ?_
  have hst_ := mgG_off (al := touchL) (own := (ownD how xs xs' XS)) (ys := YS) (i := i) hal_
  refine cont_rowEqR 0 (((mgG touchL (ownD how xs xs' XS) YS i).1) ++ ((mgG touchL (ownD how xs xs' XS) YS i).2)) ((mgG touchL (ownD how xs xs' XS) YS (i + 1)).1) rfl hst_.1 ?_
  refine cont_rowEqR 1 (ownD how xs xs' XS (YS.getD i 0) (YS.getD (i + 1) 0)) ((mgG touchL (ownD how xs xs' XS) YS (i + 1)).2) rfl hst_.2 ?_
  refine cont_again (i + 1, (kq + kr), A61, g61, cp61, kw, Aw, gw, cw) (show (i + 1) ≤ YS.length - 1 from (by omega)) (show YS.length - 1 - (i + 1) < YS.length - 1 - i from by omega) (by kernel_rfl) (by kernel_rfl)
 replace c34_ := of_decide_eq_false c34_
 refine cont_false rfl ?_
 refine cont_exit ?_
 refine then_exit ?_
 refine then_exit ?_
 refine blk_exit ?_
 refine then_normal ?_
 refine cont_seq ?_
 refine cont_region 4 rfl ?_
 refine cont_fact (F := (0 < kq → (Aq : Option Addr) = pB gq) ∧ ((mgG touchL (ownD how xs xs' XS) YS i).1).length = kq ∧ kq ≤ cq ∧ cq ≤ maxLen) (fun w hT => Row.factsR (hT.ok 0 _ rfl)) (fun hr63_ => ?_)
 obtain ⟨hr63_a, hr63_l, hr63_c, hr63_m⟩ := hr63_
 unfold maxLen at hr63_m
 refine cont_fact (F := (0 < kr → (Ar : Option Addr) = pB gr) ∧ ((mgG touchL (ownD how xs xs' XS) YS i).2).length = kr ∧ kr ≤ cr ∧ cr ≤ maxLen) (fun w hT => Row.factsR (hT.ok 1 _ rfl)) (fun hr64_ => ?_)
 obtain ⟨hr64_a, hr64_l, hr64_c, hr64_m⟩ := hr64_
 unfold maxLen at hr64_m
 refine bS [0, 0] 2 2 [(192, .slice Aq kq cq), (193, .slice Ar kr cr)] ?_
 refine pl_step 3 1 rfl rfl ?_
 refine sem_stepW (α := Option Addr × Nat × Nat) 194 (Builtin.append_ #[58, 58] 58 #[.slice Aq kq cq, .slice Ar kr cr]) (fun x_ => .slice x_.1 (kq + kr) x_.2.2) (fun x_ => [.gen (rowE (x_.1) x_.2.1 (kq + kr) x_.2.2 53 4 (rvals (((mgG touchL (ownD how xs xs' XS) YS i).1) ++ ((mgG touchL (ownD how xs xs' XS) YS i).2))) true), .gen (rowE (Ar) gr kr cr 53 4 (rvals ((mgG touchL (ownD how xs xs' XS) YS i).2)) true), .gen (rowE (Ay) gy_ ky cy 3 1 (ivals .i64 YS) true), .gen (rowE (Ax) gx_ kx cx 3 1 (ivals .i64 XS) true), .gen (rdE (A) g o n 4 (rvals xs)), .gen (rdE (A') g' o' n' 4 (rvals xs'))]) (fun _ => True) (by kernel_rfl) (fun w hT => append_own (n' := (kq + kr)) (z := .agg #[iq 0, iq 0, iq 0, iq 0]) hT (i := 0) (bytes := 32) rfl (by kernel_rfl) (by kernel_rfl) rfl (by decide) (by decide) (Row.rd (hT.ok 1 _ rfl)) (rvals_one ((mgG touchL (ownD how xs xs' XS) YS i).2)) (by omega) (rvals_append ((mgG touchL (ownD how xs xs' XS) YS i).1) ((mgG touchL (ownD how xs xs' XS) YS i).2)) rfl) ?_
 rintro ⟨A65, g65, cp65⟩ -
 refine cont_norm [(192, .slice Aq kq cq), (193, .slice Ar kr cr), (194, .slice A65 (kq + kr) cp65)] [.gen (rowE (A65) g65 (kq + kr) cp65 53 4 (rvals (((mgG touchL (ownD how xs xs' XS) YS i).1) ++ ((mgG touchL (ownD how xs xs' XS) YS i).2))) true), .gen (rowE (Ar) gr kr cr 53 4 (rvals ((mgG touchL (ownD how xs xs' XS) YS i).2)) true), .gen (rowE (Ay) gy_ ky cy 3 1 (ivals .i64 YS) true), .gen (rowE (Ax) gx_ kx cx 3 1 (ivals .i64 XS) true), .gen (rdE (A) g o n 4 (rvals xs)), .gen (rdE (A') g' o' n' 4 (rvals xs'))] (by kernel_rfl) rfl ?_
 refine cont_fact (F := (0 < (kq + kr) → (A65 : Option Addr) = pB g65) ∧ (((mgG touchL (ownD how xs xs' XS) YS i).1) ++ ((mgG touchL (ownD how xs xs' XS) YS i).2)).length = (kq + kr) ∧ (kq + kr) ≤ cp65 ∧ cp65 ≤ maxLen) (fun w hT => Row.factsR (hT.ok 0 _ rfl)) (fun hr66_ => ?_)
 obtain ⟨hr66_a, hr66_l, hr66_c, hr66_m⟩ := hr66_
 unfold maxLen at hr66_m
 refine bS [0] 4 0 [(6, .slice A65 (kq + kr) cp65)] ?_
 refine cont_done ?_
 refine then_normal ?_
 refine cont_ret ?_
 refine ret_one (.inl rfl) rfl 0 (.slice A65 (kq + kr) cp65) (by kernel_rfl) (by kernel_rfl) (fun w hT => ?_)
 replace hT := hT.erase 5 (fun e h hw => by cases h; first | rfl | cases hw)
 replace hT := hT.erase 4 (fun e h hw => by cases h; first | rfl | cases hw)
 replace hT := hT.erase 3 (fun e h hw => by cases h; first | rfl | cases hw)
 replace hT := hT.erase 2 (fun e h hw => by cases h; first | rfl | cases hw)
 replace hT := hT.erase 1 (fun e h hw => by cases h; first | rfl | cases hw)
 rw [show i = YS.length - 1 by omega, regD_of how xs xs' XS YS hX hY] at hT
 exact ⟨_, _, _, _, rfl, hT⟩

theorem refOf (A : Option Addr) (g o n cap : Nat) (xs : List Rect) (w : World) (hT0 : Tab w w [.gen (rdE (A) g o n 4 (rvals xs))]) (hn : n ≤ 262144) :
    Calls Try.prog 48 #[.slice A n cap] w fun e w' => ∃ (A_ : Option Addr) (g_ k_ cp_ : Nat), e = .returned (.slice A_ k_ cp_) ∧ Tab w w' [.gen (rowE (A_) g_ k_ cp_ 53 4 (rvals (canR xs)) true)] := by
 obtain ⟨hra, hrl⟩ := Rd.factsR (hT0.ok 0 _ rfl)
 refine enter 5 [(0, .slice A n cap)] [.gen (rdE (A) g o n 4 (rvals xs))] Try.func48 rfl Try.ntmps48 rfl (by kernel_rfl) hT0 ?_
 refine cont_seq ?_
 refine cont_region 1 rfl ?_
 refine bS [0] 1 0 [(0, .slice A n cap)] ?_
 refine cont_done ?_
 refine then_normal ?_
 refine cont_seq ?_
 refine cont_region 3 rfl ?_
 refine bS [0] 1 2 [(3, .slice A n cap)] ?_
 refine pl_step 2 1 rfl rfl ?_
 refine cont_nilrow 53 4 ?_
 refine cont_norm [(3, .slice A n cap)] _ (by kernel_rfl) rfl ?_
 refine call_gen (d := 4) (α := Option Addr × Nat × Nat × Nat) (fun x_ => .slice x_.1 x_.2.2.1 x_.2.2.2) (fun x_ => [.gen (rowE (x_.1) x_.2.1 x_.2.2.1 x_.2.2.2 53 4 (rvals (regM (docK 0) xs [])) true), .gen (rowE (none) 0 0 0 53 4 (rvals []) true), .gen (rdE (A) g o n 4 (rvals xs))]) (fun x_ => True) (by kernel_rfl) (fun w hT => (refMerge A g o n cap xs none 0 0 0 0 [] 0 w (hT.viewRo (.cons (i := 1) rfl Vw.rd (.cons (i := 0) rfl Vw.rowRd .nil)) rfl) (by omega)).mono fun e w' ⟨A2, g3, k4, cp5, he_, ht_⟩ => ⟨(A2, g3, k4, cp5), he_, trivial, hT.news ht_ rfl⟩) ?_
 rintro ⟨A2, g3, k4, cp5⟩ hf6_
 refine cont_norm [(3, .slice A n cap), (4, .slice A2 k4 cp5)] _ (by kernel_rfl) rfl ?_
 refine cont_fact (F := (0 < k4 → (A2 : Option Addr) = pB g3) ∧ (regM (docK 0) xs []).length = k4 ∧ k4 ≤ cp5 ∧ cp5 ≤ maxLen) (fun w hT => Row.factsR (hT.ok 0 _ rfl)) (fun hr7_ => ?_)
 obtain ⟨hr7_a, hr7_l, hr7_c, hr7_m⟩ := hr7_
 unfold maxLen at hr7_m
 refine bS [0] 3 0 [(2, .slice A2 k4 cp5)] ?_
 refine cont_done ?_
 refine then_normal ?_
 refine cont_ret ?_
 refine ret_one (.inl rfl) rfl 0 (.slice A2 k4 cp5) (by kernel_rfl) (by kernel_rfl) (fun w hT => ?_)
 replace hT := hT.erase 2 (fun e h hw => by cases h; first | rfl | cases hw)
 replace hT := hT.erase 1 (fun e h hw => by cases h; first | rfl | cases hw)
 exact ⟨_, _, _, _, rfl, hT⟩

theorem refSmallL (A : Option Addr) (g o n cap : Nat) (xs : List Rect) (m : Nat) (w : World) (hT0 : Tab w w [.gen (rdE (A) g o n 4 (rvals xs))]) (hx : ∀ r ∈ xs, R64 r) (hm : m ≤ 1000) :
    Calls Try.prog 47 #[.slice A n cap, .int .i64 (m : Int)] w fun e w' => ∃ (A_ : Option Addr) (g_ k_ cp_ : Nat), e = .returned (.slice A_ k_ cp_) ∧ Tab w w' [.gen (rowE (A_) g_ k_ cp_ 53 4 (rvals (smallL xs m)) true)] := by
 obtain ⟨hra, hrl⟩ := Rd.factsR (hT0.ok 0 _ rfl)
 refine enter 27 [(0, .slice A n cap), (1, iq (m : Int))] [.gen (rdE (A) g o n 4 (rvals xs))] Try.func47 rfl Try.ntmps47 rfl (by kernel_rfl) hT0 ?_
 refine cont_seq ?_
 refine cont_region 1 rfl ?_
 refine bS [0] 1 0 [(0, .slice A n cap), (1, iq (m : Int))] ?_
 refine cont_done ?_
 refine then_normal ?_
 refine cont_seq ?_
 refine cont_region 1 rfl ?_
 refine bS [0] 1 0 [(0, .slice A n cap), (1, iq (m : Int)), (5, .slice none 0 0)] ?_
 refine cont_done ?_
 refine then_normal ?_
 refine cont_seq ?_
 refine cont_seq ?_
 refine cont_region 1 rfl ?_
 refine bS [0] 1 0 [(0, .slice A n cap), (1, iq (m : Int)), (5, .slice none 0 0), (6, iq 0)] ?_
 refine cont_done ?_
 refine then_normal ?_
 refine cont_block ?_
 refine cont_nilrow 53 4 ?_
 refine cont_norm [(0, .slice A n cap), (1, iq (m : Int)), (5, .slice none 0 0), (6, iq 0)] _ (by kernel_rfl) rfl ?_
 refine cont_rowEqR 0 ([]) (smallL xs 0) rfl rfl ?_
 refine cont_loop (α := Nat × Option Addr × Nat × Nat) (fun x_ : Nat × Option Addr × Nat × Nat => x_.1 ≤ n ∧ x_.1 ≤ m) (fun x_ : Nat × Option Addr × Nat × Nat => [(0, .slice A n cap), (1, iq (m : Int)), (5, .slice x_.2.1 x_.1 x_.2.2.2), (6, iq (x_.1 : Int))]) (fun x_ : Nat × Option Addr × Nat × Nat => [.gen (rowE (x_.2.1) x_.2.2.1 x_.1 x_.2.2.2 53 4 (rvals (smallL xs x_.1)) true), .gen (rdE (A) g o n 4 (rvals xs))]) (fun x_ : Nat × Option Addr × Nat × Nat => n - x_.1) (0, none, 0, 0) (show (0) ≤ n ∧ (0) ≤ m from ⟨by omega, by omega⟩) (by kernel_rfl) (by kernel_rfl) ?_
 rintro ⟨i, Aq, gq, cq⟩ hinv2_
 replace hinv2_ : i ≤ n ∧ i ≤ m := hinv2_
 refine cont_norm [(0, .slice A n cap), (1, iq (m : Int)), (5, .slice Aq i cq), (6, iq (i : Int))] _ (by kernel_rfl) rfl ?_
 obtain ⟨hi, him⟩ := hinv2_
 have hri : i < n → R64 (rget xs i) := fun h_ => hx _ (rget_mem (by omega))
 refine cont_seq ?_
 refine cont_seq ?_
 refine cont_region 9 rfl ?_
 refine bS [0, 0, 0, 0, 0] 5 4 [(0, .slice A n cap), (1, iq (m : Int)), (5, .slice Aq i cq), (6, iq (i : Int)), (11, .bool (decide ((i : Int) < (n : Int))))] ?_
 refine cont_split 11 (decide ((i : Int) < (n : Int))) rfl (fun c3_ => ?_) (fun c3_ => ?_)
 ·
  replace c3_ := of_decide_eq_true c3_
  refine bS [0, 0, 0, 0] 9 0 [(0, .slice A n cap), (1, iq (m : Int)), (5, .slice Aq i cq), (6, iq (i : Int)), (12, iq (i : Int)), (13, iq (m : Int)), (14, .bool (decide ((i : Int) < (m : Int)))), (15, .bool (decide ((i : Int) < (m : Int))))] ?_
  refine cont_done ?_
  refine then_normal ?_
  refine cont_split 15 (decide ((i : Int) < (m : Int))) rfl (fun c4_ => ?_) (fun c4_ => ?_)
  ·
   refine cont_recast 14 (.bool (decide ((i : Int) < (m : Int)))) (.bool true) rfl (congrArg Value.bool c4_) ?_
   replace c4_ := of_decide_eq_true c4_
   refine cont_true rfl ?_
   refine cont_skip ?_
   refine then_normal ?_
   refine cont_seq ?_
   refine cont_block ?_
   refine cont_region 9 rfl ?_
   refine bS [0, 0, 0] 3 6 [(0, .slice A n cap), (1, iq (m : Int)), (6, iq (i : Int)), (12, iq (i : Int)), (13, iq (m : Int)), (14, .bool true), (18, .slice Aq i cq), (19, .slice A n cap), (20, iq (i : Int))] ?_
   refine pl_step 4 5 rfl rfl ?_
   refine cont_recast 19 (.slice A n cap) (.slice (some ⟨g, o, none⟩) n cap) rfl (by rw [hra (by omega)]) ?_
   refine sem_step 21 (Instr.indexAt 58 (.slice (some ⟨g, o, none⟩) n cap) (iq (i : Int))) (.pointer (some ⟨g, o + i * 4, none⟩)) (by kernel_rfl) (fun w hT => run_indexAt (e := 53) (sz := 4) _ (by kernel_rfl) (by kernel_rfl) (by omega) (by omega) (by omega) w) ?_
   refine pl_step 5 4 rfl rfl ?_
   refine sem_step 22 (Instr.loadAt 53 (.pointer (some ⟨g, o + i * 4, none⟩))) (.agg #[iq ((rget xs i).x0), iq ((rget xs i).y0), iq ((rget xs i).x1), iq ((rget xs i).y1)]) (by kernel_rfl) (fun w hT => run_loadN (m := 4) (cs := rcells (rget xs i)) (by kernel_rfl) (by kernel_rfl) rfl (Rd.rect (hT.ok 1 _ rfl) (by omega))) ?_
   refine pl_step 6 3 rfl rfl ?_
   refine call_pure (d := 23) (.agg #[iq ((smallR (rget xs i)).x0), iq ((smallR (rget xs i)).y0), iq ((smallR (rget xs i)).x1), iq ((smallR (rget xs i)).y1)]) (by kernel_rfl) (fun w hT => refSmallQ (rget xs i) w (hri (by omega))) ?_
   refine batch1 [0] 7 2 (fun b5 => [(0, .slice A n cap), (1, iq (m : Int)), (6, iq (i : Int)), (12, iq (i : Int)), (13, iq (m : Int)), (14, .bool true), (18, .slice Aq i cq), (24, .slice (pB b5) 1 1)]) (fun b5 => [.cells b5 [iq ((smallR (rget xs i)).x0), iq ((smallR (rget xs i)).y0), iq ((smallR (rget xs i)).x1), iq ((smallR (rget xs i)).y1)] 53 true, .gen (rowE (Aq) gq i cq 53 4 (rvals (smallL xs i)) true), .gen (rdE (A) g o n 4 (rvals xs))]) rfl rfl [0, 1, 6, 12, 13, 14, 18, 24] (fun _ => rfl) (fun b5 => by kernel_rfl) (fun b5 => by kernel_rfl) (fun b5 => ?_)
   refine pl_step 8 1 rfl rfl ?_
   refine sem_stepW (α := Option Addr × Nat × Nat) 25 (Builtin.append_ #[58, 58] 58 #[.slice Aq i cq, .slice (pB b5) 1 1]) (fun x_ => .slice x_.1 (i + 1) x_.2.2) (fun x_ => [.cells b5 [iq ((smallR (rget xs i)).x0), iq ((smallR (rget xs i)).y0), iq ((smallR (rget xs i)).x1), iq ((smallR (rget xs i)).y1)] 53 true, .gen (rowE (x_.1) x_.2.1 (i + 1) x_.2.2 53 4 (rvals ((smallL xs i) ++ [(⟨(smallR (rget xs i)).x0, (smallR (rget xs i)).y0, (smallR (rget xs i)).x1, (smallR (rget xs i)).y1⟩ : Rect)])) true), .gen (rdE (A) g o n 4 (rvals xs))]) (fun _ => True) (by kernel_rfl) (fun w hT => append_own (n' := (i + 1)) (z := .agg #[iq 0, iq 0, iq 0, iq 0]) hT (i := 1) (bytes := 32) rfl (by kernel_rfl) (by kernel_rfl) rfl (by decide) (by decide) (Rd.ofCells (vals := rvals [(⟨(smallR (rget xs i)).x0, (smallR (rget xs i)).y0, (smallR (rget xs i)).x1, (smallR (rget xs i)).y1⟩ : Rect)]) (hT.ok 0 _ rfl) rfl rfl) (rvals_one [(⟨(smallR (rget xs i)).x0, (smallR (rget xs i)).y0, (smallR (rget xs i)).x1, (smallR (rget xs i)).y1⟩ : Rect)]) (by omega) (rvals_append (smallL xs i) [(⟨(smallR (rget xs i)).x0, (smallR (rget xs i)).y0, (smallR (rget xs i)).x1, (smallR (rget xs i)).y1⟩ : Rect)]) rfl) ?_
   rintro ⟨A6, g6, cp6⟩ -
   refine cont_norm [(0, .slice A n cap), (1, iq (m : Int)), (6, iq (i : Int)), (12, iq (i : Int)), (13, iq (m : Int)), (14, .bool true), (18, .slice Aq i cq), (24, .slice (pB b5) 1 1), (25, .slice A6 (i + 1) cp6)] _ (by kernel_rfl) rfl ?_
   refine cont_fact (F := (0 < (i + 1) → (A6 : Option Addr) = pB g6) ∧ ((smallL xs i) ++ [(⟨(smallR (rget xs i)).x0, (smallR (rget xs i)).y0, (smallR (rget xs i)).x1, (smallR (rget xs i)).y1⟩ : Rect)]).length = (i + 1) ∧ (i + 1) ≤ cp6 ∧ cp6 ≤ maxLen) (fun w hT => Row.factsR (hT.ok 1 _ rfl)) (fun hr7_ => ?_)
   obtain ⟨hr7_a, hr7_l, hr7_c, hr7_m⟩ := hr7_
   unfold maxLen at hr7_m
   refine bS [0] 9 0 [(0, .slice A n cap), (1, iq (m : Int)), (5, .slice A6 (i + 1) cp6), (6, iq (i : Int)), (12, iq (i : Int)), (13, iq (m : Int)), (14, .bool true)] ?_
   refine cont_forget 0 rfl ?_
   refine cont_done ?_
   refine blk_normal ?_
   refine then_normal ?_
   refine cont_region 3 rfl ?_
   refine bS [0, 0] 2 1 [(0, .slice A n cap), (1, iq (m : Int)), (5, .slice A6 (i + 1) cp6), (12, iq (i : Int)), (13, iq (m : Int)), (14, .bool true), (17, iq (IntKind.i64.wrap ((i : Int) + 1)))] ?_
   refine cont_recast 17 (iq (IntKind.i64.wrap ((i : Int) + 1))) (iq ((i : Int) + 1)) rfl (wrapI (by omega) (by omega)) ?_
   refine bS [0] 3 0 [(0, .slice A n cap), (1, iq (m : Int)), (5, .slice A6 (i + 1) cp6), (6, iq ((i : Int) + 1)), (12, iq (i : Int)), (13, iq (m : Int)), (14, .bool true)] ?_
   refine cont_done ?_
   refine then_normal ?_
   refine cont_rowEqR 0 ((smallL xs i) ++ [(⟨(smallR (rget xs i)).x0, (smallR (rget xs i)).y0, (smallR (rget xs i)).x1, (smallR (rget xs i)).y1⟩ : Rect)]) (smallL xs (i + 1)) rfl (smallL_put (by omega)) ?_
   refine cont_again (i + 1, A6, g6, cp6) (show (i + 1) ≤ n ∧ (i + 1) ≤ m from ⟨by omega, by omega⟩) (show n - (i + 1) < n - i from by omega) (by kernel_rfl) (by kernel_rfl)
  refine cont_recast 14 (.bool (decide ((i : Int) < (m : Int)))) (.bool false) rfl (congrArg Value.bool c4_) ?_
  replace c4_ := of_decide_eq_false c4_
  refine cont_false rfl ?_
  refine cont_exit ?_
  refine then_exit ?_
  refine then_exit ?_
  refine blk_exit ?_
  refine then_normal ?_
  refine cont_seq ?_
  refine cont_region 2 rfl ?_
  refine bS [0, 0] 2 0 [(4, .slice Aq i cq)] ?_
  refine cont_done ?_
  refine then_normal ?_
  refine cont_ret ?_
  refine ret_one (.inl rfl) rfl 0 (.slice Aq i cq) (by kernel_rfl) (by kernel_rfl) (fun w hT => ?_)
  replace hT := hT.erase 1 (fun e h hw => by cases h; first | rfl | cases hw)
  rw [smallL_end (m := m) (by omega) (by omega) (by omega)] at hT
  exact ⟨_, _, _, _, rfl, hT⟩
 replace c3_ := of_decide_eq_false c3_
 refine bS [0, 0, 0, 0] 9 0 [(0, .slice A n cap), (1, iq (m : Int)), (5, .slice Aq i cq), (6, iq (i : Int)), (12, undef), (13, undef), (14, undef), (15, .bool false)] ?_
 refine cont_done ?_
 refine then_normal ?_
 refine cont_false rfl ?_
 refine cont_exit ?_
 refine then_exit ?_
 refine then_exit ?_
 refine blk_exit ?_
 refine then_normal ?_
 refine cont_seq ?_
 refine cont_region 2 rfl ?_
 refine bS [0, 0] 2 0 [(4, .slice Aq i cq)] ?_
 refine cont_done ?_
 refine then_normal ?_
 refine cont_ret ?_
 refine ret_one (.inl rfl) rfl 0 (.slice Aq i cq) (by kernel_rfl) (by kernel_rfl) (fun w hT => ?_)
 replace hT := hT.erase 1 (fun e h hw => by cases h; first | rfl | cases hw)
 rw [smallL_end (m := m) (by omega) (by omega) (by omega)] at hT
 exact ⟨_, _, _, _, rfl, hT⟩

end Go.Proofs.Ytlfahohbkgdabaa

