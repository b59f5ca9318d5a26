/- Contracts of functions of the given program, printed by a program of this project. -/
import Derived.Test.YtommojgfkkoghaaL4x
import Derived.Test.YtommojgfkkoghaaWs
import Derived.Test.YtommojgfkkoghaaRr
import Derived.Test.YtommojgfkkoghaaProg
set_option linter.unusedVariables false
set_option linter.unusedSimpArgs false
namespace Go.Proofs.Ytommojgfkkoghaa
open Go Go.RowKit
set_option maxRecDepth 100000
set_option maxHeartbeats 8000000

theorem refSolid4 (W H : Int) (r n cap : Nat) (px : List Int) (a b c d : Int) (w : World) (hT0 : Tab w w [.gen (rdE (some ⟨r, 0, none⟩) r 0 n 1 (ivals .u32 px))]) (hok : ImgOk W H n px) :
    Calls Try.prog 43 #[.agg #[.int .i64 W, .int .i64 H, .slice (some ⟨r, 0, none⟩) n cap], .agg #[.int .i64 a, .int .i64 b, .int .i64 c, .int .i64 d]] w fun e w' => e = .returned (.bool (solidP W px a b c d)) ∧ Below w.heap.size w w' := by
 have hw1 := hok.w1
 have hw2 := hok.w2
 have hh1 := hok.h1
 have hh2 := hok.h2
 have hnum := hok.num
 have hlen := hok.len
 have hle := hok.le
 refine enter 35 [(0, .agg #[iq W, iq H, .slice (pB r) n cap]), (1, .agg #[iq a, iq b, iq c, iq d])] [.gen (rdE (pB r) r 0 n 1 (ivals .u32 px))] Try.func43 rfl Try.ntmps43 rfl (by kernel_rfl) hT0 ?_
 refine cont_seq ?_
 refine cont_region 3 rfl ?_
 refine batch2 [0, 0, 0] 3 0 (fun b1 b2 => [(2, .pointer (pB b1)), (3, .pointer (pB b2))]) (fun b1 b2 => [.cells b2 [iq a, iq b, iq c, iq d] 32 true, .cells b1 [iq W, iq H, .slice (pB r) n cap] 37 true, .gen (rdE (pB r) r 0 n 1 (ivals .u32 px))]) rfl rfl [2, 3] (fun _ _ => rfl) (fun b1 b2 => by kernel_rfl) (fun b1 b2 => by kernel_rfl) (fun b1 b2 => ?_)
 refine cont_done ?_
 refine then_normal ?_
 refine cont_seq ?_
 refine cont_seq ?_
 refine cont_region 1 rfl ?_
 refine bS [0] 1 0 [(2, .pointer (pB b1)), (3, .pointer (pB b2)), (5, iq 0)] ?_
 refine cont_done ?_
 refine then_normal ?_
 refine cont_block ?_
 refine cont_loop (α := Nat) (fun x_ : Nat => x_ ≤ n ∧ ∀ j : Nat, j < x_ → hasB a b c d ((j : Int) % W) ((j : Int) / W) = true → nsB (px.getD j 0) = false) (fun x_ : Nat => [(2, .pointer (pB b1)), (3, .pointer (pB b2)), (5, iq ((x_ : Nat) : Int))]) (fun x_ : Nat => [.cells b2 [iq a, iq b, iq c, iq d] 32 true, .cells b1 [iq W, iq H, .slice (pB r) n cap] 37 true, .gen (rdE (pB r) r 0 n 1 (ivals .u32 px))]) (fun x_ : Nat => n - x_) 0 (⟨by omega, fun j hj => by omega⟩) (by kernel_rfl) (by kernel_rfl) ?_
 rintro i hinv3_
 replace hinv3_ : i ≤ n ∧ ∀ j : Nat, j < i → hasB a b c d ((j : Int) % W) ((j : Int) / W) = true → nsB (px.getD j 0) = false := hinv3_
 refine cont_norm [(2, .pointer (pB b1)), (3, .pointer (pB b2)), (5, iq ((i : Nat) : Int))] _ (by kernel_rfl) rfl ?_
 obtain ⟨hi, hall⟩ := hinv3_
 have hxi : i < n → 0 ≤ px.getD i 0 ∧ px.getD i 0 < 4294967296 := fun h => hok.rng _ (by rw [List.getD_eq_getElem?_getD, List.getElem?_eq_getElem (by omega)]; simp)
 have hem := emod_range i hw1
 refine cont_seq ?_
 refine cont_seq ?_
 refine cont_region 5 rfl ?_
 refine bS [0, 0, 1, 0, 0] 5 0 [(2, .pointer (pB b1)), (3, .pointer (pB b2)), (5, iq ((i : Nat) : Int)), (11, .bool (decide (((i : Nat) : Int) < (n : Int))))] ?_
 refine cont_done ?_
 refine then_normal ?_
 refine cont_split 11 (decide (((i : Nat) : Int) < (n : Int))) rfl (fun c4_ => ?_) (fun c4_ => ?_)
 ·
  replace c4_ := of_decide_eq_true c4_
  refine cont_true rfl ?_
  refine cont_skip ?_
  refine then_normal ?_
  refine cont_seq ?_
  refine cont_block ?_
  refine cont_seq ?_
  refine cont_region 8 rfl ?_
  refine bS [0, 1, 0] 3 5 [(2, .pointer (pB b1)), (3, .pointer (pB b2)), (5, iq ((i : Nat) : Int)), (15, .slice (pB r) n cap), (16, iq ((i : Nat) : Int))] ?_
  refine pl_step 4 4 rfl rfl ?_
  refine sem_step 17 (Instr.indexAt 35 (.slice (pB r) n cap) (iq ((i : Nat) : Int))) (.pointer (some ⟨r, (i : Nat), none⟩)) (by kernel_rfl) (fun w hT => run_indexAt (e := 28) (sz := 1) _ (by kernel_rfl) (by kernel_rfl) (by omega) (by omega) (by omega) w) ?_
  refine pl_step 5 3 rfl rfl ?_
  refine sem_step 18 (Instr.loadAt 28 (.pointer (some ⟨r, (i : Nat), none⟩))) (.int .u32 (px.getD (i : Nat) 0)) (by kernel_rfl) (fun w hT => run_load1 (by kernel_rfl) (Rd.cell0 (hT.ok 2 _ rfl) ((i : Nat)) _ (ivals_get (by omega)))) ?_
  refine pl_step 6 2 rfl rfl ?_
  refine call_pure (d := 19) (.agg #[iq (pa (px.getD (i : Nat) 0)), iq (pr (px.getD (i : Nat) 0)), iq (pg (px.getD (i : Nat) 0)), iq (pb (px.getD (i : Nat) 0))]) (by kernel_rfl) (fun w hT => refParts (px.getD (i : Nat) 0) w (by omega) (by omega)) ?_
  refine batch1 [0, 0] 8 0 (fun b5 => [(2, .pointer (pB b1)), (3, .pointer (pB b2)), (5, iq ((i : Nat) : Int)), (6, .pointer (pB b5))]) (fun b5 => [.cells b5 [iq (pa (px.getD (i : Nat) 0)), iq (pr (px.getD (i : Nat) 0)), iq (pg (px.getD (i : Nat) 0)), iq (pb (px.getD (i : Nat) 0))] 86 true, .cells b2 [iq a, iq b, iq c, iq d] 32 true, .cells b1 [iq W, iq H, .slice (pB r) n cap] 37 true, .gen (rdE (pB r) r 0 n 1 (ivals .u32 px))]) rfl rfl [2, 3, 5, 6] (fun _ => rfl) (fun b5 => by kernel_rfl) (fun b5 => by kernel_rfl) (fun b5 => ?_)
  refine cont_done ?_
  refine then_normal ?_
  refine cont_seq ?_
  refine drawn_enter 15 [] rfl (by kernel_rfl) ?_
  refine takes 0 [] [(0, 1), (1, 0), (2, 0), (5, 0), (6, 0), (3, 2), (7, 2)] 8 [7, 3, 6, 5, 2, 1, 0] [(2, .pointer (pB b1)), (3, .pointer (pB b2)), (5, iq ((i : Nat) : Int)), (6, .pointer (pB b5)), (20, .agg #[iq a, iq b, iq c, iq d]), (21, iq ((i : Nat) : Int)), (23, iq W), (25, iq ((i : Nat) : Int)), (27, iq W)] (by kernel_rfl) (pok_then (pok_blk (pok_then (pok_then (pok_blk (pok_then pok_body)))))) (by kernel_rfl) rfl rfl (by kernel_rfl) (by kernel_rfl) ?_
  refine sem_take 0 [] 4 7 24 (bopS .rem 3 (.tmp 21) (.tmp 23) (iq ((i : Nat) : Int)) (iq W)) (iq (((i : Nat) : Int).tmod W)) (by kernel_rfl) (pok_then (pok_blk (pok_then (pok_then (pok_blk (pok_then pok_body)))))) (by kernel_rfl) rfl (by kernel_rfl) (by kernel_rfl) (fun w hT => run_rem (by omega) w) ?_
  refine cont_recast 24 (iq (((i : Nat) : Int).tmod W)) (iq (((i : Nat) : Int) % W)) rfl (tmodI (by omega)) ?_
  refine sem_take 0 [] 8 6 28 (bopS .quo 3 (.tmp 25) (.tmp 27) (iq ((i : Nat) : Int)) (iq W)) (iq (IntKind.i64.wrap (((i : Nat) : Int).tdiv W))) (by kernel_rfl) (pok_then (pok_blk (pok_then (pok_then (pok_blk (pok_then pok_body)))))) (by kernel_rfl) rfl (by kernel_rfl) (by kernel_rfl) (fun w hT => run_quo (by omega) w) ?_
  refine cont_recast 28 (iq (IntKind.i64.wrap (((i : Nat) : Int).tdiv W))) (iq (((i : Nat) : Int) / W)) rfl (tdivI (by omega) (by omega) (by omega)) ?_
  refine drawn_one 9 5 rfl (by kernel_rfl) ?_
  refine call_pure (d := 29) (.bool (hasB a b c d (((i : Nat) : Int) % W) (((i : Nat) : Int) / W))) (by kernel_rfl) (fun w hT => refHas a b c d (((i : Nat) : Int) % W) (((i : Nat) : Int) / W) w) ?_
  refine drawn_next 0 [] (by kernel_rfl) ?_
  refine takes 0 [] [(10, 0)] 4 [10, 9, 8, 4, 7, 3, 6, 5, 2, 1, 0] [(2, .pointer (pB b1)), (3, .pointer (pB b2)), (5, iq ((i : Nat) : Int)), (6, .pointer (pB b5)), (30, .bool (hasB a b c d (((i : Nat) : Int) % W) (((i : Nat) : Int) / W)))] (by kernel_rfl) (pok_then (pok_blk (pok_then (pok_then (pok_blk (pok_then pok_body)))))) (by kernel_rfl) rfl rfl (by kernel_rfl) (by kernel_rfl) ?_
  refine cont_split 30 (hasB a b c d (((i : Nat) : Int) % W) (((i : Nat) : Int) / W)) rfl (fun c6_ => ?_) (fun c6_ => ?_)
  ·
   have hhas : hasB a b c d (((i : Nat) : Int) % W) (((i : Nat) : Int) / W) = true := c6_
   refine takes 0 [] [(11, 0), (12, 0), (13, 0), (14, 0)] 0 [14, 13, 12, 11, 10, 9, 8, 4, 7, 3, 6, 5, 2, 1, 0] [(2, .pointer (pB b1)), (3, .pointer (pB b2)), (5, iq ((i : Nat) : Int)), (31, .pointer (pB b5)), (32, iq (pa (px.getD (i : Nat) 0))), (33, .bool ((pa (px.getD (i : Nat) 0)) != 255)), (34, .bool ((pa (px.getD (i : Nat) 0)) != 255))] (by kernel_rfl) (pok_then (pok_blk (pok_then (pok_then (pok_blk (pok_then pok_body)))))) (by kernel_rfl) rfl rfl (by kernel_rfl) (by kernel_rfl) ?_
   refine drawn_done (by kernel_rfl) ?_
   refine then_normal ?_
   refine cont_split 34 ((pa (px.getD (i : Nat) 0)) != 255) rfl (fun c7_ => ?_) (fun c7_ => ?_)
   ·
    refine cont_recast 33 (.bool ((pa (px.getD (i : Nat) 0)) != 255)) (.bool true) rfl (congrArg Value.bool c7_) ?_
    replace c7_ := ne_of_bne c7_
    have hns : pa (px.getD i 0) ≠ 255 := c7_
    refine cont_true rfl ?_
    refine cont_seq ?_
    refine cont_region 1 rfl ?_
    refine bS [0] 1 0 [(4, .bool false)] ?_
    refine cont_forget 0 rfl ?_
    refine cont_forget 0 rfl ?_
    refine cont_forget 0 rfl ?_
    refine cont_done ?_
    refine then_normal ?_
    refine cont_ret ?_
    refine blk_ret ?_
    refine then_ret ?_
    refine then_ret ?_
    refine blk_ret ?_
    refine then_ret ?_
    refine ret_one (.inl rfl) rfl 0 (.bool false) (by kernel_rfl) (by kernel_rfl) (fun w hT => ?_)
    exact ⟨ret_bool (by unfold solidP; exact (decide_eq_false (fun hh_ => by have h_ := hh_ i (by omega) hhas; unfold nsB at h_; simp at h_; exact hns h_)).symm), hT.post rfl⟩
   refine cont_recast 33 (.bool ((pa (px.getD (i : Nat) 0)) != 255)) (.bool false) rfl (congrArg Value.bool c7_) ?_
   replace c7_ := eq_of_bne_false c7_
   have hns : pa (px.getD i 0) = 255 := c7_
   refine cont_false rfl ?_
   refine cont_skip ?_
   refine blk_normal ?_
   refine then_normal ?_
   refine cont_region 3 rfl ?_
   refine bS [0, 0] 2 1 [(2, .pointer (pB b1)), (3, .pointer (pB b2)), (13, iq (IntKind.i64.wrap (((i : Nat) : Int) + 1))), (31, .pointer (pB b5)), (32, iq (pa (px.getD (i : Nat) 0))), (33, .bool false)] ?_
   refine cont_recast 13 (iq (IntKind.i64.wrap (((i : Nat) : Int) + 1))) (iq (((i : Nat) : Int) + 1)) rfl (wrapI (by omega) (by omega)) ?_
   refine bS [0] 3 0 [(2, .pointer (pB b1)), (3, .pointer (pB b2)), (5, iq (((i : Nat) : Int) + 1)), (31, .pointer (pB b5)), (32, iq (pa (px.getD (i : Nat) 0))), (33, .bool false)] ?_
   refine cont_done ?_
   refine then_normal ?_
   refine cont_forget 0 rfl ?_
   refine cont_again (i + 1) (show (i + 1) ≤ n ∧ ∀ j : Nat, j < (i + 1) → hasB a b c d ((j : Int) % W) ((j : Int) / W) = true → nsB (px.getD j 0) = false from ⟨by omega, fun j hj hh_ => by rcases Nat.lt_or_ge j i with h_ | h_; exact hall j h_ hh_; rw [show j = i by omega] at hh_ ⊢; exact by unfold nsB; rw [hns]; rfl⟩) (show n - (i + 1) < n - i from by omega) (by kernel_rfl) (by kernel_rfl)
  have hhas : hasB a b c d (((i : Nat) : Int) % W) (((i : Nat) : Int) / W) = false := c6_
  refine takes 0 [] [(11, 0), (12, 0), (13, 0), (14, 0)] 0 [14, 13, 12, 11, 10, 9, 8, 4, 7, 3, 6, 5, 2, 1, 0] [(2, .pointer (pB b1)), (3, .pointer (pB b2)), (5, iq ((i : Nat) : Int)), (31, undef), (32, undef), (33, undef), (34, .bool false)] (by kernel_rfl) (pok_then (pok_blk (pok_then (pok_then (pok_blk (pok_then pok_body)))))) (by kernel_rfl) rfl rfl (by kernel_rfl) (by kernel_rfl) ?_
  refine drawn_done (by kernel_rfl) ?_
  refine then_normal ?_
  refine cont_false rfl ?_
  refine cont_skip ?_
  refine blk_normal ?_
  refine then_normal ?_
  refine cont_region 3 rfl ?_
  refine bS [0, 0] 2 1 [(2, .pointer (pB b1)), (3, .pointer (pB b2)), (13, iq (IntKind.i64.wrap (((i : Nat) : Int) + 1))), (31, undef), (32, undef), (33, undef)] ?_
  refine cont_recast 13 (iq (IntKind.i64.wrap (((i : Nat) : Int) + 1))) (iq (((i : Nat) : Int) + 1)) rfl (wrapI (by omega) (by omega)) ?_
  refine cont_forget 0 rfl ?_
  refine bS [0] 3 0 [(2, .pointer (pB b1)), (3, .pointer (pB b2)), (5, iq (((i : Nat) : Int) + 1)), (31, undef), (32, undef), (33, undef)] ?_
  refine cont_done ?_
  refine then_normal ?_
  refine cont_again (i + 1) (show (i + 1) ≤ n ∧ ∀ j : Nat, j < (i + 1) → hasB a b c d ((j : Int) % W) ((j : Int) / W) = true → nsB (px.getD j 0) = false from ⟨by omega, fun j hj hh_ => by rcases Nat.lt_or_ge j i with h_ | h_; exact hall j h_ hh_; rw [show j = i by omega] at hh_ ⊢; exact absurd (hh_.symm.trans hhas) (by decide)⟩) (show n - (i + 1) < n - i from by omega) (by kernel_rfl) (by kernel_rfl)
 replace c4_ := of_decide_eq_false c4_
 refine cont_false rfl ?_
 refine cont_exit ?_
 refine then_exit ?_
 refine then_exit ?_
 refine blk_exit ?_
 refine then_normal ?_
 refine cont_seq ?_
 refine cont_region 1 rfl ?_
 refine bS [0] 1 0 [(4, .bool true)] ?_
 refine cont_forget 0 rfl ?_
 refine cont_forget 0 rfl ?_
 refine cont_done ?_
 refine then_normal ?_
 refine cont_ret ?_
 refine ret_one (.inl rfl) rfl 0 (.bool true) (by kernel_rfl) (by kernel_rfl) (fun w hT => ?_)
 exact ⟨ret_bool (by unfold solidP; exact (decide_eq_true (fun j hj hh_ => hall j (by omega) hh_)).symm), hT.post rfl⟩

theorem refReadB (W H : Int) (r n cap : Nat) (px : List Int) (a b c d : Int) (w : World) (hT0 : Tab w w [.gen (rdE (some ⟨r, 0, none⟩) r 0 n 1 (ivals .u32 px))]) (hok : ImgOk W H n px) (hg : insB W H a b c d = false) :
    Calls Try.prog 42 #[.agg #[.int .i64 W, .int .i64 H, .slice (some ⟨r, 0, none⟩) n cap], .agg #[.int .i64 a, .int .i64 b, .int .i64 c, .int .i64 d]] w fun e w' => e = .returned (.tuple #[.slice none 0 0, .int .i64 4]) ∧ Below w.heap.size w w' := by
 have hw1 := hok.w1
 have hw2 := hok.w2
 have hh1 := hok.h1
 have hh2 := hok.h2
 have hnum := hok.num
 have hlen := hok.len
 have hle := hok.le
 refine enter 61 [(0, .agg #[iq W, iq H, .slice (pB r) n cap]), (1, .agg #[iq a, iq b, iq c, iq d])] [.gen (rdE (pB r) r 0 n 1 (ivals .u32 px))] Try.func42 rfl Try.ntmps42 rfl (by kernel_rfl) hT0 ?_
 refine cont_seq ?_
 refine cont_region 4 rfl ?_
 refine batch2 [0, 0, 0, 0] 4 0 (fun b1 b2 => [(2, .pointer (pB b1)), (3, .pointer (pB b2))]) (fun b1 b2 => [.cells b2 [iq a, iq b, iq c, iq d] 32 true, .cells b1 [iq W, iq H, .slice (pB r) n cap] 37 true, .gen (rdE (pB r) r 0 n 1 (ivals .u32 px))]) rfl rfl [2, 3] (fun _ _ => rfl) (fun b1 b2 => by kernel_rfl) (fun b1 b2 => by kernel_rfl) (fun b1 b2 => ?_)
 refine cont_done ?_
 refine then_normal ?_
 refine cont_seq ?_
 refine drawn_enter 5 [] rfl (by kernel_rfl) ?_
 refine takes 0 [] [(0, 1), (2, 0)] 3 [2, 0] [(2, .pointer (pB b1)), (3, .pointer (pB b2)), (12, .agg #[iq W, iq H, .slice (pB r) n cap]), (14, .agg #[iq a, iq b, iq c, iq d])] (by kernel_rfl) (pok_then pok_body) (by kernel_rfl) rfl rfl (by kernel_rfl) (by kernel_rfl) ?_
 refine drawn_one 1 2 rfl (by kernel_rfl) ?_
 refine call_pure (d := 13) (.agg #[iq 0, iq 0, iq W, iq H]) (by kernel_rfl) (fun w hT => refBox W H (.slice (pB r) n cap) w) ?_
 refine drawn_next 0 [] (by kernel_rfl) ?_
 refine drawn_one 3 1 rfl (by kernel_rfl) ?_
 refine call_pure (d := 15) (.bool (coversB 0 0 W H a b c d)) (by kernel_rfl) (fun w hT => refCovers 0 0 W H a b c d w) ?_
 refine drawn_next 0 [] (by kernel_rfl) ?_
 refine takes 0 [] [(4, 0)] 0 [4, 3, 1, 2, 0] [(2, .pointer (pB b1)), (3, .pointer (pB b2)), (6, .bool (coversB 0 0 W H a b c d))] (by kernel_rfl) (pok_then pok_body) (by kernel_rfl) rfl rfl (by kernel_rfl) (by kernel_rfl) ?_
 refine drawn_done (by kernel_rfl) ?_
 refine then_normal ?_
 refine cont_seq ?_
 refine cont_seq ?_
 refine cont_region 6 rfl ?_
 refine bS [0] 1 5 [(2, .pointer (pB b1)), (3, .pointer (pB b2)), (6, .bool (coversB 0 0 W H a b c d)), (16, .agg #[iq a, iq b, iq c, iq d])] ?_
 refine pl_step 2 4 rfl rfl ?_
 refine call_pure (d := 17) (.bool (emptyB a b c d)) (by kernel_rfl) (fun w hT => refEmpty a b c d w) ?_
 refine bS [0] 3 3 [(2, .pointer (pB b1)), (3, .pointer (pB b2)), (6, .bool (coversB 0 0 W H a b c d)), (18, .bool (emptyB a b c d))] ?_
 refine cont_split 18 (emptyB a b c d) rfl (fun c3_ => ?_) (fun c3_ => ?_)
 ·
  refine bS [0, 0, 0] 6 0 [(2, .pointer (pB b1)), (3, .pointer (pB b2)), (21, .bool true)] ?_
  refine cont_done ?_
  refine then_normal ?_
  refine cont_true rfl ?_
  refine cont_seq ?_
  refine cont_region 2 rfl ?_
  refine bS [0, 0] 2 0 [(4, .slice none 0 0), (5, iq 4)] ?_
  refine cont_forget 0 rfl ?_
  refine cont_forget 0 rfl ?_
  refine cont_done ?_
  refine then_normal ?_
  refine cont_ret ?_
  refine then_ret ?_
  refine ret_two (.inl rfl) rfl 0 0 (.slice none 0 0) (iq 4) (by kernel_rfl) (by kernel_rfl) (by kernel_rfl) (by kernel_rfl) (fun w hT => ?_)
  exact ⟨rfl, hT.post rfl⟩
 have hem_ : emptyB a b c d = false := c3_
 refine bS [0, 0, 0] 6 0 [(2, .pointer (pB b1)), (3, .pointer (pB b2)), (21, .bool (!(coversB 0 0 W H a b c d)))] ?_
 refine cont_done ?_
 refine then_normal ?_
 refine cont_recast 21 (.bool (!(coversB 0 0 W H a b c d))) (.bool true) rfl (congrArg Value.bool (by cases h_ : coversB 0 0 W H a b c d with | false => rfl | true => (have h2_ := hg; unfold insB at h2_; rw [h_, hem_] at h2_; cases h2_))) ?_
 refine cont_true rfl ?_
 refine cont_seq ?_
 refine cont_region 2 rfl ?_
 refine bS [0, 0] 2 0 [(4, .slice none 0 0), (5, iq 4)] ?_
 refine cont_forget 0 rfl ?_
 refine cont_forget 0 rfl ?_
 refine cont_done ?_
 refine then_normal ?_
 refine cont_ret ?_
 refine then_ret ?_
 refine ret_two (.inl rfl) rfl 0 0 (.slice none 0 0) (iq 4) (by kernel_rfl) (by kernel_rfl) (by kernel_rfl) (by kernel_rfl) (fun w hT => ?_)
 exact ⟨rfl, hT.post rfl⟩

theorem refRead4 (W H : Int) (r n cap : Nat) (px : List Int) (a b c d : Int) (w : World) (hT0 : Tab w w [.gen (rdE (some ⟨r, 0, none⟩) r 0 n 1 (ivals .u32 px))]) (hok : ImgOk W H n px) (hg : insB W H a b c d = true) :
    Calls Try.prog 42 #[.agg #[.int .i64 W, .int .i64 H, .slice (some ⟨r, 0, none⟩) n cap], .agg #[.int .i64 a, .int .i64 b, .int .i64 c, .int .i64 d]] w fun e w' => ∃ (N g cp : Nat), e = .returned (.tuple #[.slice (some ⟨g, 0, none⟩) N cp, .int .i64 0]) ∧ Tab w w' [.gen (rowE (some ⟨g, 0, none⟩) g N cp 5 1 (ivals .u8 (readL W px a b c d)) true)] := by
  have hw1 := hok.w1
  have hw2 := hok.w2
  have hh1 := hok.h1
  have hh2 := hok.h2
  have hnum := hok.num
  have hlen := hok.len
  have hle := hok.le
  obtain ⟨hg1, hg2, hg3, hg4, hg5, hg6⟩ := insB_true hg
  obtain ⟨hge, hgc⟩ := insB_split hg
  refine enter 61 [(0, .agg #[.int .i64 W, .int .i64 H, .slice (some ⟨r, 0, none⟩) n cap]), (1, .agg #[.int .i64 a, .int .i64 b, .int .i64 c, .int .i64 d])] [.gen (rdE (some ⟨r, 0, none⟩) r 0 n 1 (ivals .u32 px))] Try.func42 rfl Try.ntmps42 rfl (by kernel_rfl) hT0 ?_
  refine cont_seq ?_
  refine cont_region 4 rfl ?_
  refine batch2 [0, 0, 0, 0] 4 0 (fun b1 b2 => [(2, .pointer (some ⟨b1, 0, none⟩)), (3, .pointer (some ⟨b2, 0, none⟩))]) (fun b1 b2 => [.cells b2 [.int .i64 a, .int .i64 b, .int .i64 c, .int .i64 d] 32 true, .cells b1 [.int .i64 W, .int .i64 H, .slice (some ⟨r, 0, none⟩) n cap] 37 true, .gen (rdE (some ⟨r, 0, none⟩) r 0 n 1 (ivals .u32 px))]) rfl rfl [2, 3] (fun _ _ => rfl) (fun b1 b2 => by kernel_rfl) (fun b1 b2 => by kernel_rfl) (fun b1 b2 => ?_)
  refine cont_done ?_
  refine then_normal ?_
  refine cont_seq ?_
  refine drawn_enter 5 [] rfl (by kernel_rfl) ?_
  refine takes 0 [] [(0, 1), (2, 0)] 3 [2, 0] [(2, .pointer (some ⟨b1, 0, none⟩)), (3, .pointer (some ⟨b2, 0, none⟩)), (12, .agg #[.int .i64 W, .int .i64 H, .slice (some ⟨r, 0, none⟩) n cap]), (14, .agg #[.int .i64 a, .int .i64 b, .int .i64 c, .int .i64 d])] (by kernel_rfl) (pok_then pok_body) (by kernel_rfl) rfl rfl (by kernel_rfl) (by kernel_rfl) ?_
  refine drawn_one 1 2 rfl (by kernel_rfl) ?_
  refine call_pure (d := 13) (.agg #[.int .i64 0, .int .i64 0, .int .i64 W, .int .i64 H]) (by kernel_rfl) (fun w hT => refBox W H (.slice (some ⟨r, 0, none⟩) n cap) w) ?_
  refine drawn_next 0 [] (by kernel_rfl) ?_
  refine drawn_one 3 1 rfl (by kernel_rfl) ?_
  refine call_pure (d := 15) (.bool (coversB 0 0 W H a b c d)) (by kernel_rfl) (fun w hT => refCovers 0 0 W H a b c d w) ?_
  refine drawn_next 0 [] (by kernel_rfl) ?_
  refine takes 0 [] [(4, 0)] 0 [4, 3, 1, 2, 0] [(2, .pointer (some ⟨b1, 0, none⟩)), (3, .pointer (some ⟨b2, 0, none⟩)), (6, .bool (coversB 0 0 W H a b c d))] (by kernel_rfl) (pok_then pok_body) (by kernel_rfl) rfl rfl (by kernel_rfl) (by kernel_rfl) ?_
  refine drawn_done (by kernel_rfl) ?_
  refine then_normal ?_
  refine cont_seq ?_
  refine cont_seq ?_
  refine cont_region 6 rfl ?_
  refine bS [0] 1 5 [(2, .pointer (some ⟨b1, 0, none⟩)), (3, .pointer (some ⟨b2, 0, none⟩)), (6, .bool (coversB 0 0 W H a b c d)), (16, .agg #[.int .i64 a, .int .i64 b, .int .i64 c, .int .i64 d])] ?_
  refine pl_step 2 4 rfl rfl ?_
  refine call_pure (d := 17) (.bool (emptyB a b c d)) (by kernel_rfl) (fun w hT => refEmpty a b c d w) ?_
  refine bS [0] 3 3 [(2, .pointer (some ⟨b1, 0, none⟩)), (3, .pointer (some ⟨b2, 0, none⟩)), (6, .bool (coversB 0 0 W H a b c d)), (18, .bool (emptyB a b c d))] ?_
  refine cont_recast 18 (.bool (emptyB a b c d)) (.bool false) rfl (congrArg Value.bool hge) ?_
  refine bS [0, 0, 0] 6 0 [(2, .pointer (some ⟨b1, 0, none⟩)), (3, .pointer (some ⟨b2, 0, none⟩)), (21, .bool (!(coversB 0 0 W H a b c d)))] ?_
  refine cont_done ?_
  refine then_normal ?_
  refine cont_recast 21 (.bool (!(coversB 0 0 W H a b c d))) (.bool false) rfl (congrArg Value.bool (by rw [hgc]; rfl)) ?_
  refine cont_false rfl ?_
  refine cont_skip ?_
  refine then_normal ?_
  refine cont_seq ?_
  refine cont_region 1 rfl ?_
  refine bS [0] 1 0 [(2, .pointer (some ⟨b1, 0, none⟩)), (3, .pointer (some ⟨b2, 0, none⟩)), (7, .slice none 0 0)] ?_
  refine cont_done ?_
  refine then_normal ?_
  refine cont_seq ?_
  refine cont_seq ?_
  refine cont_region 3 rfl ?_
  refine bS [0, 0, 0] 3 0 [(2, .pointer (some ⟨b1, 0, none⟩)), (3, .pointer (some ⟨b2, 0, none⟩)), (7, .slice none 0 0), (8, .int .i64 b)] ?_
  refine cont_done ?_
  refine then_normal ?_
  refine cont_block ?_
  refine cont_nilrow 5 1 ?_
  refine cont_norm [(2, .pointer (some ⟨b1, 0, none⟩)), (3, .pointer (some ⟨b2, 0, none⟩)), (7, .slice none 0 0), (8, .int .i64 b)] [.gen (rowE (none) 0 0 0 5 1 (ivals .u8 []) true), .cells b2 [.int .i64 a, .int .i64 b, .int .i64 c, .int .i64 d] 32 true, .cells b1 [.int .i64 W, .int .i64 H, .slice (some ⟨r, 0, none⟩) n cap] 37 true, .gen (rdE (some ⟨r, 0, none⟩) r 0 n 1 (ivals .u32 px))] (by kernel_rfl) rfl ?_
  refine cont_rowEq (k := .u8) 0 ([]) (rdP W px a b c 0) rfl rfl ?_
  refine cont_recast 8 (.int .i64 b) (.int .i64 (b + ((0 : Nat) : Int))) rfl (congrArg (Value.int .i64) (by omega)) ?_
  refine cont_loop (α := Nat × Nat × Option Addr × Nat × Nat) (fun x_ : Nat × Nat × Option Addr × Nat × Nat => b + (x_.1 : Int) ≤ d ∧ x_.2.1 = x_.1 * (4 * Int.toNat (c - a))) (fun x_ : Nat × Nat × Option Addr × Nat × Nat => [(2, .pointer (some ⟨b1, 0, none⟩)), (3, .pointer (some ⟨b2, 0, none⟩)), (7, .slice x_.2.2.1 x_.2.1 x_.2.2.2.2), (8, .int .i64 (b + (x_.1 : Int)))]) (fun x_ : Nat × Nat × Option Addr × Nat × Nat => [.gen (rowE (x_.2.2.1) x_.2.2.2.1 x_.2.1 x_.2.2.2.2 5 1 (ivals .u8 (rdP W px a b c x_.1)) true), .cells b2 [.int .i64 a, .int .i64 b, .int .i64 c, .int .i64 d] 32 true, .cells b1 [.int .i64 W, .int .i64 H, .slice (some ⟨r, 0, none⟩) n cap] 37 true, .gen (rdE (some ⟨r, 0, none⟩) r 0 n 1 (ivals .u32 px))]) (fun x_ : Nat × Nat × Option Addr × Nat × Nat => (d - b - x_.1).toNat) (0, 0, none, 0, 0) (show b + ((0) : Int) ≤ d ∧ (0) = (0) * (4 * Int.toNat (c - a)) from ⟨by omega, by simp⟩) (by kernel_rfl) (by kernel_rfl) ?_
  rintro ⟨j, N, A, g, cp⟩ hinv6_
  replace hinv6_ : b + (j : Int) ≤ d ∧ N = j * (4 * Int.toNat (c - a)) := hinv6_
  refine cont_norm [(2, .pointer (some ⟨b1, 0, none⟩)), (3, .pointer (some ⟨b2, 0, none⟩)), (7, .slice A N cp), (8, .int .i64 (b + (j : Int)))] [.gen (rowE (A) g N cp 5 1 (ivals .u8 (rdP W px a b c j)) true), .cells b2 [.int .i64 a, .int .i64 b, .int .i64 c, .int .i64 d] 32 true, .cells b1 [.int .i64 W, .int .i64 H, .slice (some ⟨r, 0, none⟩) n cap] 37 true, .gen (rdE (some ⟨r, 0, none⟩) r 0 n 1 (ivals .u32 px))] (by kernel_rfl) rfl ?_
  obtain ⟨hj, hN⟩ := hinv6_
  have hpl : b + (j : Int) < d → 0 ≤ (b + (j : Int)) * W ∧ (b + (j : Int)) * W ≤ 65536 ∧ (b + (j : Int)) * W + (W - 1) < n := fun h => hok.place (x := W - 1) (y := b + j) (by omega) (by omega) (by omega) (by omega)
  have hNb : j * (4 * Int.toNat (c - a)) ≤ 256 * 1024 := Nat.mul_le_mul (by omega) (by omega)
  refine cont_seq ?_
  refine cont_seq ?_
  refine cont_region 4 rfl ?_
  refine bS [0, 0, 1, 0] 4 0 [(2, .pointer (some ⟨b1, 0, none⟩)), (3, .pointer (some ⟨b2, 0, none⟩)), (7, .slice A N cp), (8, .int .i64 (b + (j : Int))), (27, .bool (decide ((b + (j : Int)) < d)))] ?_
  refine cont_done ?_
  refine then_normal ?_
  refine cont_split 27 (decide ((b + (j : Int)) < d)) rfl (fun c7_ => ?_) (fun c7_ => ?_)
  ·
    replace c7_ := of_decide_eq_true c7_
    refine cont_true rfl ?_
    refine cont_skip ?_
    refine then_normal ?_
    refine cont_seq ?_
    refine cont_block ?_
    refine cont_seq ?_
    refine cont_region 3 rfl ?_
    refine bS [0, 1, 0] 3 0 [(2, .pointer (some ⟨b1, 0, none⟩)), (3, .pointer (some ⟨b2, 0, none⟩)), (7, .slice A N cp), (8, .int .i64 (b + (j : Int))), (9, .int .i64 a)] ?_
    refine cont_done ?_
    refine then_normal ?_
    refine cont_block ?_
    refine cont_rowEq (k := .u8) 0 (rdP W px a b c j) (rdP W px a b c j ++ rdK W px (b + (j : Int)) a 0) rfl (by rw [rdK_zero, List.append_nil]) ?_
    refine cont_recast 9 (.int .i64 a) (.int .i64 (a + ((0 : Nat) : Int))) rfl (congrArg (Value.int .i64) (by omega)) ?_
    refine cont_loop (α := Nat × Nat × Option Addr × Nat × Nat) (fun x_ : Nat × Nat × Option Addr × Nat × Nat => (x_.1 : Int) ≤ c - a ∧ x_.2.1 = j * (4 * Int.toNat (c - a)) + 4 * x_.1) (fun x_ : Nat × Nat × Option Addr × Nat × Nat => [(2, .pointer (some ⟨b1, 0, none⟩)), (3, .pointer (some ⟨b2, 0, none⟩)), (7, .slice x_.2.2.1 x_.2.1 x_.2.2.2.2), (8, .int .i64 (b + (j : Int))), (9, .int .i64 (a + (x_.1 : Int)))]) (fun x_ : Nat × Nat × Option Addr × Nat × Nat => [.gen (rowE (x_.2.2.1) x_.2.2.2.1 x_.2.1 x_.2.2.2.2 5 1 (ivals .u8 (rdP W px a b c j ++ rdK W px (b + (j : Int)) a x_.1)) true), .cells b2 [.int .i64 a, .int .i64 b, .int .i64 c, .int .i64 d] 32 true, .cells b1 [.int .i64 W, .int .i64 H, .slice (some ⟨r, 0, none⟩) n cap] 37 true, .gen (rdE (some ⟨r, 0, none⟩) r 0 n 1 (ivals .u32 px))]) (fun x_ : Nat × Nat × Option Addr × Nat × Nat => (c - a - x_.1).toNat) (0, N, A, g, cp) (show ((0) : Int) ≤ c - a ∧ (N) = j * (4 * Int.toNat (c - a)) + 4 * (0) from ⟨by omega, by omega⟩) (by kernel_rfl) (by kernel_rfl) ?_
    rintro ⟨k, N', A', g', cp'⟩ hinv8_
    replace hinv8_ : (k : Int) ≤ c - a ∧ N' = j * (4 * Int.toNat (c - a)) + 4 * k := hinv8_
    refine cont_norm [(2, .pointer (some ⟨b1, 0, none⟩)), (3, .pointer (some ⟨b2, 0, none⟩)), (7, .slice A' N' cp'), (8, .int .i64 (b + (j : Int))), (9, .int .i64 (a + (k : Int)))] [.gen (rowE (A') g' N' cp' 5 1 (ivals .u8 (rdP W px a b c j ++ rdK W px (b + (j : Int)) a k)) true), .cells b2 [.int .i64 a, .int .i64 b, .int .i64 c, .int .i64 d] 32 true, .cells b1 [.int .i64 W, .int .i64 H, .slice (some ⟨r, 0, none⟩) n cap] 37 true, .gen (rdE (some ⟨r, 0, none⟩) r 0 n 1 (ivals .u32 px))] (by kernel_rfl) rfl ?_
    obtain ⟨hk, hN'⟩ := hinv8_
    have hcol : (k : Int) < c - a → 0 ≤ px.getD (Int.toNat ((b + (j : Int)) * W + (a + (k : Int)))) 0 ∧ px.getD (Int.toNat ((b + (j : Int)) * W + (a + (k : Int)))) 0 < 4294967296 := fun h => hok.rng _ (by rw [List.getD_eq_getElem?_getD, List.getElem?_eq_getElem (by have := hok.place (x := a + k) (y := b + j) (by omega) (by omega) (by omega) (by omega); omega)]; simp)
    refine cont_seq ?_
    refine cont_seq ?_
    refine cont_region 4 rfl ?_
    refine bS [0, 0, 1, 0] 4 0 [(2, .pointer (some ⟨b1, 0, none⟩)), (3, .pointer (some ⟨b2, 0, none⟩)), (7, .slice A' N' cp'), (8, .int .i64 (b + (j : Int))), (9, .int .i64 (a + (k : Int))), (35, .bool (decide ((a + (k : Int)) < c)))] ?_
    refine cont_done ?_
    refine then_normal ?_
    refine cont_split 35 (decide ((a + (k : Int)) < c)) rfl (fun c9_ => ?_) (fun c9_ => ?_)
    ·
      replace c9_ := of_decide_eq_true c9_
      refine cont_true rfl ?_
      refine cont_skip ?_
      refine then_normal ?_
      refine cont_seq ?_
      refine cont_block ?_
      refine cont_seq ?_
      refine cont_region 13 rfl ?_
      obtain ⟨hcol0, hcol1⟩ := hcol (by omega)
      obtain ⟨hpl1, hpl2, hpl3⟩ := hpl (by omega)
      refine bS [0, 2, 0, 0, 2, 0] 6 7 [(2, .pointer (some ⟨b1, 0, none⟩)), (3, .pointer (some ⟨b2, 0, none⟩)), (7, .slice A' N' cp'), (8, .int .i64 (b + (j : Int))), (9, .int .i64 (a + (k : Int))), (39, .slice (some ⟨r, 0, none⟩) n cap), (43, .int .i64 (IntKind.i64.wrap ((b + (j : Int)) * W)))] ?_
      refine cont_recast 43 (.int .i64 (IntKind.i64.wrap ((b + (j : Int)) * W))) (.int .i64 ((b + (j : Int)) * W)) rfl (wrapI (by omega) (by omega)) ?_
      refine bS [0, 0] 8 5 [(2, .pointer (some ⟨b1, 0, none⟩)), (3, .pointer (some ⟨b2, 0, none⟩)), (7, .slice A' N' cp'), (8, .int .i64 (b + (j : Int))), (9, .int .i64 (a + (k : Int))), (39, .slice (some ⟨r, 0, none⟩) n cap), (45, .int .i64 (IntKind.i64.wrap (((b + (j : Int)) * W) + (a + (k : Int)))))] ?_
      refine cont_recast 45 (.int .i64 (IntKind.i64.wrap (((b + (j : Int)) * W) + (a + (k : Int))))) (.int .i64 (((b + (j : Int)) * W) + (a + (k : Int)))) rfl (wrapI (by omega) (by omega)) ?_
      refine pl_step 9 4 rfl rfl ?_
      refine sem_step 46 (Instr.indexAt 35 (.slice (some ⟨r, 0, none⟩) n cap) (.int .i64 (((b + (j : Int)) * W) + (a + (k : Int))))) (.pointer (some ⟨r, Int.toNat (((b + (j : Int)) * W) + (a + (k : Int))), none⟩)) (by kernel_rfl) (fun w hT => run_indexAt (e := 28) (sz := 1) _ (by kernel_rfl) (by kernel_rfl) (by omega) (by omega) (by omega) w) ?_
      refine pl_step 10 3 rfl rfl ?_
      refine sem_step 47 (Instr.loadAt 28 (.pointer (some ⟨r, Int.toNat (((b + (j : Int)) * W) + (a + (k : Int))), none⟩))) (.int .u32 (px.getD (Int.toNat (((b + (j : Int)) * W) + (a + (k : Int)))) 0)) (by kernel_rfl) (fun w hT => run_load1 (by kernel_rfl) (Rd.cell0 (hT.ok 3 _ rfl) (Int.toNat (((b + (j : Int)) * W) + (a + (k : Int)))) _ (ivals_get (by omega)))) ?_
      refine pl_step 11 2 rfl rfl ?_
      refine call_pure (d := 48) (.agg #[.int .i64 (pa (px.getD (Int.toNat (((b + (j : Int)) * W) + (a + (k : Int)))) 0)), .int .i64 (pr (px.getD (Int.toNat (((b + (j : Int)) * W) + (a + (k : Int)))) 0)), .int .i64 (pg (px.getD (Int.toNat (((b + (j : Int)) * W) + (a + (k : Int)))) 0)), .int .i64 (pb (px.getD (Int.toNat (((b + (j : Int)) * W) + (a + (k : Int)))) 0))]) (by kernel_rfl) (fun w hT => refParts (px.getD (Int.toNat (((b + (j : Int)) * W) + (a + (k : Int)))) 0) w (by omega) (by omega)) ?_
      refine batch1 [0, 0] 13 0 (fun b10 => [(2, .pointer (some ⟨b1, 0, none⟩)), (3, .pointer (some ⟨b2, 0, none⟩)), (7, .slice A' N' cp'), (8, .int .i64 (b + (j : Int))), (9, .int .i64 (a + (k : Int))), (10, .pointer (some ⟨b10, 0, none⟩))]) (fun b10 => [.cells b10 [.int .i64 (pa (px.getD (Int.toNat (((b + (j : Int)) * W) + (a + (k : Int)))) 0)), .int .i64 (pr (px.getD (Int.toNat (((b + (j : Int)) * W) + (a + (k : Int)))) 0)), .int .i64 (pg (px.getD (Int.toNat (((b + (j : Int)) * W) + (a + (k : Int)))) 0)), .int .i64 (pb (px.getD (Int.toNat (((b + (j : Int)) * W) + (a + (k : Int)))) 0))] 86 true, .gen (rowE (A') g' N' cp' 5 1 (ivals .u8 (rdP W px a b c j ++ rdK W px (b + (j : Int)) a k)) true), .cells b2 [.int .i64 a, .int .i64 b, .int .i64 c, .int .i64 d] 32 true, .cells b1 [.int .i64 W, .int .i64 H, .slice (some ⟨r, 0, none⟩) n cap] 37 true, .gen (rdE (some ⟨r, 0, none⟩) r 0 n 1 (ivals .u32 px))]) rfl rfl [2, 3, 7, 8, 9, 10] (fun _ => rfl) (fun b10 => by kernel_rfl) (fun b10 => by kernel_rfl) (fun b10 => ?_)
      refine cont_done ?_
      refine then_normal ?_
      refine cont_seq ?_
      refine cont_region 1 rfl ?_
      have hprt := parts_rng (c := (px.getD (Int.toNat (((b + (j : Int)) * W) + (a + (k : Int)))) 0)) (by omega) (by omega)
      refine bS [0] 1 0 [(2, .pointer (some ⟨b1, 0, none⟩)), (3, .pointer (some ⟨b2, 0, none⟩)), (7, .slice A' N' cp'), (8, .int .i64 (b + (j : Int))), (9, .int .i64 (a + (k : Int))), (10, .pointer (some ⟨b10, 0, none⟩)), (11, .int .i64 0)] ?_
      refine cont_done ?_
      refine then_normal ?_
      refine cont_block ?_
      refine cont_rounds 5 ?_
      refine cont_round 5 4 rfl ?_
      refine cont_seq ?_
      refine cont_seq ?_
      refine cont_region 2 rfl ?_
      refine bS [0, 0] 2 0 [(2, .pointer (some ⟨b1, 0, none⟩)), (3, .pointer (some ⟨b2, 0, none⟩)), (7, .slice A' N' cp'), (8, .int .i64 (b + (j : Int))), (9, .int .i64 (a + (k : Int))), (10, .pointer (some ⟨b10, 0, none⟩)), (11, .int .i64 0), (50, .bool true)] ?_
      refine cont_done ?_
      refine then_normal ?_
      refine cont_true rfl ?_
      refine cont_skip ?_
      refine then_normal ?_
      refine cont_seq ?_
      refine cont_block ?_
      refine cont_region 8 rfl ?_
      refine bS [0, 0, 0, 0, 0] 5 3 [(2, .pointer (some ⟨b1, 0, none⟩)), (3, .pointer (some ⟨b2, 0, none⟩)), (8, .int .i64 (b + (j : Int))), (9, .int .i64 (a + (k : Int))), (10, .pointer (some ⟨b10, 0, none⟩)), (11, .int .i64 0), (53, .slice A' N' cp'), (57, .int .u8 (IntKind.u8.wrap (pa (px.getD (Int.toNat (((b + (j : Int)) * W) + (a + (k : Int)))) 0))))] ?_
      refine cont_recast 57 (.int .u8 (IntKind.u8.wrap (pa (px.getD (Int.toNat (((b + (j : Int)) * W) + (a + (k : Int)))) 0)))) (.int .u8 (pa (px.getD (Int.toNat (((b + (j : Int)) * W) + (a + (k : Int)))) 0))) rfl (wrapU8 (by omega) (by omega)) ?_
      refine batch1 [0] 6 2 (fun b12 => [(2, .pointer (some ⟨b1, 0, none⟩)), (3, .pointer (some ⟨b2, 0, none⟩)), (8, .int .i64 (b + (j : Int))), (9, .int .i64 (a + (k : Int))), (10, .pointer (some ⟨b10, 0, none⟩)), (11, .int .i64 0), (53, .slice A' N' cp'), (58, .slice (some ⟨b12, 0, none⟩) 1 1)]) (fun b12 => [.cells b12 [.int .u8 (pa (px.getD (Int.toNat (((b + (j : Int)) * W) + (a + (k : Int)))) 0))] 5 true, .cells b10 [.int .i64 (pa (px.getD (Int.toNat (((b + (j : Int)) * W) + (a + (k : Int)))) 0)), .int .i64 (pr (px.getD (Int.toNat (((b + (j : Int)) * W) + (a + (k : Int)))) 0)), .int .i64 (pg (px.getD (Int.toNat (((b + (j : Int)) * W) + (a + (k : Int)))) 0)), .int .i64 (pb (px.getD (Int.toNat (((b + (j : Int)) * W) + (a + (k : Int)))) 0))] 86 true, .gen (rowE (A') g' N' cp' 5 1 (ivals .u8 (rdP W px a b c j ++ rdK W px (b + (j : Int)) a k)) true), .cells b2 [.int .i64 a, .int .i64 b, .int .i64 c, .int .i64 d] 32 true, .cells b1 [.int .i64 W, .int .i64 H, .slice (some ⟨r, 0, none⟩) n cap] 37 true, .gen (rdE (some ⟨r, 0, none⟩) r 0 n 1 (ivals .u32 px))]) rfl rfl [2, 3, 8, 9, 10, 11, 53, 58] (fun _ => rfl) (fun b12 => by kernel_rfl) (fun b12 => by kernel_rfl) (fun b12 => ?_)
      refine pl_step 7 1 rfl rfl ?_
      refine sem_stepW (α := Option Addr × Nat × Nat) 59 (Builtin.append_ #[43, 43] 43 #[.slice A' N' cp', .slice (some ⟨b12, 0, none⟩) 1 1]) (fun x_ => .slice x_.1 (N' + 1) x_.2.2) (fun x_ => [.cells b12 [.int .u8 (pa (px.getD (Int.toNat (((b + (j : Int)) * W) + (a + (k : Int)))) 0))] 5 true, .cells b10 [.int .i64 (pa (px.getD (Int.toNat (((b + (j : Int)) * W) + (a + (k : Int)))) 0)), .int .i64 (pr (px.getD (Int.toNat (((b + (j : Int)) * W) + (a + (k : Int)))) 0)), .int .i64 (pg (px.getD (Int.toNat (((b + (j : Int)) * W) + (a + (k : Int)))) 0)), .int .i64 (pb (px.getD (Int.toNat (((b + (j : Int)) * W) + (a + (k : Int)))) 0))] 86 true, .gen (rowE (x_.1) x_.2.1 (N' + 1) x_.2.2 5 1 (ivals .u8 ((rdP W px a b c j ++ rdK W px (b + (j : Int)) a k) ++ [pa (px.getD (Int.toNat (((b + (j : Int)) * W) + (a + (k : Int)))) 0)])) true), .cells b2 [.int .i64 a, .int .i64 b, .int .i64 c, .int .i64 d] 32 true, .cells b1 [.int .i64 W, .int .i64 H, .slice (some ⟨r, 0, none⟩) n cap] 37 true, .gen (rdE (some ⟨r, 0, none⟩) r 0 n 1 (ivals .u32 px))]) (fun _ => True) (by kernel_rfl) (fun w hT => append_own (n' := (N' + 1)) (z := .int .u8 0) hT (i := 2) (bytes := 1) rfl (by kernel_rfl) (by kernel_rfl) rfl (by decide) (by decide) (Rd.ofCells (vals := ivals .u8 [pa (px.getD (Int.toNat (((b + (j : Int)) * W) + (a + (k : Int)))) 0)]) (hT.ok 0 _ rfl) rfl rfl) (ivals_one .u8 [pa (px.getD (Int.toNat (((b + (j : Int)) * W) + (a + (k : Int)))) 0)]) (by omega) (ivals_append .u8 (rdP W px a b c j ++ rdK W px (b + (j : Int)) a k) [pa (px.getD (Int.toNat (((b + (j : Int)) * W) + (a + (k : Int)))) 0)]) rfl) ?_
      rintro ⟨A13, g13, cp13⟩ -
      refine cont_norm [(2, .pointer (some ⟨b1, 0, none⟩)), (3, .pointer (some ⟨b2, 0, none⟩)), (8, .int .i64 (b + (j : Int))), (9, .int .i64 (a + (k : Int))), (10, .pointer (some ⟨b10, 0, none⟩)), (11, .int .i64 0), (53, .slice A' N' cp'), (58, .slice (some ⟨b12, 0, none⟩) 1 1), (59, .slice A13 (N' + 1) cp13)] [.cells b12 [.int .u8 (pa (px.getD (Int.toNat (((b + (j : Int)) * W) + (a + (k : Int)))) 0))] 5 true, .cells b10 [.int .i64 (pa (px.getD (Int.toNat (((b + (j : Int)) * W) + (a + (k : Int)))) 0)), .int .i64 (pr (px.getD (Int.toNat (((b + (j : Int)) * W) + (a + (k : Int)))) 0)), .int .i64 (pg (px.getD (Int.toNat (((b + (j : Int)) * W) + (a + (k : Int)))) 0)), .int .i64 (pb (px.getD (Int.toNat (((b + (j : Int)) * W) + (a + (k : Int)))) 0))] 86 true, .gen (rowE (A13) g13 (N' + 1) cp13 5 1 (ivals .u8 ((rdP W px a b c j ++ rdK W px (b + (j : Int)) a k) ++ [pa (px.getD (Int.toNat (((b + (j : Int)) * W) + (a + (k : Int)))) 0)])) true), .cells b2 [.int .i64 a, .int .i64 b, .int .i64 c, .int .i64 d] 32 true, .cells b1 [.int .i64 W, .int .i64 H, .slice (some ⟨r, 0, none⟩) n cap] 37 true, .gen (rdE (some ⟨r, 0, none⟩) r 0 n 1 (ivals .u32 px))] (by kernel_rfl) rfl ?_
      refine cont_fact (F := (0 < (N' + 1) → (A13 : Option Addr) = some ⟨g13, 0, none⟩) ∧ ((rdP W px a b c j ++ rdK W px (b + (j : Int)) a k) ++ [pa (px.getD (Int.toNat (((b + (j : Int)) * W) + (a + (k : Int)))) 0)]).length = (N' + 1) ∧ (N' + 1) ≤ cp13 ∧ cp13 ≤ maxLen) (fun w hT => Row.facts (hT.ok 2 _ rfl)) (fun hr14_ => ?_)
      obtain ⟨hr14_a, hr14_l, hr14_c, hr14_m⟩ := hr14_
      unfold maxLen at hr14_m
      refine bS [0] 8 0 [(2, .pointer (some ⟨b1, 0, none⟩)), (3, .pointer (some ⟨b2, 0, none⟩)), (7, .slice A13 (N' + 1) cp13), (8, .int .i64 (b + (j : Int))), (9, .int .i64 (a + (k : Int))), (10, .pointer (some ⟨b10, 0, none⟩)), (11, .int .i64 0)] ?_
      refine cont_forget 0 rfl ?_
      refine cont_done ?_
      refine blk_normal ?_
      refine then_normal ?_
      refine cont_region 3 rfl ?_
      refine bS [0, 0, 0] 3 0 [(2, .pointer (some ⟨b1, 0, none⟩)), (3, .pointer (some ⟨b2, 0, none⟩)), (7, .slice A13 (N' + 1) cp13), (8, .int .i64 (b + (j : Int))), (9, .int .i64 (a + (k : Int))), (10, .pointer (some ⟨b10, 0, none⟩)), (11, .int .i64 1)] ?_
      refine cont_done ?_
      refine then_normal ?_
      refine cont_round 4 3 rfl ?_
      refine cont_seq ?_
      refine cont_seq ?_
      refine cont_region 2 rfl ?_
      refine bS [0, 0] 2 0 [(2, .pointer (some ⟨b1, 0, none⟩)), (3, .pointer (some ⟨b2, 0, none⟩)), (7, .slice A13 (N' + 1) cp13), (8, .int .i64 (b + (j : Int))), (9, .int .i64 (a + (k : Int))), (10, .pointer (some ⟨b10, 0, none⟩)), (11, .int .i64 1), (50, .bool true)] ?_
      refine cont_done ?_
      refine then_normal ?_
      refine cont_true rfl ?_
      refine cont_skip ?_
      refine then_normal ?_
      refine cont_seq ?_
      refine cont_block ?_
      refine cont_region 8 rfl ?_
      refine bS [0, 0, 0, 0, 0] 5 3 [(2, .pointer (some ⟨b1, 0, none⟩)), (3, .pointer (some ⟨b2, 0, none⟩)), (8, .int .i64 (b + (j : Int))), (9, .int .i64 (a + (k : Int))), (10, .pointer (some ⟨b10, 0, none⟩)), (11, .int .i64 1), (53, .slice A13 (N' + 1) cp13), (57, .int .u8 (IntKind.u8.wrap (pr (px.getD (Int.toNat (((b + (j : Int)) * W) + (a + (k : Int)))) 0))))] ?_
      refine cont_recast 57 (.int .u8 (IntKind.u8.wrap (pr (px.getD (Int.toNat (((b + (j : Int)) * W) + (a + (k : Int)))) 0)))) (.int .u8 (pr (px.getD (Int.toNat (((b + (j : Int)) * W) + (a + (k : Int)))) 0))) rfl (wrapU8 (by omega) (by omega)) ?_
      refine batch1 [0] 6 2 (fun b16 => [(2, .pointer (some ⟨b1, 0, none⟩)), (3, .pointer (some ⟨b2, 0, none⟩)), (8, .int .i64 (b + (j : Int))), (9, .int .i64 (a + (k : Int))), (10, .pointer (some ⟨b10, 0, none⟩)), (11, .int .i64 1), (53, .slice A13 (N' + 1) cp13), (58, .slice (some ⟨b16, 0, none⟩) 1 1)]) (fun b16 => [.cells b16 [.int .u8 (pr (px.getD (Int.toNat (((b + (j : Int)) * W) + (a + (k : Int)))) 0))] 5 true, .cells b10 [.int .i64 (pa (px.getD (Int.toNat (((b + (j : Int)) * W) + (a + (k : Int)))) 0)), .int .i64 (pr (px.getD (Int.toNat (((b + (j : Int)) * W) + (a + (k : Int)))) 0)), .int .i64 (pg (px.getD (Int.toNat (((b + (j : Int)) * W) + (a + (k : Int)))) 0)), .int .i64 (pb (px.getD (Int.toNat (((b + (j : Int)) * W) + (a + (k : Int)))) 0))] 86 true, .gen (rowE (A13) g13 (N' + 1) cp13 5 1 (ivals .u8 ((rdP W px a b c j ++ rdK W px (b + (j : Int)) a k) ++ [pa (px.getD (Int.toNat (((b + (j : Int)) * W) + (a + (k : Int)))) 0)])) true), .cells b2 [.int .i64 a, .int .i64 b, .int .i64 c, .int .i64 d] 32 true, .cells b1 [.int .i64 W, .int .i64 H, .slice (some ⟨r, 0, none⟩) n cap] 37 true, .gen (rdE (some ⟨r, 0, none⟩) r 0 n 1 (ivals .u32 px))]) rfl rfl [2, 3, 8, 9, 10, 11, 53, 58] (fun _ => rfl) (fun b16 => by kernel_rfl) (fun b16 => by kernel_rfl) (fun b16 => ?_)
      refine pl_step 7 1 rfl rfl ?_
      refine sem_stepW (α := Option Addr × Nat × Nat) 59 (Builtin.append_ #[43, 43] 43 #[.slice A13 (N' + 1) cp13, .slice (some ⟨b16, 0, none⟩) 1 1]) (fun x_ => .slice x_.1 ((N' + 1) + 1) x_.2.2) (fun x_ => [.cells b16 [.int .u8 (pr (px.getD (Int.toNat (((b + (j : Int)) * W) + (a + (k : Int)))) 0))] 5 true, .cells b10 [.int .i64 (pa (px.getD (Int.toNat (((b + (j : Int)) * W) + (a + (k : Int)))) 0)), .int .i64 (pr (px.getD (Int.toNat (((b + (j : Int)) * W) + (a + (k : Int)))) 0)), .int .i64 (pg (px.getD (Int.toNat (((b + (j : Int)) * W) + (a + (k : Int)))) 0)), .int .i64 (pb (px.getD (Int.toNat (((b + (j : Int)) * W) + (a + (k : Int)))) 0))] 86 true, .gen (rowE (x_.1) x_.2.1 ((N' + 1) + 1) x_.2.2 5 1 (ivals .u8 (((rdP W px a b c j ++ rdK W px (b + (j : Int)) a k) ++ [pa (px.getD (Int.toNat (((b + (j : Int)) * W) + (a + (k : Int)))) 0)]) ++ [pr (px.getD (Int.toNat (((b + (j : Int)) * W) + (a + (k : Int)))) 0)])) true), .cells b2 [.int .i64 a, .int .i64 b, .int .i64 c, .int .i64 d] 32 true, .cells b1 [.int .i64 W, .int .i64 H, .slice (some ⟨r, 0, none⟩) n cap] 37 true, .gen (rdE (some ⟨r, 0, none⟩) r 0 n 1 (ivals .u32 px))]) (fun _ => True) (by kernel_rfl) (fun w hT => append_own (n' := ((N' + 1) + 1)) (z := .int .u8 0) hT (i := 2) (bytes := 1) rfl (by kernel_rfl) (by kernel_rfl) rfl (by decide) (by decide) (Rd.ofCells (vals := ivals .u8 [pr (px.getD (Int.toNat (((b + (j : Int)) * W) + (a + (k : Int)))) 0)]) (hT.ok 0 _ rfl) rfl rfl) (ivals_one .u8 [pr (px.getD (Int.toNat (((b + (j : Int)) * W) + (a + (k : Int)))) 0)]) (by omega) (ivals_append .u8 ((rdP W px a b c j ++ rdK W px (b + (j : Int)) a k) ++ [pa (px.getD (Int.toNat (((b + (j : Int)) * W) + (a + (k : Int)))) 0)]) [pr (px.getD (Int.toNat (((b + (j : Int)) * W) + (a + (k : Int)))) 0)]) rfl) ?_
      rintro ⟨A17, g17, cp17⟩ -
      refine cont_norm [(2, .pointer (some ⟨b1, 0, none⟩)), (3, .pointer (some ⟨b2, 0, none⟩)), (8, .int .i64 (b + (j : Int))), (9, .int .i64 (a + (k : Int))), (10, .pointer (some ⟨b10, 0, none⟩)), (11, .int .i64 1), (53, .slice A13 (N' + 1) cp13), (58, .slice (some ⟨b16, 0, none⟩) 1 1), (59, .slice A17 ((N' + 1) + 1) cp17)] [.cells b16 [.int .u8 (pr (px.getD (Int.toNat (((b + (j : Int)) * W) + (a + (k : Int)))) 0))] 5 true, .cells b10 [.int .i64 (pa (px.getD (Int.toNat (((b + (j : Int)) * W) + (a + (k : Int)))) 0)), .int .i64 (pr (px.getD (Int.toNat (((b + (j : Int)) * W) + (a + (k : Int)))) 0)), .int .i64 (pg (px.getD (Int.toNat (((b + (j : Int)) * W) + (a + (k : Int)))) 0)), .int .i64 (pb (px.getD (Int.toNat (((b + (j : Int)) * W) + (a + (k : Int)))) 0))] 86 true, .gen (rowE (A17) g17 ((N' + 1) + 1) cp17 5 1 (ivals .u8 (((rdP W px a b c j ++ rdK W px (b + (j : Int)) a k) ++ [pa (px.getD (Int.toNat (((b + (j : Int)) * W) + (a + (k : Int)))) 0)]) ++ [pr (px.getD (Int.toNat (((b + (j : Int)) * W) + (a + (k : Int)))) 0)])) true), .cells b2 [.int .i64 a, .int .i64 b, .int .i64 c, .int .i64 d] 32 true, .cells b1 [.int .i64 W, .int .i64 H, .slice (some ⟨r, 0, none⟩) n cap] 37 true, .gen (rdE (some ⟨r, 0, none⟩) r 0 n 1 (ivals .u32 px))] (by kernel_rfl) rfl ?_
      refine cont_fact (F := (0 < ((N' + 1) + 1) → (A17 : Option Addr) = some ⟨g17, 0, none⟩) ∧ (((rdP W px a b c j ++ rdK W px (b + (j : Int)) a k) ++ [pa (px.getD (Int.toNat (((b + (j : Int)) * W) + (a + (k : Int)))) 0)]) ++ [pr (px.getD (Int.toNat (((b + (j : Int)) * W) + (a + (k : Int)))) 0)]).length = ((N' + 1) + 1) ∧ ((N' + 1) + 1) ≤ cp17 ∧ cp17 ≤ maxLen) (fun w hT => Row.facts (hT.ok 2 _ rfl)) (fun hr18_ => ?_)
      obtain ⟨hr18_a, hr18_l, hr18_c, hr18_m⟩ := hr18_
      unfold maxLen at hr18_m
      refine bS [0] 8 0 [(2, .pointer (some ⟨b1, 0, none⟩)), (3, .pointer (some ⟨b2, 0, none⟩)), (7, .slice A17 ((N' + 1) + 1) cp17), (8, .int .i64 (b + (j : Int))), (9, .int .i64 (a + (k : Int))), (10, .pointer (some ⟨b10, 0, none⟩)), (11, .int .i64 1)] ?_
      refine cont_forget 0 rfl ?_
      refine cont_done ?_
      refine blk_normal ?_
      refine then_normal ?_
      refine cont_region 3 rfl ?_
      refine bS [0, 0, 0] 3 0 [(2, .pointer (some ⟨b1, 0, none⟩)), (3, .pointer (some ⟨b2, 0, none⟩)), (7, .slice A17 ((N' + 1) + 1) cp17), (8, .int .i64 (b + (j : Int))), (9, .int .i64 (a + (k : Int))), (10, .pointer (some ⟨b10, 0, none⟩)), (11, .int .i64 2)] ?_
      refine cont_done ?_
      refine then_normal ?_
      refine cont_round 3 2 rfl ?_
      refine cont_seq ?_
      refine cont_seq ?_
      refine cont_region 2 rfl ?_
      refine bS [0, 0] 2 0 [(2, .pointer (some ⟨b1, 0, none⟩)), (3, .pointer (some ⟨b2, 0, none⟩)), (7, .slice A17 ((N' + 1) + 1) cp17), (8, .int .i64 (b + (j : Int))), (9, .int .i64 (a + (k : Int))), (10, .pointer (some ⟨b10, 0, none⟩)), (11, .int .i64 2), (50, .bool true)] ?_
      refine cont_done ?_
      refine then_normal ?_
      refine cont_true rfl ?_
      refine cont_skip ?_
      refine then_normal ?_
      refine cont_seq ?_
      refine cont_block ?_
      refine cont_region 8 rfl ?_
      refine bS [0, 0, 0, 0, 0] 5 3 [(2, .pointer (some ⟨b1, 0, none⟩)), (3, .pointer (some ⟨b2, 0, none⟩)), (8, .int .i64 (b + (j : Int))), (9, .int .i64 (a + (k : Int))), (10, .pointer (some ⟨b10, 0, none⟩)), (11, .int .i64 2), (53, .slice A17 ((N' + 1) + 1) cp17), (57, .int .u8 (IntKind.u8.wrap (pg (px.getD (Int.toNat (((b + (j : Int)) * W) + (a + (k : Int)))) 0))))] ?_
      refine cont_recast 57 (.int .u8 (IntKind.u8.wrap (pg (px.getD (Int.toNat (((b + (j : Int)) * W) + (a + (k : Int)))) 0)))) (.int .u8 (pg (px.getD (Int.toNat (((b + (j : Int)) * W) + (a + (k : Int)))) 0))) rfl (wrapU8 (by omega) (by omega)) ?_
      refine batch1 [0] 6 2 (fun b20 => [(2, .pointer (some ⟨b1, 0, none⟩)), (3, .pointer (some ⟨b2, 0, none⟩)), (8, .int .i64 (b + (j : Int))), (9, .int .i64 (a + (k : Int))), (10, .pointer (some ⟨b10, 0, none⟩)), (11, .int .i64 2), (53, .slice A17 ((N' + 1) + 1) cp17), (58, .slice (some ⟨b20, 0, none⟩) 1 1)]) (fun b20 => [.cells b20 [.int .u8 (pg (px.getD (Int.toNat (((b + (j : Int)) * W) + (a + (k : Int)))) 0))] 5 true, .cells b10 [.int .i64 (pa (px.getD (Int.toNat (((b + (j : Int)) * W) + (a + (k : Int)))) 0)), .int .i64 (pr (px.getD (Int.toNat (((b + (j : Int)) * W) + (a + (k : Int)))) 0)), .int .i64 (pg (px.getD (Int.toNat (((b + (j : Int)) * W) + (a + (k : Int)))) 0)), .int .i64 (pb (px.getD (Int.toNat (((b + (j : Int)) * W) + (a + (k : Int)))) 0))] 86 true, .gen (rowE (A17) g17 ((N' + 1) + 1) cp17 5 1 (ivals .u8 (((rdP W px a b c j ++ rdK W px (b + (j : Int)) a k) ++ [pa (px.getD (Int.toNat (((b + (j : Int)) * W) + (a + (k : Int)))) 0)]) ++ [pr (px.getD (Int.toNat (((b + (j : Int)) * W) + (a + (k : Int)))) 0)])) true), .cells b2 [.int .i64 a, .int .i64 b, .int .i64 c, .int .i64 d] 32 true, .cells b1 [.int .i64 W, .int .i64 H, .slice (some ⟨r, 0, none⟩) n cap] 37 true, .gen (rdE (some ⟨r, 0, none⟩) r 0 n 1 (ivals .u32 px))]) rfl rfl [2, 3, 8, 9, 10, 11, 53, 58] (fun _ => rfl) (fun b20 => by kernel_rfl) (fun b20 => by kernel_rfl) (fun b20 => ?_)
      refine pl_step 7 1 rfl rfl ?_
      refine sem_stepW (α := Option Addr × Nat × Nat) 59 (Builtin.append_ #[43, 43] 43 #[.slice A17 ((N' + 1) + 1) cp17, .slice (some ⟨b20, 0, none⟩) 1 1]) (fun x_ => .slice x_.1 (((N' + 1) + 1) + 1) x_.2.2) (fun x_ => [.cells b20 [.int .u8 (pg (px.getD (Int.toNat (((b + (j : Int)) * W) + (a + (k : Int)))) 0))] 5 true, .cells b10 [.int .i64 (pa (px.getD (Int.toNat (((b + (j : Int)) * W) + (a + (k : Int)))) 0)), .int .i64 (pr (px.getD (Int.toNat (((b + (j : Int)) * W) + (a + (k : Int)))) 0)), .int .i64 (pg (px.getD (Int.toNat (((b + (j : Int)) * W) + (a + (k : Int)))) 0)), .int .i64 (pb (px.getD (Int.toNat (((b + (j : Int)) * W) + (a + (k : Int)))) 0))] 86 true, .gen (rowE (x_.1) x_.2.1 (((N' + 1) + 1) + 1) x_.2.2 5 1 (ivals .u8 ((((rdP W px a b c j ++ rdK W px (b + (j : Int)) a k) ++ [pa (px.getD (Int.toNat (((b + (j : Int)) * W) + (a + (k : Int)))) 0)]) ++ [pr (px.getD (Int.toNat (((b + (j : Int)) * W) + (a + (k : Int)))) 0)]) ++ [pg (px.getD (Int.toNat (((b + (j : Int)) * W) + (a + (k : Int)))) 0)])) true), .cells b2 [.int .i64 a, .int .i64 b, .int .i64 c, .int .i64 d] 32 true, .cells b1 [.int .i64 W, .int .i64 H, .slice (some ⟨r, 0, none⟩) n cap] 37 true, .gen (rdE (some ⟨r, 0, none⟩) r 0 n 1 (ivals .u32 px))]) (fun _ => True) (by kernel_rfl) (fun w hT => append_own (n' := (((N' + 1) + 1) + 1)) (z := .int .u8 0) hT (i := 2) (bytes := 1) rfl (by kernel_rfl) (by kernel_rfl) rfl (by decide) (by decide) (Rd.ofCells (vals := ivals .u8 [pg (px.getD (Int.toNat (((b + (j : Int)) * W) + (a + (k : Int)))) 0)]) (hT.ok 0 _ rfl) rfl rfl) (ivals_one .u8 [pg (px.getD (Int.toNat (((b + (j : Int)) * W) + (a + (k : Int)))) 0)]) (by omega) (ivals_append .u8 (((rdP W px a b c j ++ rdK W px (b + (j : Int)) a k) ++ [pa (px.getD (Int.toNat (((b + (j : Int)) * W) + (a + (k : Int)))) 0)]) ++ [pr (px.getD (Int.toNat (((b + (j : Int)) * W) + (a + (k : Int)))) 0)]) [pg (px.getD (Int.toNat (((b + (j : Int)) * W) + (a + (k : Int)))) 0)]) rfl) ?_
      rintro ⟨A21, g21, cp21⟩ -
      refine cont_norm [(2, .pointer (some ⟨b1, 0, none⟩)), (3, .pointer (some ⟨b2, 0, none⟩)), (8, .int .i64 (b + (j : Int))), (9, .int .i64 (a + (k : Int))), (10, .pointer (some ⟨b10, 0, none⟩)), (11, .int .i64 2), (53, .slice A17 ((N' + 1) + 1) cp17), (58, .slice (some ⟨b20, 0, none⟩) 1 1), (59, .slice A21 (((N' + 1) + 1) + 1) cp21)] [.cells b20 [.int .u8 (pg (px.getD (Int.toNat (((b + (j : Int)) * W) + (a + (k : Int)))) 0))] 5 true, .cells b10 [.int .i64 (pa (px.getD (Int.toNat (((b + (j : Int)) * W) + (a + (k : Int)))) 0)), .int .i64 (pr (px.getD (Int.toNat (((b + (j : Int)) * W) + (a + (k : Int)))) 0)), .int .i64 (pg (px.getD (Int.toNat (((b + (j : Int)) * W) + (a + (k : Int)))) 0)), .int .i64 (pb (px.getD (Int.toNat (((b + (j : Int)) * W) + (a + (k : Int)))) 0))] 86 true, .gen (rowE (A21) g21 (((N' + 1) + 1) + 1) cp21 5 1 (ivals .u8 ((((rdP W px a b c j ++ rdK W px (b + (j : Int)) a k) ++ [pa (px.getD (Int.toNat (((b + (j : Int)) * W) + (a + (k : Int)))) 0)]) ++ [pr (px.getD (Int.toNat (((b + (j : Int)) * W) + (a + (k : Int)))) 0)]) ++ [pg (px.getD (Int.toNat (((b + (j : Int)) * W) + (a + (k : Int)))) 0)])) true), .cells b2 [.int .i64 a, .int .i64 b, .int .i64 c, .int .i64 d] 32 true, .cells b1 [.int .i64 W, .int .i64 H, .slice (some ⟨r, 0, none⟩) n cap] 37 true, .gen (rdE (some ⟨r, 0, none⟩) r 0 n 1 (ivals .u32 px))] (by kernel_rfl) rfl ?_
      refine cont_fact (F := (0 < (((N' + 1) + 1) + 1) → (A21 : Option Addr) = some ⟨g21, 0, none⟩) ∧ ((((rdP W px a b c j ++ rdK W px (b + (j : Int)) a k) ++ [pa (px.getD (Int.toNat (((b + (j : Int)) * W) + (a + (k : Int)))) 0)]) ++ [pr (px.getD (Int.toNat (((b + (j : Int)) * W) + (a + (k : Int)))) 0)]) ++ [pg (px.getD (Int.toNat (((b + (j : Int)) * W) + (a + (k : Int)))) 0)]).length = (((N' + 1) + 1) + 1) ∧ (((N' + 1) + 1) + 1) ≤ cp21 ∧ cp21 ≤ maxLen) (fun w hT => Row.facts (hT.ok 2 _ rfl)) (fun hr22_ => ?_)
      obtain ⟨hr22_a, hr22_l, hr22_c, hr22_m⟩ := hr22_
      unfold maxLen at hr22_m
      refine bS [0] 8 0 [(2, .pointer (some ⟨b1, 0, none⟩)), (3, .pointer (some ⟨b2, 0, none⟩)), (7, .slice A21 (((N' + 1) + 1) + 1) cp21), (8, .int .i64 (b + (j : Int))), (9, .int .i64 (a + (k : Int))), (10, .pointer (some ⟨b10, 0, none⟩)), (11, .int .i64 2)] ?_
      refine cont_forget 0 rfl ?_
      refine cont_done ?_
      refine blk_normal ?_
      refine then_normal ?_
      refine cont_region 3 rfl ?_
      refine bS [0, 0, 0] 3 0 [(2, .pointer (some ⟨b1, 0, none⟩)), (3, .pointer (some ⟨b2, 0, none⟩)), (7, .slice A21 (((N' + 1) + 1) + 1) cp21), (8, .int .i64 (b + (j : Int))), (9, .int .i64 (a + (k : Int))), (10, .pointer (some ⟨b10, 0, none⟩)), (11, .int .i64 3)] ?_
      refine cont_done ?_
      refine then_normal ?_
      refine cont_round 2 1 rfl ?_
      refine cont_seq ?_
      refine cont_seq ?_
      refine cont_region 2 rfl ?_
      refine bS [0, 0] 2 0 [(2, .pointer (some ⟨b1, 0, none⟩)), (3, .pointer (some ⟨b2, 0, none⟩)), (7, .slice A21 (((N' + 1) + 1) + 1) cp21), (8, .int .i64 (b + (j : Int))), (9, .int .i64 (a + (k : Int))), (10, .pointer (some ⟨b10, 0, none⟩)), (11, .int .i64 3), (50, .bool true)] ?_
      refine cont_done ?_
      refine then_normal ?_
      refine cont_true rfl ?_
      refine cont_skip ?_
      refine then_normal ?_
      refine cont_seq ?_
      refine cont_block ?_
      refine cont_region 8 rfl ?_
      refine bS [0, 0, 0, 0, 0] 5 3 [(2, .pointer (some ⟨b1, 0, none⟩)), (3, .pointer (some ⟨b2, 0, none⟩)), (8, .int .i64 (b + (j : Int))), (9, .int .i64 (a + (k : Int))), (10, .pointer (some ⟨b10, 0, none⟩)), (11, .int .i64 3), (53, .slice A21 (((N' + 1) + 1) + 1) cp21), (57, .int .u8 (IntKind.u8.wrap (pb (px.getD (Int.toNat (((b + (j : Int)) * W) + (a + (k : Int)))) 0))))] ?_
      refine cont_recast 57 (.int .u8 (IntKind.u8.wrap (pb (px.getD (Int.toNat (((b + (j : Int)) * W) + (a + (k : Int)))) 0)))) (.int .u8 (pb (px.getD (Int.toNat (((b + (j : Int)) * W) + (a + (k : Int)))) 0))) rfl (wrapU8 (by omega) (by omega)) ?_
      refine batch1 [0] 6 2 (fun b24 => [(2, .pointer (some ⟨b1, 0, none⟩)), (3, .pointer (some ⟨b2, 0, none⟩)), (8, .int .i64 (b + (j : Int))), (9, .int .i64 (a + (k : Int))), (10, .pointer (some ⟨b10, 0, none⟩)), (11, .int .i64 3), (53, .slice A21 (((N' + 1) + 1) + 1) cp21), (58, .slice (some ⟨b24, 0, none⟩) 1 1)]) (fun b24 => [.cells b24 [.int .u8 (pb (px.getD (Int.toNat (((b + (j : Int)) * W) + (a + (k : Int)))) 0))] 5 true, .cells b10 [.int .i64 (pa (px.getD (Int.toNat (((b + (j : Int)) * W) + (a + (k : Int)))) 0)), .int .i64 (pr (px.getD (Int.toNat (((b + (j : Int)) * W) + (a + (k : Int)))) 0)), .int .i64 (pg (px.getD (Int.toNat (((b + (j : Int)) * W) + (a + (k : Int)))) 0)), .int .i64 (pb (px.getD (Int.toNat (((b + (j : Int)) * W) + (a + (k : Int)))) 0))] 86 true, .gen (rowE (A21) g21 (((N' + 1) + 1) + 1) cp21 5 1 (ivals .u8 ((((rdP W px a b c j ++ rdK W px (b + (j : Int)) a k) ++ [pa (px.getD (Int.toNat (((b + (j : Int)) * W) + (a + (k : Int)))) 0)]) ++ [pr (px.getD (Int.toNat (((b + (j : Int)) * W) + (a + (k : Int)))) 0)]) ++ [pg (px.getD (Int.toNat (((b + (j : Int)) * W) + (a + (k : Int)))) 0)])) true), .cells b2 [.int .i64 a, .int .i64 b, .int .i64 c, .int .i64 d] 32 true, .cells b1 [.int .i64 W, .int .i64 H, .slice (some ⟨r, 0, none⟩) n cap] 37 true, .gen (rdE (some ⟨r, 0, none⟩) r 0 n 1 (ivals .u32 px))]) rfl rfl [2, 3, 8, 9, 10, 11, 53, 58] (fun _ => rfl) (fun b24 => by kernel_rfl) (fun b24 => by kernel_rfl) (fun b24 => ?_)
      refine pl_step 7 1 rfl rfl ?_
      refine sem_stepW (α := Option Addr × Nat × Nat) 59 (Builtin.append_ #[43, 43] 43 #[.slice A21 (((N' + 1) + 1) + 1) cp21, .slice (some ⟨b24, 0, none⟩) 1 1]) (fun x_ => .slice x_.1 ((((N' + 1) + 1) + 1) + 1) x_.2.2) (fun x_ => [.cells b24 [.int .u8 (pb (px.getD (Int.toNat (((b + (j : Int)) * W) + (a + (k : Int)))) 0))] 5 true, .cells b10 [.int .i64 (pa (px.getD (Int.toNat (((b + (j : Int)) * W) + (a + (k : Int)))) 0)), .int .i64 (pr (px.getD (Int.toNat (((b + (j : Int)) * W) + (a + (k : Int)))) 0)), .int .i64 (pg (px.getD (Int.toNat (((b + (j : Int)) * W) + (a + (k : Int)))) 0)), .int .i64 (pb (px.getD (Int.toNat (((b + (j : Int)) * W) + (a + (k : Int)))) 0))] 86 true, .gen (rowE (x_.1) x_.2.1 ((((N' + 1) + 1) + 1) + 1) x_.2.2 5 1 (ivals .u8 (((((rdP W px a b c j ++ rdK W px (b + (j : Int)) a k) ++ [pa (px.getD (Int.toNat (((b + (j : Int)) * W) + (a + (k : Int)))) 0)]) ++ [pr (px.getD (Int.toNat (((b + (j : Int)) * W) + (a + (k : Int)))) 0)]) ++ [pg (px.getD (Int.toNat (((b + (j : Int)) * W) + (a + (k : Int)))) 0)]) ++ [pb (px.getD (Int.toNat (((b + (j : Int)) * W) + (a + (k : Int)))) 0)])) true), .cells b2 [.int .i64 a, .int .i64 b, .int .i64 c, .int .i64 d] 32 true, .cells b1 [.int .i64 W, .int .i64 H, .slice (some ⟨r, 0, none⟩) n cap] 37 true, .gen (rdE (some ⟨r, 0, none⟩) r 0 n 1 (ivals .u32 px))]) (fun _ => True) (by kernel_rfl) (fun w hT => append_own (n' := ((((N' + 1) + 1) + 1) + 1)) (z := .int .u8 0) hT (i := 2) (bytes := 1) rfl (by kernel_rfl) (by kernel_rfl) rfl (by decide) (by decide) (Rd.ofCells (vals := ivals .u8 [pb (px.getD (Int.toNat (((b + (j : Int)) * W) + (a + (k : Int)))) 0)]) (hT.ok 0 _ rfl) rfl rfl) (ivals_one .u8 [pb (px.getD (Int.toNat (((b + (j : Int)) * W) + (a + (k : Int)))) 0)]) (by omega) (ivals_append .u8 ((((rdP W px a b c j ++ rdK W px (b + (j : Int)) a k) ++ [pa (px.getD (Int.toNat (((b + (j : Int)) * W) + (a + (k : Int)))) 0)]) ++ [pr (px.getD (Int.toNat (((b + (j : Int)) * W) + (a + (k : Int)))) 0)]) ++ [pg (px.getD (Int.toNat (((b + (j : Int)) * W) + (a + (k : Int)))) 0)]) [pb (px.getD (Int.toNat (((b + (j : Int)) * W) + (a + (k : Int)))) 0)]) rfl) ?_
      rintro ⟨A25, g25, cp25⟩ -
      refine cont_norm [(2, .pointer (some ⟨b1, 0, none⟩)), (3, .pointer (some ⟨b2, 0, none⟩)), (8, .int .i64 (b + (j : Int))), (9, .int .i64 (a + (k : Int))), (10, .pointer (some ⟨b10, 0, none⟩)), (11, .int .i64 3), (53, .slice A21 (((N' + 1) + 1) + 1) cp21), (58, .slice (some ⟨b24, 0, none⟩) 1 1), (59, .slice A25 ((((N' + 1) + 1) + 1) + 1) cp25)] [.cells b24 [.int .u8 (pb (px.getD (Int.toNat (((b + (j : Int)) * W) + (a + (k : Int)))) 0))] 5 true, .cells b10 [.int .i64 (pa (px.getD (Int.toNat (((b + (j : Int)) * W) + (a + (k : Int)))) 0)), .int .i64 (pr (px.getD (Int.toNat (((b + (j : Int)) * W) + (a + (k : Int)))) 0)), .int .i64 (pg (px.getD (Int.toNat (((b + (j : Int)) * W) + (a + (k : Int)))) 0)), .int .i64 (pb (px.getD (Int.toNat (((b + (j : Int)) * W) + (a + (k : Int)))) 0))] 86 true, .gen (rowE (A25) g25 ((((N' + 1) + 1) + 1) + 1) cp25 5 1 (ivals .u8 (((((rdP W px a b c j ++ rdK W px (b + (j : Int)) a k) ++ [pa (px.getD (Int.toNat (((b + (j : Int)) * W) + (a + (k : Int)))) 0)]) ++ [pr (px.getD (Int.toNat (((b + (j : Int)) * W) + (a + (k : Int)))) 0)]) ++ [pg (px.getD (Int.toNat (((b + (j : Int)) * W) + (a + (k : Int)))) 0)]) ++ [pb (px.getD (Int.toNat (((b + (j : Int)) * W) + (a + (k : Int)))) 0)])) true), .cells b2 [.int .i64 a, .int .i64 b, .int .i64 c, .int .i64 d] 32 true, .cells b1 [.int .i64 W, .int .i64 H, .slice (some ⟨r, 0, none⟩) n cap] 37 true, .gen (rdE (some ⟨r, 0, none⟩) r 0 n 1 (ivals .u32 px))] (by kernel_rfl) rfl ?_
      refine cont_fact (F := (0 < ((((N' + 1) + 1) + 1) + 1) → (A25 : Option Addr) = some ⟨g25, 0, none⟩) ∧ (((((rdP W px a b c j ++ rdK W px (b + (j : Int)) a k) ++ [pa (px.getD (Int.toNat (((b + (j : Int)) * W) + (a + (k : Int)))) 0)]) ++ [pr (px.getD (Int.toNat (((b + (j : Int)) * W) + (a + (k : Int)))) 0)]) ++ [pg (px.getD (Int.toNat (((b + (j : Int)) * W) + (a + (k : Int)))) 0)]) ++ [pb (px.getD (Int.toNat (((b + (j : Int)) * W) + (a + (k : Int)))) 0)]).length = ((((N' + 1) + 1) + 1) + 1) ∧ ((((N' + 1) + 1) + 1) + 1) ≤ cp25 ∧ cp25 ≤ maxLen) (fun w hT => Row.facts (hT.ok 2 _ rfl)) (fun hr26_ => ?_)
      obtain ⟨hr26_a, hr26_l, hr26_c, hr26_m⟩ := hr26_
      unfold maxLen at hr26_m
      refine bS [0] 8 0 [(2, .pointer (some ⟨b1, 0, none⟩)), (3, .pointer (some ⟨b2, 0, none⟩)), (7, .slice A25 ((((N' + 1) + 1) + 1) + 1) cp25), (8, .int .i64 (b + (j : Int))), (9, .int .i64 (a + (k : Int))), (10, .pointer (some ⟨b10, 0, none⟩)), (11, .int .i64 3)] ?_
      refine cont_forget 0 rfl ?_
      refine cont_done ?_
      refine blk_normal ?_
      refine then_normal ?_
      refine cont_region 3 rfl ?_
      refine bS [0, 0, 0] 3 0 [(2, .pointer (some ⟨b1, 0, none⟩)), (3, .pointer (some ⟨b2, 0, none⟩)), (7, .slice A25 ((((N' + 1) + 1) + 1) + 1) cp25), (8, .int .i64 (b + (j : Int))), (9, .int .i64 (a + (k : Int))), (10, .pointer (some ⟨b10, 0, none⟩)), (11, .int .i64 4)] ?_
      refine cont_done ?_
      refine then_normal ?_
      refine cont_round 1 0 rfl ?_
      refine cont_seq ?_
      refine cont_seq ?_
      refine cont_region 2 rfl ?_
      refine bS [0, 0] 2 0 [(2, .pointer (some ⟨b1, 0, none⟩)), (3, .pointer (some ⟨b2, 0, none⟩)), (7, .slice A25 ((((N' + 1) + 1) + 1) + 1) cp25), (8, .int .i64 (b + (j : Int))), (9, .int .i64 (a + (k : Int))), (10, .pointer (some ⟨b10, 0, none⟩)), (11, .int .i64 4), (50, .bool false)] ?_
      refine cont_done ?_
      refine then_normal ?_
      refine cont_false rfl ?_
      refine cont_exit ?_
      refine then_exit ?_
      refine then_exit ?_
      refine blk_exit ?_
      refine blk_normal ?_
      refine then_normal ?_
      refine cont_region 3 rfl ?_
      refine bS [0, 0] 2 1 [(2, .pointer (some ⟨b1, 0, none⟩)), (3, .pointer (some ⟨b2, 0, none⟩)), (7, .slice A25 ((((N' + 1) + 1) + 1) + 1) cp25), (8, .int .i64 (b + (j : Int))), (37, .int .i64 (IntKind.i64.wrap ((a + (k : Int)) + 1)))] ?_
      refine cont_recast 37 (.int .i64 (IntKind.i64.wrap ((a + (k : Int)) + 1))) (.int .i64 ((a + (k : Int)) + 1)) rfl (wrapI (by omega) (by omega)) ?_
      refine cont_forget 0 rfl ?_
      refine bS [0] 3 0 [(2, .pointer (some ⟨b1, 0, none⟩)), (3, .pointer (some ⟨b2, 0, none⟩)), (7, .slice A25 ((((N' + 1) + 1) + 1) + 1) cp25), (8, .int .i64 (b + (j : Int))), (9, .int .i64 ((a + (k : Int)) + 1))] ?_
      refine cont_done ?_
      refine then_normal ?_
      refine cont_rowEq (k := .u8) 0 (((((rdP W px a b c j ++ rdK W px (b + (j : Int)) a k) ++ [pa (px.getD (Int.toNat (((b + (j : Int)) * W) + (a + (k : Int)))) 0)]) ++ [pr (px.getD (Int.toNat (((b + (j : Int)) * W) + (a + (k : Int)))) 0)]) ++ [pg (px.getD (Int.toNat (((b + (j : Int)) * W) + (a + (k : Int)))) 0)]) ++ [pb (px.getD (Int.toNat (((b + (j : Int)) * W) + (a + (k : Int)))) 0)]) (rdP W px a b c j ++ rdK W px (b + (j : Int)) a (k + 1)) rfl (by rw [rdK_succ, show Int.toNat ((b + (j : Int)) * W + a) + k = Int.toNat ((b + (j : Int)) * W + (a + (k : Int))) by omega]; simp only [parts4, List.append_assoc, List.cons_append, List.nil_append, Nat.zero_add, Nat.mul_one]) ?_
      refine cont_recast 9 (.int .i64 ((a + (k : Int)) + 1)) (.int .i64 (a + ((k + 1 : Nat) : Int))) rfl (congrArg (Value.int .i64) (by omega)) ?_
      refine cont_again (k + 1, ((((N' + 1) + 1) + 1) + 1), A25, g25, cp25) (show ((k + 1) : Int) ≤ c - a ∧ (((((N' + 1) + 1) + 1) + 1)) = j * (4 * Int.toNat (c - a)) + 4 * (k + 1) from ⟨by omega, by omega⟩) (show (c - a - (k + 1)).toNat < (c - a - k).toNat from by omega) (by kernel_rfl) (by kernel_rfl)
    replace c9_ := of_decide_eq_false c9_
    refine cont_false rfl ?_
    refine cont_exit ?_
    refine then_exit ?_
    refine then_exit ?_
    refine blk_exit ?_
    refine blk_normal ?_
    refine then_normal ?_
    refine cont_region 3 rfl ?_
    refine bS [0, 0] 2 1 [(2, .pointer (some ⟨b1, 0, none⟩)), (3, .pointer (some ⟨b2, 0, none⟩)), (7, .slice A' N' cp'), (29, .int .i64 (IntKind.i64.wrap ((b + (j : Int)) + 1)))] ?_
    refine cont_recast 29 (.int .i64 (IntKind.i64.wrap ((b + (j : Int)) + 1))) (.int .i64 ((b + (j : Int)) + 1)) rfl (wrapI (by omega) (by omega)) ?_
    refine bS [0] 3 0 [(2, .pointer (some ⟨b1, 0, none⟩)), (3, .pointer (some ⟨b2, 0, none⟩)), (7, .slice A' N' cp'), (8, .int .i64 ((b + (j : Int)) + 1))] ?_
    refine cont_done ?_
    refine then_normal ?_
    refine cont_rowEq (k := .u8) 0 (rdP W px a b c j ++ rdK W px (b + (j : Int)) a k) (rdP W px a b c (j + 1)) rfl (by rw [rdP_succ, rdRow, show Int.toNat (c - a) = k by omega]) ?_
    refine cont_recast 8 (.int .i64 ((b + (j : Int)) + 1)) (.int .i64 (b + ((j + 1 : Nat) : Int))) rfl (congrArg (Value.int .i64) (by omega)) ?_
    refine cont_again (j + 1, N', A', g', cp') (show b + ((j + 1) : Int) ≤ d ∧ (N') = (j + 1) * (4 * Int.toNat (c - a)) from ⟨by omega, by rw [show k = Int.toNat (c - a) by omega] at hN'; rw [Nat.add_mul]; omega⟩) (show (d - b - (j + 1)).toNat < (d - b - j).toNat from by omega) (by kernel_rfl) (by kernel_rfl)
  replace c7_ := of_decide_eq_false c7_
  refine cont_false rfl ?_
  refine cont_exit ?_
  refine then_exit ?_
  refine then_exit ?_
  refine blk_exit ?_
  refine then_normal ?_
  refine cont_seq ?_
  refine cont_region 3 rfl ?_
  refine bS [0, 0, 0] 3 0 [(4, .slice A N cp), (5, .int .i64 0)] ?_
  refine cont_forget 1 rfl ?_
  refine cont_forget 1 rfl ?_
  refine cont_done ?_
  refine then_normal ?_
  refine cont_ret ?_
  refine ret_two (.inl rfl) rfl 0 0 (.slice A N cp) (.int .i64 0) (by kernel_rfl) (by kernel_rfl) (by kernel_rfl) (by kernel_rfl) (fun w hT => ?_)
  replace hT := hT.erase 1 (fun e h hw => by cases h; first | rfl | cases hw)
  have hjd : j = Int.toNat (d - b) := by omega
  subst hjd
  have hpos : 1 * 4 ≤ Int.toNat (d - b) * (4 * Int.toNat (c - a)) := Nat.mul_le_mul (by omega) (by omega)
  have hA := (Row.facts (hT.ok 0 _ rfl)).1 (by omega)
  subst hA
  exact ⟨_, _, _, rfl, hT⟩

end Go.Proofs.Ytommojgfkkoghaa
