/- Contracts of functions of the given program, printed by a program of this project. -/
import Derived.Test.YtimpjdfflffcfaaW2
import Derived.Test.YtimpjdfflffcfaaRm
import Derived.Test.YtimpjdfflffcfaaProg
set_option linter.unusedVariables false
set_option linter.unusedSimpArgs false
namespace Go.Proofs.Ytimpjdfflffcfaa
open Go Go.RowKit
set_option maxRecDepth 100000
set_option maxHeartbeats 8000000

theorem refMayL (A : Option Addr) (g o n cap : Nat) (xs : List Rect) (w : World) (hT0 : Tab w w [.gen (rdE (A) g o n 4 (rvals xs))]) (hn : n ≤ 1000000000000) (hcap : n ≤ cap) :
    Calls Try.prog 15 #[.slice A n cap] w fun e w' => e = .returned (.bool (decide (xs = canR xs))) ∧ Below w.heap.size w w' := by
  obtain ⟨hra, hrl⟩ := Rd.factsR (hT0.ok 0 _ rfl)
  refine enter 93 [(0, .slice A n cap)] [.gen (rdE (A) g o n 4 (rvals xs))] Try.func15 rfl Try.ntmps15 rfl (by kernel_rfl) hT0 ?_
  refine cont_seq ?_
  refine cont_region 1 rfl ?_
  refine bS [0] 1 0 [(0, .slice A n cap)] ?_
  refine cont_done ?_
  refine then_normal ?_
  refine cont_seq ?_
  refine cont_region 1 rfl ?_
  refine bS [0] 1 0 [(0, .slice A n cap), (3, .int .i64 0)] ?_
  refine cont_done ?_
  refine then_normal ?_
  refine cont_seq ?_
  refine cont_seq ?_
  refine cont_region 1 rfl ?_
  refine bS [0] 1 0 [(0, .slice A n cap), (3, .int .i64 0), (4, .int .i64 0)] ?_
  refine cont_done ?_
  refine then_normal ?_
  refine cont_block ?_
  have hf0 : fromOf xs 0 = 0 := rfl
  refine cont_recast 3 (.int .i64 0) (.int .i64 ((fromOf xs 0 : Nat) : Int)) rfl (congrArg (Value.int .i64) (by rw [hf0]; rfl)) ?_
  refine cont_loop (α := Nat) (fun x_ : Nat => x_ ≤ n ∧ ∀ j, j < x_ → OkAt xs j) (fun x_ : Nat => [(0, .slice A n cap), (3, .int .i64 ((fromOf xs x_ : Nat) : Int)), (4, .int .i64 (x_ : Int))]) (fun x_ : Nat => [.gen (rdE (A) g o n 4 (rvals xs))]) (fun x_ : Nat => n - x_) 0 (⟨by omega, fun j hj => by omega⟩) (by kernel_rfl) (by kernel_rfl) ?_
  rintro i hinv1_
  replace hinv1_ : i ≤ n ∧ ∀ j, j < i → OkAt xs j := hinv1_
  refine cont_norm [(0, .slice A n cap), (3, .int .i64 ((fromOf xs i : Nat) : Int)), (4, .int .i64 (i : Int))] [.gen (rdE (A) g o n 4 (rvals xs))] (by kernel_rfl) rfl ?_
  obtain ⟨hi, hok⟩ := hinv1_
  have hfr := fromOf_le xs i
  refine cont_seq ?_
  refine cont_seq ?_
  refine cont_region 4 rfl ?_
  refine bS [0, 0, 0, 0] 4 0 [(0, .slice A n cap), (3, .int .i64 ((fromOf xs i : Nat) : Int)), (4, .int .i64 (i : Int)), (11, .bool (decide ((i : Int) < (n : Int))))] ?_
  refine cont_done ?_
  refine then_normal ?_
  refine cont_split 11 (decide ((i : Int) < (n : Int))) rfl (fun c2_ => ?_) (fun c2_ => ?_)
  ·
    replace c2_ := of_decide_eq_true c2_
    refine cont_true rfl ?_
    refine cont_skip ?_
    refine then_normal ?_
    refine cont_seq ?_
    refine cont_block ?_
    refine cont_seq ?_
    refine cont_region 6 rfl ?_
    refine bS [0, 0] 2 4 [(0, .slice A n cap), (3, .int .i64 ((fromOf xs i : Nat) : Int)), (4, .int .i64 (i : Int)), (14, .slice A n cap), (15, .int .i64 (i : Int))] ?_
    refine pl_step 3 3 rfl rfl ?_
    refine cont_recast 14 (.slice A n cap) (.slice (some ⟨g, o, none⟩) n cap) rfl (by rw [hra (by omega)]) ?_
    refine sem_step 16 (Instr.indexAt 22 (.slice (some ⟨g, o, none⟩) n cap) (.int .i64 (i : Int))) (.pointer (some ⟨g, o + i * 4, none⟩)) (by kernel_rfl) (fun w hT => run_indexAt (e := 25) (sz := 4) _ (by kernel_rfl) (by kernel_rfl) (by omega) (by omega) (by omega) w) ?_
    refine pl_step 4 2 rfl rfl ?_
    refine sem_step 17 (Instr.loadAt 25 (.pointer (some ⟨g, o + i * 4, none⟩))) (.agg #[.int .i64 ((rget xs i).x0), .int .i64 ((rget xs i).y0), .int .i64 ((rget xs i).x1), .int .i64 ((rget xs i).y1)]) (by kernel_rfl) (fun w hT => run_loadN (m := 4) (cs := rcells (rget xs i)) (by kernel_rfl) (by kernel_rfl) rfl (Rd.rect (hT.ok 0 _ rfl) (by omega))) ?_
    refine batch1 [0, 0] 6 0 (fun b3 => [(0, .slice A n cap), (3, .int .i64 ((fromOf xs i : Nat) : Int)), (4, .int .i64 (i : Int)), (5, .pointer (some ⟨b3, 0, none⟩))]) (fun b3 => [.cells b3 [.int .i64 ((rget xs i).x0), .int .i64 ((rget xs i).y0), .int .i64 ((rget xs i).x1), .int .i64 ((rget xs i).y1)] 25 true, .gen (rdE (A) g o n 4 (rvals xs))]) rfl rfl [0, 3, 4, 5] (fun _ => rfl) (fun b3 => by kernel_rfl) (fun b3 => by kernel_rfl) (fun b3 => ?_)
    refine cont_done ?_
    refine then_normal ?_
    refine cont_seq ?_
    refine cont_seq ?_
    refine cont_region 2 rfl ?_
    refine bS [0] 1 1 [(0, .slice A n cap), (3, .int .i64 ((fromOf xs i : Nat) : Int)), (4, .int .i64 (i : Int)), (5, .pointer (some ⟨b3, 0, none⟩)), (18, .agg #[.int .i64 ((rget xs i).x0), .int .i64 ((rget xs i).y0), .int .i64 ((rget xs i).x1), .int .i64 ((rget xs i).y1)])] ?_
    refine pl_step 2 0 rfl rfl ?_
    refine call_pure (d := 19) (.bool (emptyB ((rget xs i).x0) ((rget xs i).y0) ((rget xs i).x1) ((rget xs i).y1))) (by kernel_rfl) (fun w hT => refEmpty ((rget xs i).x0) ((rget xs i).y0) ((rget xs i).x1) ((rget xs i).y1) w) ?_
    refine cont_done ?_
    refine then_normal ?_
    refine cont_split 19 (emptyB ((rget xs i).x0) ((rget xs i).y0) ((rget xs i).x1) ((rget xs i).y1)) rfl (fun c4_ => ?_) (fun c4_ => ?_)
    ·
      refine cont_true rfl ?_
      refine cont_seq ?_
      refine cont_region 1 rfl ?_
      refine bS [0] 1 0 [(2, .bool false)] ?_
      refine cont_forget 0 rfl ?_
      refine cont_done ?_
      refine then_normal ?_
      refine cont_ret ?_
      refine then_ret ?_
      refine blk_ret ?_
      refine then_ret ?_
      refine then_ret ?_
      refine blk_ret ?_
      refine then_ret ?_
      refine ret_one (.inl rfl) rfl 0 (.bool false) (by kernel_rfl) (by kernel_rfl) (fun w hT => ?_)
      refine ⟨ret_bool (may_no (i := i) (by omega) (fun ok_ => ?_)).symm, hT.post rfl⟩
      first
      | (have e_ := ok_.ne; rw [show emptyR (rget xs i) = true from ‹emptyB _ _ _ _ = true›] at e_; cases e_)
      | (have e_ := ok_.on (by omega) (by assumption); omega)
      | (have e_ := ok_.next (by omega) (by assumption); omega)
      | (have e_ := ok_.apart (by omega) (by assumption) (by assumption) e hEnd; exact absurd (show (true : Bool) = false from (Eq.symm ‹eqF span1 _ _ = true›).trans e_) (by decide))
    refine cont_false rfl ?_
    refine cont_skip ?_
    refine then_normal ?_
    refine cont_seq ?_
    refine cont_seq ?_
    refine cont_region 2 rfl ?_
    refine bS [0, 0] 2 0 [(0, .slice A n cap), (3, .int .i64 ((fromOf xs i : Nat) : Int)), (4, .int .i64 (i : Int)), (5, .pointer (some ⟨b3, 0, none⟩)), (21, .bool ((i : Int) == 0))] ?_
    refine cont_done ?_
    refine then_normal ?_
    refine cont_split 21 ((i : Int) == 0) rfl (fun c5_ => ?_) (fun c5_ => ?_)
    ·
      replace c5_ := eq_of_beqt c5_
      refine cont_true rfl ?_
      refine cont_exit ?_
      refine then_exit ?_
      refine blk_exit ?_
      refine then_normal ?_
      refine cont_region 3 rfl ?_
      refine bS [0, 0] 2 1 [(0, .slice A n cap), (3, .int .i64 ((fromOf xs i : Nat) : Int)), (13, .int .i64 (IntKind.i64.wrap ((i : Int) + 1)))] ?_
      refine cont_recast 13 (.int .i64 (IntKind.i64.wrap ((i : Int) + 1))) (.int .i64 ((i + 1 : Nat) : Int)) rfl (by rw [show (((i + 1 : Nat) : Int)) = (i : Int) + 1 by omega]; exact wrapI (by omega) (by omega)) ?_
      refine cont_forget 0 rfl ?_
      refine bS [0] 3 0 [(0, .slice A n cap), (3, .int .i64 ((fromOf xs i : Nat) : Int)), (4, .int .i64 ((i + 1 : Nat) : Int))] ?_
      refine cont_done ?_
      refine then_normal ?_
      have hnow_ : OkAt xs i := ⟨c4_, fun h0 => by omega, fun h0 => by omega, fun h0 => by omega⟩
      have hfs_ : fromOf xs (i + 1) = fromOf xs i := fromOf_zero (by omega)
      refine cont_recast 3 (.int .i64 ((fromOf xs i : Nat) : Int)) (.int .i64 ((fromOf xs (i + 1) : Nat) : Int)) rfl (congrArg (Value.int .i64) (by rw [hfs_])) ?_
      refine cont_again (i + 1) (show (i + 1) ≤ n ∧ ∀ j, j < (i + 1) → OkAt xs j from ⟨by omega, fun j hj => by rcases Nat.lt_succ_iff_lt_or_eq.1 hj with h_ | h_; exact hok j h_; subst h_; exact hnow_⟩) (show n - (i + 1) < n - i from by omega) (by kernel_rfl) (by kernel_rfl)
    replace c5_ := ne_of_beqf c5_
    refine cont_false rfl ?_
    refine cont_skip ?_
    refine then_normal ?_
    refine cont_seq ?_
    refine cont_region 7 rfl ?_
    refine bS [0, 0, 0] 3 4 [(0, .slice A n cap), (3, .int .i64 ((fromOf xs i : Nat) : Int)), (4, .int .i64 (i : Int)), (5, .pointer (some ⟨b3, 0, none⟩)), (22, .slice A n cap), (24, .int .i64 (IntKind.i64.wrap ((i : Int) - 1)))] ?_
    refine cont_recast 24 (.int .i64 (IntKind.i64.wrap ((i : Int) - 1))) (.int .i64 ((i - 1 : Nat) : Int)) rfl (by rw [show (((i - 1 : Nat) : Int)) = (i : Int) - 1 by omega]; exact wrapI (by omega) (by omega)) ?_
    refine pl_step 4 3 rfl rfl ?_
    refine cont_recast 22 (.slice A n cap) (.slice (some ⟨g, o, none⟩) n cap) rfl (by rw [hra (by omega)]) ?_
    refine sem_step 25 (Instr.indexAt 22 (.slice (some ⟨g, o, none⟩) n cap) (.int .i64 ((i - 1 : Nat) : Int))) (.pointer (some ⟨g, o + (i - 1 : Nat) * 4, none⟩)) (by kernel_rfl) (fun w hT => run_indexAt (e := 25) (sz := 4) _ (by kernel_rfl) (by kernel_rfl) (by omega) (by omega) (by omega) w) ?_
    refine pl_step 5 2 rfl rfl ?_
    refine sem_step 26 (Instr.loadAt 25 (.pointer (some ⟨g, o + (i - 1 : Nat) * 4, none⟩))) (.agg #[.int .i64 ((rget xs (i - 1 : Nat)).x0), .int .i64 ((rget xs (i - 1 : Nat)).y0), .int .i64 ((rget xs (i - 1 : Nat)).x1), .int .i64 ((rget xs (i - 1 : Nat)).y1)]) (by kernel_rfl) (fun w hT => run_loadN (m := 4) (cs := rcells (rget xs (i - 1 : Nat))) (by kernel_rfl) (by kernel_rfl) rfl (Rd.rect (hT.ok 1 _ rfl) (by omega))) ?_
    refine batch1 [0, 0] 7 0 (fun b6 => [(0, .slice A n cap), (3, .int .i64 ((fromOf xs i : Nat) : Int)), (4, .int .i64 (i : Int)), (5, .pointer (some ⟨b3, 0, none⟩)), (6, .pointer (some ⟨b6, 0, none⟩))]) (fun b6 => [.cells b6 [.int .i64 ((rget xs (i - 1 : Nat)).x0), .int .i64 ((rget xs (i - 1 : Nat)).y0), .int .i64 ((rget xs (i - 1 : Nat)).x1), .int .i64 ((rget xs (i - 1 : Nat)).y1)] 25 true, .cells b3 [.int .i64 ((rget xs i).x0), .int .i64 ((rget xs i).y0), .int .i64 ((rget xs i).x1), .int .i64 ((rget xs i).y1)] 25 true, .gen (rdE (A) g o n 4 (rvals xs))]) rfl rfl [0, 3, 4, 5, 6] (fun _ => rfl) (fun b6 => by kernel_rfl) (fun b6 => by kernel_rfl) (fun b6 => ?_)
    refine cont_done ?_
    refine then_normal ?_
    refine cont_seq ?_
    refine cont_seq ?_
    refine cont_region 12 rfl ?_
    refine bS [0, 0, 0, 1, 0, 0] 6 6 [(0, .slice A n cap), (3, .int .i64 ((fromOf xs i : Nat) : Int)), (4, .int .i64 (i : Int)), (5, .pointer (some ⟨b3, 0, none⟩)), (6, .pointer (some ⟨b6, 0, none⟩)), (32, .bool (((rget xs (i - 1 : Nat)).y0) == ((rget xs i).y0)))] ?_
    refine cont_split 32 (((rget xs (i - 1 : Nat)).y0) == ((rget xs i).y0)) rfl (fun c7_ => ?_) (fun c7_ => ?_)
    ·
      replace c7_ := eq_of_beqt c7_
      refine bS [0, 0, 0, 1, 0, 0] 12 0 [(0, .slice A n cap), (3, .int .i64 ((fromOf xs i : Nat) : Int)), (4, .int .i64 (i : Int)), (5, .pointer (some ⟨b3, 0, none⟩)), (6, .pointer (some ⟨b6, 0, none⟩)), (33, .pointer (some ⟨b6, 3, none⟩)), (34, .int .i64 ((rget xs (i - 1 : Nat)).y1)), (35, .pointer (some ⟨b3, 3, none⟩)), (36, .int .i64 ((rget xs i).y1)), (37, .bool (((rget xs (i - 1 : Nat)).y1) == ((rget xs i).y1))), (38, .bool (((rget xs (i - 1 : Nat)).y1) == ((rget xs i).y1)))] ?_
      refine cont_done ?_
      refine then_normal ?_
      refine cont_split 38 (((rget xs (i - 1 : Nat)).y1) == ((rget xs i).y1)) rfl (fun c8_ => ?_) (fun c8_ => ?_)
      ·
        refine cont_recast 37 (.bool (((rget xs (i - 1 : Nat)).y1) == ((rget xs i).y1))) (.bool true) rfl (congrArg Value.bool c8_) ?_
        replace c8_ := eq_of_beqt c8_
        refine cont_true rfl ?_
        refine cont_seq ?_
        refine cont_seq ?_
        refine cont_region 5 rfl ?_
        have hsY : sameY (rget xs (i - 1)) (rget xs i) := ⟨c7_, c8_⟩
        refine bS [0, 0, 0, 1, 0] 5 0 [(0, .slice A n cap), (3, .int .i64 ((fromOf xs i : Nat) : Int)), (4, .int .i64 (i : Int)), (33, .pointer (some ⟨b6, 3, none⟩)), (34, .int .i64 ((rget xs (i - 1 : Nat)).y1)), (35, .pointer (some ⟨b3, 3, none⟩)), (36, .int .i64 ((rget xs i).y1)), (37, .bool true), (43, .bool (decide (((rget xs (i - 1 : Nat)).x1) ≥ ((rget xs i).x0))))] ?_
        refine cont_done ?_
        refine then_normal ?_
        refine cont_split 43 (decide (((rget xs (i - 1 : Nat)).x1) ≥ ((rget xs i).x0))) rfl (fun c9_ => ?_) (fun c9_ => ?_)
        ·
          replace c9_ := of_decide_eq_true c9_
          refine cont_true rfl ?_
          refine cont_seq ?_
          refine cont_region 1 rfl ?_
          refine bS [0] 1 0 [(2, .bool false)] ?_
          refine cont_forget 0 rfl ?_
          refine cont_forget 0 rfl ?_
          refine cont_done ?_
          refine then_normal ?_
          refine cont_ret ?_
          refine then_ret ?_
          refine then_ret ?_
          refine blk_ret ?_
          refine then_ret ?_
          refine then_ret ?_
          refine blk_ret ?_
          refine then_ret ?_
          refine ret_one (.inl rfl) rfl 0 (.bool false) (by kernel_rfl) (by kernel_rfl) (fun w hT => ?_)
          refine ⟨ret_bool (may_no (i := i) (by omega) (fun ok_ => ?_)).symm, hT.post rfl⟩
          first
          | (have e_ := ok_.ne; rw [show emptyR (rget xs i) = true from ‹emptyB _ _ _ _ = true›] at e_; cases e_)
          | (have e_ := ok_.on (by omega) (by assumption); omega)
          | (have e_ := ok_.next (by omega) (by assumption); omega)
          | (have e_ := ok_.apart (by omega) (by assumption) (by assumption) e hEnd; exact absurd (show (true : Bool) = false from (Eq.symm ‹eqF span1 _ _ = true›).trans e_) (by decide))
        replace c9_ := of_decide_eq_false c9_
        refine cont_false rfl ?_
        refine cont_skip ?_
        refine then_normal ?_
        refine cont_exit ?_
        refine then_exit ?_
        refine blk_exit ?_
        refine then_normal ?_
        refine cont_region 3 rfl ?_
        refine bS [0, 0] 2 1 [(0, .slice A n cap), (3, .int .i64 ((fromOf xs i : Nat) : Int)), (13, .int .i64 (IntKind.i64.wrap ((i : Int) + 1))), (33, .pointer (some ⟨b6, 3, none⟩)), (34, .int .i64 ((rget xs (i - 1 : Nat)).y1)), (35, .pointer (some ⟨b3, 3, none⟩)), (36, .int .i64 ((rget xs i).y1)), (37, .bool true)] ?_
        refine cont_recast 13 (.int .i64 (IntKind.i64.wrap ((i : Int) + 1))) (.int .i64 ((i + 1 : Nat) : Int)) rfl (by rw [show (((i + 1 : Nat) : Int)) = (i : Int) + 1 by omega]; exact wrapI (by omega) (by omega)) ?_
        refine bS [0] 3 0 [(0, .slice A n cap), (3, .int .i64 ((fromOf xs i : Nat) : Int)), (4, .int .i64 ((i + 1 : Nat) : Int)), (33, .pointer (some ⟨b6, 3, none⟩)), (34, .int .i64 ((rget xs (i - 1 : Nat)).y1)), (35, .pointer (some ⟨b3, 3, none⟩)), (36, .int .i64 ((rget xs i).y1)), (37, .bool true)] ?_
        refine cont_done ?_
        refine then_normal ?_
        refine cont_forget 1 rfl ?_
        refine cont_forget 0 rfl ?_
        have hnow_ : OkAt xs i := ⟨c4_, fun _ _ => by omega, fun _ hs => absurd hsY hs, fun _ hs => absurd hsY hs⟩
        have hfs_ : fromOf xs (i + 1) = fromOf xs i := fromOf_same (by omega) hsY
        refine cont_recast 3 (.int .i64 ((fromOf xs i : Nat) : Int)) (.int .i64 ((fromOf xs (i + 1) : Nat) : Int)) rfl (congrArg (Value.int .i64) (by rw [hfs_])) ?_
        refine cont_again (i + 1) (show (i + 1) ≤ n ∧ ∀ j, j < (i + 1) → OkAt xs j from ⟨by omega, fun j hj => by rcases Nat.lt_succ_iff_lt_or_eq.1 hj with h_ | h_; exact hok j h_; subst h_; exact hnow_⟩) (show n - (i + 1) < n - i from by omega) (by kernel_rfl) (by kernel_rfl)
      refine cont_recast 37 (.bool (((rget xs (i - 1 : Nat)).y1) == ((rget xs i).y1))) (.bool false) rfl (congrArg Value.bool c8_) ?_
      replace c8_ := ne_of_beqf c8_
      refine cont_false rfl ?_
      refine cont_skip ?_
      refine then_normal ?_
      refine cont_seq ?_
      refine cont_seq ?_
      refine cont_region 5 rfl ?_
      have hnY : ¬ sameY (rget xs (i - 1)) (rget xs i) := fun hs => c8_ hs.2
      refine bS [0, 0, 0, 1, 0] 5 0 [(0, .slice A n cap), (3, .int .i64 ((fromOf xs i : Nat) : Int)), (4, .int .i64 (i : Int)), (5, .pointer (some ⟨b3, 0, none⟩)), (6, .pointer (some ⟨b6, 0, none⟩)), (33, .pointer (some ⟨b6, 3, none⟩)), (34, .int .i64 ((rget xs (i - 1 : Nat)).y1)), (35, .pointer (some ⟨b3, 3, none⟩)), (36, .int .i64 ((rget xs i).y1)), (37, .bool false), (48, .bool (decide (((rget xs (i - 1 : Nat)).y1) > ((rget xs i).y0))))] ?_
      refine cont_done ?_
      refine then_normal ?_
      refine cont_split 48 (decide (((rget xs (i - 1 : Nat)).y1) > ((rget xs i).y0))) rfl (fun c10_ => ?_) (fun c10_ => ?_)
      ·
        replace c10_ := of_decide_eq_true c10_
        refine cont_true rfl ?_
        refine cont_seq ?_
        refine cont_region 1 rfl ?_
        refine bS [0] 1 0 [(2, .bool false)] ?_
        refine cont_forget 0 rfl ?_
        refine cont_forget 0 rfl ?_
        refine cont_done ?_
        refine then_normal ?_
        refine cont_ret ?_
        refine then_ret ?_
        refine blk_ret ?_
        refine then_ret ?_
        refine then_ret ?_
        refine blk_ret ?_
        refine then_ret ?_
        refine ret_one (.inl rfl) rfl 0 (.bool false) (by kernel_rfl) (by kernel_rfl) (fun w hT => ?_)
        refine ⟨ret_bool (may_no (i := i) (by omega) (fun ok_ => ?_)).symm, hT.post rfl⟩
        first
        | (have e_ := ok_.ne; rw [show emptyR (rget xs i) = true from ‹emptyB _ _ _ _ = true›] at e_; cases e_)
        | (have e_ := ok_.on (by omega) (by assumption); omega)
        | (have e_ := ok_.next (by omega) (by assumption); omega)
        | (have e_ := ok_.apart (by omega) (by assumption) (by assumption) e hEnd; exact absurd (show (true : Bool) = false from (Eq.symm ‹eqF span1 _ _ = true›).trans e_) (by decide))
      replace c10_ := of_decide_eq_false c10_
      refine cont_false rfl ?_
      refine cont_skip ?_
      refine then_normal ?_
      refine cont_seq ?_
      refine cont_region 2 rfl ?_
      refine bS [0, 0] 2 0 [(0, .slice A n cap), (3, .int .i64 ((fromOf xs i : Nat) : Int)), (4, .int .i64 (i : Int)), (5, .pointer (some ⟨b3, 0, none⟩)), (6, .pointer (some ⟨b6, 0, none⟩)), (7, .int .i64 (i : Int)), (33, .pointer (some ⟨b6, 3, none⟩)), (34, .int .i64 ((rget xs (i - 1 : Nat)).y1)), (35, .pointer (some ⟨b3, 3, none⟩)), (36, .int .i64 ((rget xs i).y1)), (37, .bool false)] ?_
      refine cont_done ?_
      refine then_normal ?_
      refine cont_seq ?_
      refine cont_block ?_
      refine cont_loop (α := Nat) (fun x_ : Nat => i ≤ x_ ∧ x_ ≤ n ∧ ∀ j, i ≤ j → j < x_ → sameY (rget xs j) (rget xs i)) (fun x_ : Nat => [(0, .slice A n cap), (3, .int .i64 ((fromOf xs i : Nat) : Int)), (4, .int .i64 (i : Int)), (5, .pointer (some ⟨b3, 0, none⟩)), (6, .pointer (some ⟨b6, 0, none⟩)), (7, .int .i64 (x_ : Int)), (33, .pointer (some ⟨b6, 3, none⟩)), (34, .int .i64 ((rget xs (i - 1 : Nat)).y1)), (35, .pointer (some ⟨b3, 3, none⟩)), (36, .int .i64 ((rget xs i).y1)), (37, .bool false)]) (fun x_ : Nat => [.cells b6 [.int .i64 ((rget xs (i - 1 : Nat)).x0), .int .i64 ((rget xs (i - 1 : Nat)).y0), .int .i64 ((rget xs (i - 1 : Nat)).x1), .int .i64 ((rget xs (i - 1 : Nat)).y1)] 25 true, .cells b3 [.int .i64 ((rget xs i).x0), .int .i64 ((rget xs i).y0), .int .i64 ((rget xs i).x1), .int .i64 ((rget xs i).y1)] 25 true, .gen (rdE (A) g o n 4 (rvals xs))]) (fun x_ : Nat => n - x_) i (⟨by omega, by omega, fun j h1 h2 => by omega⟩) (by kernel_rfl) (by kernel_rfl) ?_
      rintro e hinv11_
      replace hinv11_ : i ≤ e ∧ e ≤ n ∧ ∀ j, i ≤ j → j < e → sameY (rget xs j) (rget xs i) := hinv11_
      refine cont_norm [(0, .slice A n cap), (3, .int .i64 ((fromOf xs i : Nat) : Int)), (4, .int .i64 (i : Int)), (5, .pointer (some ⟨b3, 0, none⟩)), (6, .pointer (some ⟨b6, 0, none⟩)), (7, .int .i64 (e : Int)), (33, .pointer (some ⟨b6, 3, none⟩)), (34, .int .i64 ((rget xs (i - 1 : Nat)).y1)), (35, .pointer (some ⟨b3, 3, none⟩)), (36, .int .i64 ((rget xs i).y1)), (37, .bool false)] [.cells b6 [.int .i64 ((rget xs (i - 1 : Nat)).x0), .int .i64 ((rget xs (i - 1 : Nat)).y0), .int .i64 ((rget xs (i - 1 : Nat)).x1), .int .i64 ((rget xs (i - 1 : Nat)).y1)] 25 true, .cells b3 [.int .i64 ((rget xs i).x0), .int .i64 ((rget xs i).y0), .int .i64 ((rget xs i).x1), .int .i64 ((rget xs i).y1)] 25 true, .gen (rdE (A) g o n 4 (rvals xs))] (by kernel_rfl) rfl ?_
      obtain ⟨hie, hen, hsm⟩ := hinv11_
      refine cont_seq ?_
      refine cont_seq ?_
      refine drawn_enter 24 [] rfl (by kernel_rfl) ?_
      refine takes 0 [] [(0, 0), (1, 0), (2, 0), (3, 0), (4, 0)] 19 [4, 3, 2, 1, 0] [(0, .slice A n cap), (3, .int .i64 ((fromOf xs i : Nat) : Int)), (4, .int .i64 (i : Int)), (5, .pointer (some ⟨b3, 0, none⟩)), (6, .pointer (some ⟨b6, 0, none⟩)), (7, .int .i64 (e : Int)), (33, .pointer (some ⟨b6, 3, none⟩)), (34, .int .i64 ((rget xs (i - 1 : Nat)).y1)), (35, .pointer (some ⟨b3, 3, none⟩)), (36, .int .i64 ((rget xs i).y1)), (37, .bool false), (54, .bool (decide ((e : Int) < (n : Int))))] (by kernel_rfl) (pok_then (pok_then (pok_then (pok_blk (pok_then (pok_blk (pok_then (pok_then (pok_blk (pok_then pok_body)))))))))) (by kernel_rfl) rfl rfl (by kernel_rfl) (by kernel_rfl) ?_
      refine cont_split 54 (decide ((e : Int) < (n : Int))) rfl (fun c12_ => ?_) (fun c12_ => ?_)
      ·
        replace c12_ := of_decide_eq_true c12_
        refine takes 0 [] [(5, 0), (6, 0), (10, 0)] 16 [10, 6, 5, 4, 3, 2, 1, 0] [(0, .slice A n cap), (3, .int .i64 ((fromOf xs i : Nat) : Int)), (4, .int .i64 (i : Int)), (5, .pointer (some ⟨b3, 0, none⟩)), (6, .pointer (some ⟨b6, 0, none⟩)), (7, .int .i64 (e : Int)), (33, .pointer (some ⟨b6, 3, none⟩)), (34, .int .i64 ((rget xs (i - 1 : Nat)).y1)), (35, .pointer (some ⟨b3, 3, none⟩)), (36, .int .i64 ((rget xs i).y1)), (37, .bool false), (54, .bool true), (55, .slice A n cap), (56, .int .i64 (e : Int)), (60, .pointer (some ⟨b3, 1, none⟩))] (by kernel_rfl) (pok_then (pok_then (pok_then (pok_blk (pok_then (pok_blk (pok_then (pok_then (pok_blk (pok_then pok_body)))))))))) (by kernel_rfl) rfl rfl (by kernel_rfl) (by kernel_rfl) ?_
        refine cont_recast 55 (.slice A n cap) (.slice (some ⟨g, o, none⟩) n cap) rfl (by rw [hra (by omega)]) ?_
        refine sem_take 0 [] 7 15 57 (Instr.indexAt 22 (.slice (some ⟨g, o, none⟩) n cap) (.int .i64 (e : Int))) (.pointer (some ⟨g, o + e * 4, none⟩)) (by kernel_rfl) (pok_then (pok_then (pok_then (pok_blk (pok_then (pok_blk (pok_then (pok_then (pok_blk (pok_then pok_body)))))))))) (by kernel_rfl) rfl (by kernel_rfl) (by kernel_rfl) (fun w hT => run_indexAt (e := 25) (sz := 4) _ (by kernel_rfl) (by kernel_rfl) (by omega) (by omega) (by omega) w) ?_
        refine takes 0 [] [(8, 0), (11, 1)] 13 [11, 8, 7, 10, 6, 5, 4, 3, 2, 1, 0] [(0, .slice A n cap), (3, .int .i64 ((fromOf xs i : Nat) : Int)), (4, .int .i64 (i : Int)), (5, .pointer (some ⟨b3, 0, none⟩)), (6, .pointer (some ⟨b6, 0, none⟩)), (7, .int .i64 (e : Int)), (33, .pointer (some ⟨b6, 3, none⟩)), (34, .int .i64 ((rget xs (i - 1 : Nat)).y1)), (35, .pointer (some ⟨b3, 3, none⟩)), (36, .int .i64 ((rget xs i).y1)), (37, .bool false), (54, .bool true), (55, .slice (some ⟨g, o, none⟩) n cap), (56, .int .i64 (e : Int)), (57, .pointer (some ⟨g, o + e * 4, none⟩)), (58, .pointer (some ⟨g, o + e * 4 + 1, none⟩)), (60, .pointer (some ⟨b3, 1, none⟩)), (61, .int .i64 ((rget xs i).y0))] (by kernel_rfl) (pok_then (pok_then (pok_then (pok_blk (pok_then (pok_blk (pok_then (pok_then (pok_blk (pok_then pok_body)))))))))) (by kernel_rfl) rfl rfl (by kernel_rfl) (by kernel_rfl) ?_
        refine sem_take 0 [] 9 12 59 (Instr.loadAt 3 (.pointer (some ⟨g, o + e * 4 + 1, none⟩))) (.int .i64 ((rget xs e).y0)) (by kernel_rfl) (pok_then (pok_then (pok_then (pok_blk (pok_then (pok_blk (pok_then (pok_then (pok_blk (pok_then pok_body)))))))))) (by kernel_rfl) rfl (by kernel_rfl) (by kernel_rfl) (fun w hT => run_load1 (by kernel_rfl) (Rd.cellF (hT 2 _ rfl) e 1 _ (by omega) rfl)) ?_
        refine takes 0 [] [(12, 0), (13, 0), (14, 0)] 9 [14, 13, 12, 9, 11, 8, 7, 10, 6, 5, 4, 3, 2, 1, 0] [(0, .slice A n cap), (3, .int .i64 ((fromOf xs i : Nat) : Int)), (4, .int .i64 (i : Int)), (5, .pointer (some ⟨b3, 0, none⟩)), (6, .pointer (some ⟨b6, 0, none⟩)), (7, .int .i64 (e : Int)), (33, .pointer (some ⟨b6, 3, none⟩)), (34, .int .i64 ((rget xs (i - 1 : Nat)).y1)), (35, .pointer (some ⟨b3, 3, none⟩)), (36, .int .i64 ((rget xs i).y1)), (37, .bool false), (55, .slice (some ⟨g, o, none⟩) n cap), (56, .int .i64 (e : Int)), (57, .pointer (some ⟨g, o + e * 4, none⟩)), (58, .pointer (some ⟨g, o + e * 4 + 1, none⟩)), (59, .int .i64 ((rget xs e).y0)), (60, .pointer (some ⟨b3, 1, none⟩)), (61, .int .i64 ((rget xs i).y0)), (62, .bool (((rget xs e).y0) == ((rget xs i).y0))), (64, .bool (((rget xs e).y0) == ((rget xs i).y0)))] (by kernel_rfl) (pok_then (pok_then (pok_then (pok_blk (pok_then (pok_blk (pok_then (pok_then (pok_blk (pok_then pok_body)))))))))) (by kernel_rfl) rfl rfl (by kernel_rfl) (by kernel_rfl) ?_
        refine cont_split 64 (((rget xs e).y0) == ((rget xs i).y0)) rfl (fun c13_ => ?_) (fun c13_ => ?_)
        ·
          refine cont_recast 62 (.bool (((rget xs e).y0) == ((rget xs i).y0))) (.bool true) rfl (congrArg Value.bool c13_) ?_
          replace c13_ := eq_of_beqt c13_
          refine takes 0 [] [(15, 0), (16, 0), (20, 0)] 6 [20, 16, 15, 14, 13, 12, 9, 11, 8, 7, 10, 6, 5, 4, 3, 2, 1, 0] [(0, .slice A n cap), (3, .int .i64 ((fromOf xs i : Nat) : Int)), (4, .int .i64 (i : Int)), (5, .pointer (some ⟨b3, 0, none⟩)), (6, .pointer (some ⟨b6, 0, none⟩)), (7, .int .i64 (e : Int)), (33, .pointer (some ⟨b6, 3, none⟩)), (34, .int .i64 ((rget xs (i - 1 : Nat)).y1)), (35, .pointer (some ⟨b3, 3, none⟩)), (36, .int .i64 ((rget xs i).y1)), (37, .bool false), (55, .slice (some ⟨g, o, none⟩) n cap), (56, .int .i64 (e : Int)), (57, .pointer (some ⟨g, o + e * 4, none⟩)), (58, .pointer (some ⟨g, o + e * 4 + 1, none⟩)), (59, .int .i64 ((rget xs e).y0)), (60, .pointer (some ⟨b3, 1, none⟩)), (61, .int .i64 ((rget xs i).y0)), (62, .bool true), (64, .bool true), (65, .slice A n cap), (66, .int .i64 (e : Int)), (70, .pointer (some ⟨b3, 3, none⟩))] (by kernel_rfl) (pok_then (pok_then (pok_then (pok_blk (pok_then (pok_blk (pok_then (pok_then (pok_blk (pok_then pok_body)))))))))) (by kernel_rfl) rfl rfl (by kernel_rfl) (by kernel_rfl) ?_
          refine cont_recast 65 (.slice A n cap) (.slice (some ⟨g, o, none⟩) n cap) rfl (by rw [hra (by omega)]) ?_
          refine sem_take 0 [] 17 5 67 (Instr.indexAt 22 (.slice (some ⟨g, o, none⟩) n cap) (.int .i64 (e : Int))) (.pointer (some ⟨g, o + e * 4, none⟩)) (by kernel_rfl) (pok_then (pok_then (pok_then (pok_blk (pok_then (pok_blk (pok_then (pok_then (pok_blk (pok_then pok_body)))))))))) (by kernel_rfl) rfl (by kernel_rfl) (by kernel_rfl) (fun w hT => run_indexAt (e := 25) (sz := 4) _ (by kernel_rfl) (by kernel_rfl) (by omega) (by omega) (by omega) w) ?_
          refine takes 0 [] [(18, 0), (21, 1)] 3 [21, 18, 17, 20, 16, 15, 14, 13, 12, 9, 11, 8, 7, 10, 6, 5, 4, 3, 2, 1, 0] [(0, .slice A n cap), (3, .int .i64 ((fromOf xs i : Nat) : Int)), (4, .int .i64 (i : Int)), (5, .pointer (some ⟨b3, 0, none⟩)), (6, .pointer (some ⟨b6, 0, none⟩)), (7, .int .i64 (e : Int)), (33, .pointer (some ⟨b6, 3, none⟩)), (34, .int .i64 ((rget xs (i - 1 : Nat)).y1)), (35, .pointer (some ⟨b3, 3, none⟩)), (36, .int .i64 ((rget xs i).y1)), (37, .bool false), (55, .slice (some ⟨g, o, none⟩) n cap), (56, .int .i64 (e : Int)), (57, .pointer (some ⟨g, o + e * 4, none⟩)), (58, .pointer (some ⟨g, o + e * 4 + 1, none⟩)), (59, .int .i64 ((rget xs e).y0)), (60, .pointer (some ⟨b3, 1, none⟩)), (61, .int .i64 ((rget xs i).y0)), (62, .bool true), (64, .bool true), (65, .slice (some ⟨g, o, none⟩) n cap), (66, .int .i64 (e : Int)), (67, .pointer (some ⟨g, o + e * 4, none⟩)), (68, .pointer (some ⟨g, o + e * 4 + 3, none⟩)), (70, .pointer (some ⟨b3, 3, none⟩)), (71, .int .i64 ((rget xs i).y1))] (by kernel_rfl) (pok_then (pok_then (pok_then (pok_blk (pok_then (pok_blk (pok_then (pok_then (pok_blk (pok_then pok_body)))))))))) (by kernel_rfl) rfl rfl (by kernel_rfl) (by kernel_rfl) ?_
          refine sem_take 0 [] 19 2 69 (Instr.loadAt 3 (.pointer (some ⟨g, o + e * 4 + 3, none⟩))) (.int .i64 ((rget xs e).y1)) (by kernel_rfl) (pok_then (pok_then (pok_then (pok_blk (pok_then (pok_blk (pok_then (pok_then (pok_blk (pok_then pok_body)))))))))) (by kernel_rfl) rfl (by kernel_rfl) (by kernel_rfl) (fun w hT => run_load1 (by kernel_rfl) (Rd.cellF (hT 2 _ rfl) e 3 _ (by omega) rfl)) ?_
          refine takes 0 [] [(22, 0), (23, 0)] 0 [23, 22, 19, 21, 18, 17, 20, 16, 15, 14, 13, 12, 9, 11, 8, 7, 10, 6, 5, 4, 3, 2, 1, 0] [(0, .slice A n cap), (3, .int .i64 ((fromOf xs i : Nat) : Int)), (4, .int .i64 (i : Int)), (5, .pointer (some ⟨b3, 0, none⟩)), (6, .pointer (some ⟨b6, 0, none⟩)), (7, .int .i64 (e : Int)), (33, .pointer (some ⟨b6, 3, none⟩)), (34, .int .i64 ((rget xs (i - 1 : Nat)).y1)), (35, .pointer (some ⟨b3, 3, none⟩)), (36, .int .i64 ((rget xs i).y1)), (37, .bool false), (55, .slice (some ⟨g, o, none⟩) n cap), (56, .int .i64 (e : Int)), (57, .pointer (some ⟨g, o + e * 4, none⟩)), (58, .pointer (some ⟨g, o + e * 4 + 1, none⟩)), (59, .int .i64 ((rget xs e).y0)), (60, .pointer (some ⟨b3, 1, none⟩)), (61, .int .i64 ((rget xs i).y0)), (62, .bool true), (65, .slice (some ⟨g, o, none⟩) n cap), (66, .int .i64 (e : Int)), (67, .pointer (some ⟨g, o + e * 4, none⟩)), (68, .pointer (some ⟨g, o + e * 4 + 3, none⟩)), (69, .int .i64 ((rget xs e).y1)), (70, .pointer (some ⟨b3, 3, none⟩)), (71, .int .i64 ((rget xs i).y1)), (72, .bool (((rget xs e).y1) == ((rget xs i).y1))), (73, .bool (((rget xs e).y1) == ((rget xs i).y1)))] (by kernel_rfl) (pok_then (pok_then (pok_then (pok_blk (pok_then (pok_blk (pok_then (pok_then (pok_blk (pok_then pok_body)))))))))) (by kernel_rfl) rfl rfl (by kernel_rfl) (by kernel_rfl) ?_
          refine drawn_done (by kernel_rfl) ?_
          refine then_normal ?_
          refine cont_split 73 (((rget xs e).y1) == ((rget xs i).y1)) rfl (fun c14_ => ?_) (fun c14_ => ?_)
          ·
            refine cont_recast 72 (.bool (((rget xs e).y1) == ((rget xs i).y1))) (.bool true) rfl (congrArg Value.bool c14_) ?_
            replace c14_ := eq_of_beqt c14_
            refine cont_true rfl ?_
            refine cont_skip ?_
            refine then_normal ?_
            refine cont_block ?_
            refine cont_region 3 rfl ?_
            refine bS [0, 0] 2 1 [(0, .slice A n cap), (3, .int .i64 ((fromOf xs i : Nat) : Int)), (4, .int .i64 (i : Int)), (5, .pointer (some ⟨b3, 0, none⟩)), (6, .pointer (some ⟨b6, 0, none⟩)), (33, .pointer (some ⟨b6, 3, none⟩)), (34, .int .i64 ((rget xs (i - 1 : Nat)).y1)), (35, .pointer (some ⟨b3, 3, none⟩)), (36, .int .i64 ((rget xs i).y1)), (37, .bool false), (55, .slice (some ⟨g, o, none⟩) n cap), (56, .int .i64 (e : Int)), (57, .pointer (some ⟨g, o + e * 4, none⟩)), (58, .pointer (some ⟨g, o + e * 4 + 1, none⟩)), (59, .int .i64 ((rget xs e).y0)), (60, .pointer (some ⟨b3, 1, none⟩)), (61, .int .i64 ((rget xs i).y0)), (62, .bool true), (65, .slice (some ⟨g, o, none⟩) n cap), (66, .int .i64 (e : Int)), (67, .pointer (some ⟨g, o + e * 4, none⟩)), (68, .pointer (some ⟨g, o + e * 4 + 3, none⟩)), (69, .int .i64 ((rget xs e).y1)), (70, .pointer (some ⟨b3, 3, none⟩)), (71, .int .i64 ((rget xs i).y1)), (72, .bool true), (75, .int .i64 (IntKind.i64.wrap ((e : Int) + 1)))] ?_
            refine cont_recast 75 (.int .i64 (IntKind.i64.wrap ((e : Int) + 1))) (.int .i64 ((e + 1 : Nat) : Int)) rfl (by rw [show (((e + 1 : Nat) : Int)) = (e : Int) + 1 by omega]; exact wrapI (by omega) (by omega)) ?_
            refine bS [0] 3 0 [(0, .slice A n cap), (3, .int .i64 ((fromOf xs i : Nat) : Int)), (4, .int .i64 (i : Int)), (5, .pointer (some ⟨b3, 0, none⟩)), (6, .pointer (some ⟨b6, 0, none⟩)), (7, .int .i64 ((e + 1 : Nat) : Int)), (33, .pointer (some ⟨b6, 3, none⟩)), (34, .int .i64 ((rget xs (i - 1 : Nat)).y1)), (35, .pointer (some ⟨b3, 3, none⟩)), (36, .int .i64 ((rget xs i).y1)), (37, .bool false), (55, .slice (some ⟨g, o, none⟩) n cap), (56, .int .i64 (e : Int)), (57, .pointer (some ⟨g, o + e * 4, none⟩)), (58, .pointer (some ⟨g, o + e * 4 + 1, none⟩)), (59, .int .i64 ((rget xs e).y0)), (60, .pointer (some ⟨b3, 1, none⟩)), (61, .int .i64 ((rget xs i).y0)), (62, .bool true), (65, .slice (some ⟨g, o, none⟩) n cap), (66, .int .i64 (e : Int)), (67, .pointer (some ⟨g, o + e * 4, none⟩)), (68, .pointer (some ⟨g, o + e * 4 + 3, none⟩)), (69, .int .i64 ((rget xs e).y1)), (70, .pointer (some ⟨b3, 3, none⟩)), (71, .int .i64 ((rget xs i).y1)), (72, .bool true)] ?_
            refine cont_done ?_
            refine blk_normal ?_
            refine then_normal ?_
            refine cont_again (e + 1) (show i ≤ (e + 1) ∧ (e + 1) ≤ n ∧ ∀ j, i ≤ j → j < (e + 1) → sameY (rget xs j) (rget xs i) from ⟨by omega, by omega, fun j h1 h2 => by rcases Nat.lt_succ_iff_lt_or_eq.1 h2 with h_ | h_; exact hsm j h1 h_; subst h_; exact ⟨c13_, c14_⟩⟩) (show n - (e + 1) < n - e from by omega) (by kernel_rfl) (by kernel_rfl)
          refine cont_recast 72 (.bool (((rget xs e).y1) == ((rget xs i).y1))) (.bool false) rfl (congrArg Value.bool c14_) ?_
          replace c14_ := ne_of_beqf c14_
          refine cont_false rfl ?_
          refine cont_exit ?_
          refine then_exit ?_
          refine then_exit ?_
          refine blk_exit ?_
          refine then_normal ?_
          refine cont_seq ?_
          refine cont_seq ?_
          have hEnd : EndOf xs i e := endOf_mk (by omega) hie (by omega) hsm (fun _ hs => c14_ hs.2)
          refine drawn_enter 16 [] rfl (by kernel_rfl) ?_
          refine takes 0 [] [(0, 0), (2, 0), (1, 0), (3, 1), (4, 0), (5, 0)] 10 [5, 4, 3, 1, 2, 0] [(0, .slice A n cap), (3, .int .i64 ((fromOf xs i : Nat) : Int)), (4, .int .i64 (i : Int)), (7, .int .i64 (e : Int)), (33, .pointer (some ⟨b6, 3, none⟩)), (34, .int .i64 ((rget xs (i - 1 : Nat)).y1)), (35, .pointer (some ⟨b3, 3, none⟩)), (36, .int .i64 ((rget xs i).y1)), (37, .bool false), (55, .slice (some ⟨g, o, none⟩) n cap), (56, .int .i64 (e : Int)), (57, .pointer (some ⟨g, o + e * 4, none⟩)), (58, .pointer (some ⟨g, o + e * 4 + 1, none⟩)), (59, .int .i64 ((rget xs e).y0)), (60, .pointer (some ⟨b3, 1, none⟩)), (61, .int .i64 ((rget xs i).y0)), (62, .bool true), (65, .slice (some ⟨g, o, none⟩) n cap), (66, .int .i64 (e : Int)), (67, .pointer (some ⟨g, o + e * 4, none⟩)), (68, .pointer (some ⟨g, o + e * 4 + 3, none⟩)), (69, .int .i64 ((rget xs e).y1)), (70, .pointer (some ⟨b3, 3, none⟩)), (71, .int .i64 ((rget xs i).y1)), (72, .bool false), (81, .bool (((rget xs (i - 1 : Nat)).y1) == ((rget xs i).y0)))] (by kernel_rfl) (pok_then (pok_then (pok_blk (pok_then (pok_then (pok_blk (pok_then pok_body))))))) (by kernel_rfl) rfl rfl (by kernel_rfl) (by kernel_rfl) ?_
          refine cont_split 81 (((rget xs (i - 1 : Nat)).y1) == ((rget xs i).y0)) rfl (fun c15_ => ?_) (fun c15_ => ?_)
          ·
            replace c15_ := eq_of_beqt c15_
            refine takes 0 [] [(6, 0), (7, 0), (8, 0), (10, 0), (11, 0), (12, 0)] 4 [12, 11, 10, 8, 7, 6, 5, 4, 3, 1, 2, 0] [(0, .slice A n cap), (4, .int .i64 (i : Int)), (33, .pointer (some ⟨b6, 3, none⟩)), (34, .int .i64 ((rget xs (i - 1 : Nat)).y1)), (35, .pointer (some ⟨b3, 3, none⟩)), (36, .int .i64 ((rget xs i).y1)), (37, .bool false), (55, .slice (some ⟨g, o, none⟩) n cap), (56, .int .i64 (e : Int)), (57, .pointer (some ⟨g, o + e * 4, none⟩)), (58, .pointer (some ⟨g, o + e * 4 + 1, none⟩)), (59, .int .i64 ((rget xs e).y0)), (60, .pointer (some ⟨b3, 1, none⟩)), (61, .int .i64 ((rget xs i).y0)), (62, .bool true), (65, .slice (some ⟨g, o, none⟩) n cap), (66, .int .i64 (e : Int)), (67, .pointer (some ⟨g, o + e * 4, none⟩)), (68, .pointer (some ⟨g, o + e * 4 + 3, none⟩)), (69, .int .i64 ((rget xs e).y1)), (70, .pointer (some ⟨b3, 3, none⟩)), (71, .int .i64 ((rget xs i).y1)), (72, .bool false), (81, .bool true), (82, .slice A n cap), (83, .int .i64 ((fromOf xs i : Nat) : Int)), (84, .int .i64 (i : Int)), (86, .slice A n cap), (87, .int .i64 (i : Int)), (88, .int .i64 (e : Int))] (by kernel_rfl) (pok_then (pok_then (pok_blk (pok_then (pok_then (pok_blk (pok_then pok_body))))))) (by kernel_rfl) rfl rfl (by kernel_rfl) (by kernel_rfl) ?_
            refine cont_recast 82 (.slice A n cap) (.slice (some ⟨g, o, none⟩) n cap) rfl (by rw [hra (by omega)]) ?_
            refine sem_take 0 [] 9 3 85 (Instr.sliceAt 22 (.slice (some ⟨g, o, none⟩) n cap) (some (.int .i64 ((fromOf xs i : Nat) : Int))) (some (.int .i64 (i : Int))) none) (.slice (sliceA g o (fromOf xs i : Nat) cap 4) (i - (fromOf xs i : Nat)) (cap - (fromOf xs i : Nat))) (by kernel_rfl) (pok_then (pok_then (pok_blk (pok_then (pok_then (pok_blk (pok_then pok_body))))))) (by kernel_rfl) rfl (by kernel_rfl) (by kernel_rfl) (fun w hT => run_slice2 (e := 25) (sz := 4) _ _ (by kernel_rfl) (by kernel_rfl) (by omega) (by omega) (by omega) (by omega) (by omega) w) ?_
            refine cont_recast 86 (.slice A n cap) (.slice (some ⟨g, o, none⟩) n cap) rfl (by rw [hra (by omega)]) ?_
            refine sem_take 0 [] 13 2 89 (Instr.sliceAt 22 (.slice (some ⟨g, o, none⟩) n cap) (some (.int .i64 (i : Int))) (some (.int .i64 (e : Int))) none) (.slice (sliceA g o i cap 4) (e - i) (cap - i)) (by kernel_rfl) (pok_then (pok_then (pok_blk (pok_then (pok_then (pok_blk (pok_then pok_body))))))) (by kernel_rfl) rfl (by kernel_rfl) (by kernel_rfl) (fun w hT => run_slice2 (e := 25) (sz := 4) _ _ (by kernel_rfl) (by kernel_rfl) (by omega) (by omega) (by omega) (by omega) (by omega) w) ?_
            refine drawn_one 14 1 rfl (by kernel_rfl) ?_
            refine call_pure (d := 90) (.bool (eqF span1 ((xs.drop (fromOf xs i : Nat)).take (i - (fromOf xs i : Nat))) ((xs.drop i).take (e - i)))) (by kernel_rfl) (fun w hT => refSpans (sliceA g o (fromOf xs i : Nat) cap 4) g (o + (fromOf xs i : Nat) * 4) (i - (fromOf xs i : Nat)) (cap - (fromOf xs i : Nat)) ((xs.drop (fromOf xs i : Nat)).take (i - (fromOf xs i : Nat))) (sliceA g o i cap 4) g (o + i * 4) (e - i) (cap - i) ((xs.drop i).take (e - i)) w (hT.viewRo (.cons (i := 2) rfl (Vw.rdSubR (by omega) (by omega)) (.cons (i := 2) rfl (Vw.rdSubR (by omega) (by omega)) .nil)) rfl) (by omega)) ?_
            refine drawn_next 0 [] (by kernel_rfl) ?_
            refine takes 0 [] [(15, 0)] 0 [15, 14, 13, 9, 12, 11, 10, 8, 7, 6, 5, 4, 3, 1, 2, 0] [(0, .slice A n cap), (4, .int .i64 (i : Int)), (33, .pointer (some ⟨b6, 3, none⟩)), (34, .int .i64 ((rget xs (i - 1 : Nat)).y1)), (35, .pointer (some ⟨b3, 3, none⟩)), (36, .int .i64 ((rget xs i).y1)), (37, .bool false), (55, .slice (some ⟨g, o, none⟩) n cap), (56, .int .i64 (e : Int)), (57, .pointer (some ⟨g, o + e * 4, none⟩)), (58, .pointer (some ⟨g, o + e * 4 + 1, none⟩)), (59, .int .i64 ((rget xs e).y0)), (60, .pointer (some ⟨b3, 1, none⟩)), (61, .int .i64 ((rget xs i).y0)), (62, .bool true), (65, .slice (some ⟨g, o, none⟩) n cap), (66, .int .i64 (e : Int)), (67, .pointer (some ⟨g, o + e * 4, none⟩)), (68, .pointer (some ⟨g, o + e * 4 + 3, none⟩)), (69, .int .i64 ((rget xs e).y1)), (70, .pointer (some ⟨b3, 3, none⟩)), (71, .int .i64 ((rget xs i).y1)), (72, .bool false), (82, .slice (some ⟨g, o, none⟩) n cap), (83, .int .i64 ((fromOf xs i : Nat) : Int)), (84, .int .i64 (i : Int)), (85, .slice (sliceA g o (fromOf xs i : Nat) cap 4) (i - (fromOf xs i : Nat)) (cap - (fromOf xs i : Nat))), (86, .slice (some ⟨g, o, none⟩) n cap), (87, .int .i64 (i : Int)), (88, .int .i64 (e : Int)), (89, .slice (sliceA g o i cap 4) (e - i) (cap - i)), (90, .bool (eqF span1 ((xs.drop (fromOf xs i : Nat)).take (i - (fromOf xs i : Nat))) ((xs.drop i).take (e - i)))), (91, .bool (eqF span1 ((xs.drop (fromOf xs i : Nat)).take (i - (fromOf xs i : Nat))) ((xs.drop i).take (e - i))))] (by kernel_rfl) (pok_then (pok_then (pok_blk (pok_then (pok_then (pok_blk (pok_then pok_body))))))) (by kernel_rfl) rfl rfl (by kernel_rfl) (by kernel_rfl) ?_
            refine drawn_done (by kernel_rfl) ?_
            refine then_normal ?_
            refine cont_split 91 (eqF span1 ((xs.drop (fromOf xs i : Nat)).take (i - (fromOf xs i : Nat))) ((xs.drop i).take (e - i))) rfl (fun c16_ => ?_) (fun c16_ => ?_)
            ·
              refine cont_recast 90 (.bool (eqF span1 ((xs.drop (fromOf xs i : Nat)).take (i - (fromOf xs i : Nat))) ((xs.drop i).take (e - i)))) (.bool true) rfl (congrArg Value.bool c16_) ?_
              refine cont_true rfl ?_
              refine cont_seq ?_
              refine cont_region 1 rfl ?_
              refine bS [0] 1 0 [(2, .bool false)] ?_
              refine cont_forget 0 rfl ?_
              refine cont_forget 0 rfl ?_
              refine cont_done ?_
              refine then_normal ?_
              refine cont_ret ?_
              refine then_ret ?_
              refine blk_ret ?_
              refine then_ret ?_
              refine then_ret ?_
              refine blk_ret ?_
              refine then_ret ?_
              refine ret_one (.inl rfl) rfl 0 (.bool false) (by kernel_rfl) (by kernel_rfl) (fun w hT => ?_)
              refine ⟨ret_bool (may_no (i := i) (by omega) (fun ok_ => ?_)).symm, hT.post rfl⟩
              first
              | (have e_ := ok_.ne; rw [show emptyR (rget xs i) = true from ‹emptyB _ _ _ _ = true›] at e_; cases e_)
              | (have e_ := ok_.on (by omega) (by assumption); omega)
              | (have e_ := ok_.next (by omega) (by assumption); omega)
              | (have e_ := ok_.apart (by omega) (by assumption) (by assumption) e hEnd; exact absurd (show (true : Bool) = false from (Eq.symm ‹eqF span1 _ _ = true›).trans e_) (by decide))
            refine cont_recast 90 (.bool (eqF span1 ((xs.drop (fromOf xs i : Nat)).take (i - (fromOf xs i : Nat))) ((xs.drop i).take (e - i)))) (.bool false) rfl (congrArg Value.bool c16_) ?_
            refine cont_false rfl ?_
            refine cont_skip ?_
            refine then_normal ?_
            refine cont_region 2 rfl ?_
            refine bS [0, 0] 2 0 [(0, .slice A n cap), (3, .int .i64 (i : Int)), (4, .int .i64 (i : Int)), (33, .pointer (some ⟨b6, 3, none⟩)), (34, .int .i64 ((rget xs (i - 1 : Nat)).y1)), (35, .pointer (some ⟨b3, 3, none⟩)), (36, .int .i64 ((rget xs i).y1)), (37, .bool false), (55, .slice (some ⟨g, o, none⟩) n cap), (56, .int .i64 (e : Int)), (57, .pointer (some ⟨g, o + e * 4, none⟩)), (58, .pointer (some ⟨g, o + e * 4 + 1, none⟩)), (59, .int .i64 ((rget xs e).y0)), (60, .pointer (some ⟨b3, 1, none⟩)), (61, .int .i64 ((rget xs i).y0)), (62, .bool true), (65, .slice (some ⟨g, o, none⟩) n cap), (66, .int .i64 (e : Int)), (67, .pointer (some ⟨g, o + e * 4, none⟩)), (68, .pointer (some ⟨g, o + e * 4 + 3, none⟩)), (69, .int .i64 ((rget xs e).y1)), (70, .pointer (some ⟨b3, 3, none⟩)), (71, .int .i64 ((rget xs i).y1)), (72, .bool false), (82, .slice (some ⟨g, o, none⟩) n cap), (83, .int .i64 ((fromOf xs i : Nat) : Int)), (84, .int .i64 (i : Int)), (85, .slice (sliceA g o (fromOf xs i : Nat) cap 4) (i - (fromOf xs i : Nat)) (cap - (fromOf xs i : Nat))), (86, .slice (some ⟨g, o, none⟩) n cap), (87, .int .i64 (i : Int)), (88, .int .i64 (e : Int)), (89, .slice (sliceA g o i cap 4) (e - i) (cap - i)), (90, .bool false)] ?_
            refine cont_done ?_
            refine blk_normal ?_
            refine then_normal ?_
            refine cont_region 3 rfl ?_
            refine bS [0, 0] 2 1 [(0, .slice A n cap), (3, .int .i64 (i : Int)), (13, .int .i64 (IntKind.i64.wrap ((i : Int) + 1))), (33, .pointer (some ⟨b6, 3, none⟩)), (34, .int .i64 ((rget xs (i - 1 : Nat)).y1)), (35, .pointer (some ⟨b3, 3, none⟩)), (36, .int .i64 ((rget xs i).y1)), (37, .bool false), (55, .slice (some ⟨g, o, none⟩) n cap), (56, .int .i64 (e : Int)), (57, .pointer (some ⟨g, o + e * 4, none⟩)), (58, .pointer (some ⟨g, o + e * 4 + 1, none⟩)), (59, .int .i64 ((rget xs e).y0)), (60, .pointer (some ⟨b3, 1, none⟩)), (61, .int .i64 ((rget xs i).y0)), (62, .bool true), (65, .slice (some ⟨g, o, none⟩) n cap), (66, .int .i64 (e : Int)), (67, .pointer (some ⟨g, o + e * 4, none⟩)), (68, .pointer (some ⟨g, o + e * 4 + 3, none⟩)), (69, .int .i64 ((rget xs e).y1)), (70, .pointer (some ⟨b3, 3, none⟩)), (71, .int .i64 ((rget xs i).y1)), (72, .bool false), (82, .slice (some ⟨g, o, none⟩) n cap), (83, .int .i64 ((fromOf xs i : Nat) : Int)), (84, .int .i64 (i : Int)), (85, .slice (sliceA g o (fromOf xs i : Nat) cap 4) (i - (fromOf xs i : Nat)) (cap - (fromOf xs i : Nat))), (86, .slice (some ⟨g, o, none⟩) n cap), (87, .int .i64 (i : Int)), (88, .int .i64 (e : Int)), (89, .slice (sliceA g o i cap 4) (e - i) (cap - i)), (90, .bool false)] ?_
            refine cont_recast 13 (.int .i64 (IntKind.i64.wrap ((i : Int) + 1))) (.int .i64 ((i + 1 : Nat) : Int)) rfl (by rw [show (((i + 1 : Nat) : Int)) = (i : Int) + 1 by omega]; exact wrapI (by omega) (by omega)) ?_
            refine bS [0] 3 0 [(0, .slice A n cap), (3, .int .i64 (i : Int)), (4, .int .i64 ((i + 1 : Nat) : Int)), (33, .pointer (some ⟨b6, 3, none⟩)), (34, .int .i64 ((rget xs (i - 1 : Nat)).y1)), (35, .pointer (some ⟨b3, 3, none⟩)), (36, .int .i64 ((rget xs i).y1)), (37, .bool false), (55, .slice (some ⟨g, o, none⟩) n cap), (56, .int .i64 (e : Int)), (57, .pointer (some ⟨g, o + e * 4, none⟩)), (58, .pointer (some ⟨g, o + e * 4 + 1, none⟩)), (59, .int .i64 ((rget xs e).y0)), (60, .pointer (some ⟨b3, 1, none⟩)), (61, .int .i64 ((rget xs i).y0)), (62, .bool true), (65, .slice (some ⟨g, o, none⟩) n cap), (66, .int .i64 (e : Int)), (67, .pointer (some ⟨g, o + e * 4, none⟩)), (68, .pointer (some ⟨g, o + e * 4 + 3, none⟩)), (69, .int .i64 ((rget xs e).y1)), (70, .pointer (some ⟨b3, 3, none⟩)), (71, .int .i64 ((rget xs i).y1)), (72, .bool false), (82, .slice (some ⟨g, o, none⟩) n cap), (83, .int .i64 ((fromOf xs i : Nat) : Int)), (84, .int .i64 (i : Int)), (85, .slice (sliceA g o (fromOf xs i : Nat) cap 4) (i - (fromOf xs i : Nat)) (cap - (fromOf xs i : Nat))), (86, .slice (some ⟨g, o, none⟩) n cap), (87, .int .i64 (i : Int)), (88, .int .i64 (e : Int)), (89, .slice (sliceA g o i cap 4) (e - i) (cap - i)), (90, .bool false)] ?_
            refine cont_done ?_
            refine then_normal ?_
            refine cont_forget 1 rfl ?_
            refine cont_forget 0 rfl ?_
            have hnow_ : OkAt xs i := ⟨c4_, fun _ hs => absurd hs hnY, fun _ _ => by omega, fun _ _ _ e' hE => by rw [hE.unique hEnd]; exact c16_⟩
            have hfs_ : fromOf xs (i + 1) = i := fromOf_new (by omega) hnY
            refine cont_recast 3 (.int .i64 (i : Int)) (.int .i64 ((fromOf xs (i + 1) : Nat) : Int)) rfl (congrArg (Value.int .i64) (by rw [hfs_])) ?_
            refine cont_again (i + 1) (show (i + 1) ≤ n ∧ ∀ j, j < (i + 1) → OkAt xs j from ⟨by omega, fun j hj => by rcases Nat.lt_succ_iff_lt_or_eq.1 hj with h_ | h_; exact hok j h_; subst h_; exact hnow_⟩) (show n - (i + 1) < n - i from by omega) (by kernel_rfl) (by kernel_rfl)
          replace c15_ := ne_of_beqf c15_
          refine takes 0 [] [(6, 0), (7, 0), (8, 0), (10, 0), (11, 0), (12, 0), (9, 0), (13, 0)] 2 [13, 9, 12, 11, 10, 8, 7, 6, 5, 4, 3, 1, 2, 0] [(0, .slice A n cap), (4, .int .i64 (i : Int)), (33, .pointer (some ⟨b6, 3, none⟩)), (34, .int .i64 ((rget xs (i - 1 : Nat)).y1)), (35, .pointer (some ⟨b3, 3, none⟩)), (36, .int .i64 ((rget xs i).y1)), (37, .bool false), (55, .slice (some ⟨g, o, none⟩) n cap), (56, .int .i64 (e : Int)), (57, .pointer (some ⟨g, o + e * 4, none⟩)), (58, .pointer (some ⟨g, o + e * 4 + 1, none⟩)), (59, .int .i64 ((rget xs e).y0)), (60, .pointer (some ⟨b3, 1, none⟩)), (61, .int .i64 ((rget xs i).y0)), (62, .bool true), (65, .slice (some ⟨g, o, none⟩) n cap), (66, .int .i64 (e : Int)), (67, .pointer (some ⟨g, o + e * 4, none⟩)), (68, .pointer (some ⟨g, o + e * 4 + 3, none⟩)), (69, .int .i64 ((rget xs e).y1)), (70, .pointer (some ⟨b3, 3, none⟩)), (71, .int .i64 ((rget xs i).y1)), (72, .bool false), (81, .bool false), (82, undef), (83, undef), (84, undef), (85, undef), (86, undef), (87, undef), (88, undef), (89, undef)] (by kernel_rfl) (pok_then (pok_then (pok_blk (pok_then (pok_then (pok_blk (pok_then pok_body))))))) (by kernel_rfl) rfl rfl (by kernel_rfl) (by kernel_rfl) ?_
          refine drawn_one 14 1 rfl (by kernel_rfl) ?_
          refine one_step 0 [(0, .slice A n cap), (4, .int .i64 (i : Int)), (33, .pointer (some ⟨b6, 3, none⟩)), (34, .int .i64 ((rget xs (i - 1 : Nat)).y1)), (35, .pointer (some ⟨b3, 3, none⟩)), (36, .int .i64 ((rget xs i).y1)), (37, .bool false), (55, .slice (some ⟨g, o, none⟩) n cap), (56, .int .i64 (e : Int)), (57, .pointer (some ⟨g, o + e * 4, none⟩)), (58, .pointer (some ⟨g, o + e * 4 + 1, none⟩)), (59, .int .i64 ((rget xs e).y0)), (60, .pointer (some ⟨b3, 1, none⟩)), (61, .int .i64 ((rget xs i).y0)), (62, .bool true), (65, .slice (some ⟨g, o, none⟩) n cap), (66, .int .i64 (e : Int)), (67, .pointer (some ⟨g, o + e * 4, none⟩)), (68, .pointer (some ⟨g, o + e * 4 + 3, none⟩)), (69, .int .i64 ((rget xs e).y1)), (70, .pointer (some ⟨b3, 3, none⟩)), (71, .int .i64 ((rget xs i).y1)), (72, .bool false), (81, .bool false), (82, undef), (83, undef), (84, undef), (85, undef), (86, undef), (87, undef), (88, undef), (89, undef), (90, undef)] [.cells b6 [.int .i64 ((rget xs (i - 1 : Nat)).x0), .int .i64 ((rget xs (i - 1 : Nat)).y0), .int .i64 ((rget xs (i - 1 : Nat)).x1), .int .i64 ((rget xs (i - 1 : Nat)).y1)] 25 true, .cells b3 [.int .i64 ((rget xs i).x0), .int .i64 ((rget xs i).y0), .int .i64 ((rget xs i).x1), .int .i64 ((rget xs i).y1)] 25 true, .gen (rdE (A) g o n 4 (rvals xs))] (by kernel_rfl) (by kernel_rfl) ?_
          refine drawn_next 0 [] (by kernel_rfl) ?_
          refine takes 0 [] [(15, 0)] 0 [15, 14, 13, 9, 12, 11, 10, 8, 7, 6, 5, 4, 3, 1, 2, 0] [(0, .slice A n cap), (4, .int .i64 (i : Int)), (33, .pointer (some ⟨b6, 3, none⟩)), (34, .int .i64 ((rget xs (i - 1 : Nat)).y1)), (35, .pointer (some ⟨b3, 3, none⟩)), (36, .int .i64 ((rget xs i).y1)), (37, .bool false), (55, .slice (some ⟨g, o, none⟩) n cap), (56, .int .i64 (e : Int)), (57, .pointer (some ⟨g, o + e * 4, none⟩)), (58, .pointer (some ⟨g, o + e * 4 + 1, none⟩)), (59, .int .i64 ((rget xs e).y0)), (60, .pointer (some ⟨b3, 1, none⟩)), (61, .int .i64 ((rget xs i).y0)), (62, .bool true), (65, .slice (some ⟨g, o, none⟩) n cap), (66, .int .i64 (e : Int)), (67, .pointer (some ⟨g, o + e * 4, none⟩)), (68, .pointer (some ⟨g, o + e * 4 + 3, none⟩)), (69, .int .i64 ((rget xs e).y1)), (70, .pointer (some ⟨b3, 3, none⟩)), (71, .int .i64 ((rget xs i).y1)), (72, .bool false), (82, undef), (83, undef), (84, undef), (85, undef), (86, undef), (87, undef), (88, undef), (89, undef), (90, undef), (91, .bool false)] (by kernel_rfl) (pok_then (pok_then (pok_blk (pok_then (pok_then (pok_blk (pok_then pok_body))))))) (by kernel_rfl) rfl rfl (by kernel_rfl) (by kernel_rfl) ?_
          refine drawn_done (by kernel_rfl) ?_
          refine then_normal ?_
          refine cont_false rfl ?_
          refine cont_skip ?_
          refine then_normal ?_
          refine cont_region 2 rfl ?_
          refine bS [0, 0] 2 0 [(0, .slice A n cap), (3, .int .i64 (i : Int)), (4, .int .i64 (i : Int)), (33, .pointer (some ⟨b6, 3, none⟩)), (34, .int .i64 ((rget xs (i - 1 : Nat)).y1)), (35, .pointer (some ⟨b3, 3, none⟩)), (36, .int .i64 ((rget xs i).y1)), (37, .bool false), (55, .slice (some ⟨g, o, none⟩) n cap), (56, .int .i64 (e : Int)), (57, .pointer (some ⟨g, o + e * 4, none⟩)), (58, .pointer (some ⟨g, o + e * 4 + 1, none⟩)), (59, .int .i64 ((rget xs e).y0)), (60, .pointer (some ⟨b3, 1, none⟩)), (61, .int .i64 ((rget xs i).y0)), (62, .bool true), (65, .slice (some ⟨g, o, none⟩) n cap), (66, .int .i64 (e : Int)), (67, .pointer (some ⟨g, o + e * 4, none⟩)), (68, .pointer (some ⟨g, o + e * 4 + 3, none⟩)), (69, .int .i64 ((rget xs e).y1)), (70, .pointer (some ⟨b3, 3, none⟩)), (71, .int .i64 ((rget xs i).y1)), (72, .bool false), (82, undef), (83, undef), (84, undef), (85, undef), (86, undef), (87, undef), (88, undef), (89, undef), (90, undef)] ?_
          refine cont_done ?_
          refine blk_normal ?_
          refine then_normal ?_
          refine cont_region 3 rfl ?_
          refine bS [0, 0] 2 1 [(0, .slice A n cap), (3, .int .i64 (i : Int)), (13, .int .i64 (IntKind.i64.wrap ((i : Int) + 1))), (33, .pointer (some ⟨b6, 3, none⟩)), (34, .int .i64 ((rget xs (i - 1 : Nat)).y1)), (35, .pointer (some ⟨b3, 3, none⟩)), (36, .int .i64 ((rget xs i).y1)), (37, .bool false), (55, .slice (some ⟨g, o, none⟩) n cap), (56, .int .i64 (e : Int)), (57, .pointer (some ⟨g, o + e * 4, none⟩)), (58, .pointer (some ⟨g, o + e * 4 + 1, none⟩)), (59, .int .i64 ((rget xs e).y0)), (60, .pointer (some ⟨b3, 1, none⟩)), (61, .int .i64 ((rget xs i).y0)), (62, .bool true), (65, .slice (some ⟨g, o, none⟩) n cap), (66, .int .i64 (e : Int)), (67, .pointer (some ⟨g, o + e * 4, none⟩)), (68, .pointer (some ⟨g, o + e * 4 + 3, none⟩)), (69, .int .i64 ((rget xs e).y1)), (70, .pointer (some ⟨b3, 3, none⟩)), (71, .int .i64 ((rget xs i).y1)), (72, .bool false), (82, undef), (83, undef), (84, undef), (85, undef), (86, undef), (87, undef), (88, undef), (89, undef), (90, undef)] ?_
          refine cont_recast 13 (.int .i64 (IntKind.i64.wrap ((i : Int) + 1))) (.int .i64 ((i + 1 : Nat) : Int)) rfl (by rw [show (((i + 1 : Nat) : Int)) = (i : Int) + 1 by omega]; exact wrapI (by omega) (by omega)) ?_
          refine bS [0] 3 0 [(0, .slice A n cap), (3, .int .i64 (i : Int)), (4, .int .i64 ((i + 1 : Nat) : Int)), (33, .pointer (some ⟨b6, 3, none⟩)), (34, .int .i64 ((rget xs (i - 1 : Nat)).y1)), (35, .pointer (some ⟨b3, 3, none⟩)), (36, .int .i64 ((rget xs i).y1)), (37, .bool false), (55, .slice (some ⟨g, o, none⟩) n cap), (56, .int .i64 (e : Int)), (57, .pointer (some ⟨g, o + e * 4, none⟩)), (58, .pointer (some ⟨g, o + e * 4 + 1, none⟩)), (59, .int .i64 ((rget xs e).y0)), (60, .pointer (some ⟨b3, 1, none⟩)), (61, .int .i64 ((rget xs i).y0)), (62, .bool true), (65, .slice (some ⟨g, o, none⟩) n cap), (66, .int .i64 (e : Int)), (67, .pointer (some ⟨g, o + e * 4, none⟩)), (68, .pointer (some ⟨g, o + e * 4 + 3, none⟩)), (69, .int .i64 ((rget xs e).y1)), (70, .pointer (some ⟨b3, 3, none⟩)), (71, .int .i64 ((rget xs i).y1)), (72, .bool false), (82, undef), (83, undef), (84, undef), (85, undef), (86, undef), (87, undef), (88, undef), (89, undef), (90, undef)] ?_
          refine cont_done ?_
          refine then_normal ?_
          refine cont_forget 1 rfl ?_
          refine cont_forget 0 rfl ?_
          have hnow_ : OkAt xs i := ⟨c4_, fun _ hs => absurd hs hnY, fun _ _ => by omega, fun _ _ ht => absurd ht c15_⟩
          have hfs_ : fromOf xs (i + 1) = i := fromOf_new (by omega) hnY
          refine cont_recast 3 (.int .i64 (i : Int)) (.int .i64 ((fromOf xs (i + 1) : Nat) : Int)) rfl (congrArg (Value.int .i64) (by rw [hfs_])) ?_
          refine cont_again (i + 1) (show (i + 1) ≤ n ∧ ∀ j, j < (i + 1) → OkAt xs j from ⟨by omega, fun j hj => by rcases Nat.lt_succ_iff_lt_or_eq.1 hj with h_ | h_; exact hok j h_; subst h_; exact hnow_⟩) (show n - (i + 1) < n - i from by omega) (by kernel_rfl) (by kernel_rfl)
        refine cont_recast 62 (.bool (((rget xs e).y0) == ((rget xs i).y0))) (.bool false) rfl (congrArg Value.bool c13_) ?_
        replace c13_ := ne_of_beqf c13_
        refine takes 0 [] [(15, 0), (16, 0), (20, 0), (17, 0), (21, 0), (18, 0), (19, 0), (22, 0), (23, 0)] 0 [23, 22, 19, 18, 21, 17, 20, 16, 15, 14, 13, 12, 9, 11, 8, 7, 10, 6, 5, 4, 3, 2, 1, 0] [(0, .slice A n cap), (3, .int .i64 ((fromOf xs i : Nat) : Int)), (4, .int .i64 (i : Int)), (5, .pointer (some ⟨b3, 0, none⟩)), (6, .pointer (some ⟨b6, 0, none⟩)), (7, .int .i64 (e : Int)), (33, .pointer (some ⟨b6, 3, none⟩)), (34, .int .i64 ((rget xs (i - 1 : Nat)).y1)), (35, .pointer (some ⟨b3, 3, none⟩)), (36, .int .i64 ((rget xs i).y1)), (37, .bool false), (55, .slice (some ⟨g, o, none⟩) n cap), (56, .int .i64 (e : Int)), (57, .pointer (some ⟨g, o + e * 4, none⟩)), (58, .pointer (some ⟨g, o + e * 4 + 1, none⟩)), (59, .int .i64 ((rget xs e).y0)), (60, .pointer (some ⟨b3, 1, none⟩)), (61, .int .i64 ((rget xs i).y0)), (62, .bool false), (65, undef), (66, undef), (67, undef), (68, undef), (69, undef), (70, undef), (71, undef), (72, undef), (73, .bool false)] (by kernel_rfl) (pok_then (pok_then (pok_then (pok_blk (pok_then (pok_blk (pok_then (pok_then (pok_blk (pok_then pok_body)))))))))) (by kernel_rfl) rfl rfl (by kernel_rfl) (by kernel_rfl) ?_
        refine drawn_done (by kernel_rfl) ?_
        refine then_normal ?_
        refine cont_false rfl ?_
        refine cont_exit ?_
        refine then_exit ?_
        refine then_exit ?_
        refine blk_exit ?_
        refine then_normal ?_
        refine cont_seq ?_
        refine cont_seq ?_
        have hEnd : EndOf xs i e := endOf_mk (by omega) hie (by omega) hsm (fun _ hs => c13_ hs.1)
        refine drawn_enter 16 [] rfl (by kernel_rfl) ?_
        refine takes 0 [] [(0, 0), (2, 0), (1, 0), (3, 1), (4, 0), (5, 0)] 10 [5, 4, 3, 1, 2, 0] [(0, .slice A n cap), (3, .int .i64 ((fromOf xs i : Nat) : Int)), (4, .int .i64 (i : Int)), (7, .int .i64 (e : Int)), (33, .pointer (some ⟨b6, 3, none⟩)), (34, .int .i64 ((rget xs (i - 1 : Nat)).y1)), (35, .pointer (some ⟨b3, 3, none⟩)), (36, .int .i64 ((rget xs i).y1)), (37, .bool false), (55, .slice (some ⟨g, o, none⟩) n cap), (56, .int .i64 (e : Int)), (57, .pointer (some ⟨g, o + e * 4, none⟩)), (58, .pointer (some ⟨g, o + e * 4 + 1, none⟩)), (59, .int .i64 ((rget xs e).y0)), (60, .pointer (some ⟨b3, 1, none⟩)), (61, .int .i64 ((rget xs i).y0)), (62, .bool false), (65, undef), (66, undef), (67, undef), (68, undef), (69, undef), (70, undef), (71, undef), (72, undef), (81, .bool (((rget xs (i - 1 : Nat)).y1) == ((rget xs i).y0)))] (by kernel_rfl) (pok_then (pok_then (pok_blk (pok_then (pok_then (pok_blk (pok_then pok_body))))))) (by kernel_rfl) rfl rfl (by kernel_rfl) (by kernel_rfl) ?_
        refine cont_split 81 (((rget xs (i - 1 : Nat)).y1) == ((rget xs i).y0)) rfl (fun c17_ => ?_) (fun c17_ => ?_)
        ·
          replace c17_ := eq_of_beqt c17_
          refine takes 0 [] [(6, 0), (7, 0), (8, 0), (10, 0), (11, 0), (12, 0)] 4 [12, 11, 10, 8, 7, 6, 5, 4, 3, 1, 2, 0] [(0, .slice A n cap), (4, .int .i64 (i : Int)), (33, .pointer (some ⟨b6, 3, none⟩)), (34, .int .i64 ((rget xs (i - 1 : Nat)).y1)), (35, .pointer (some ⟨b3, 3, none⟩)), (36, .int .i64 ((rget xs i).y1)), (37, .bool false), (55, .slice (some ⟨g, o, none⟩) n cap), (56, .int .i64 (e : Int)), (57, .pointer (some ⟨g, o + e * 4, none⟩)), (58, .pointer (some ⟨g, o + e * 4 + 1, none⟩)), (59, .int .i64 ((rget xs e).y0)), (60, .pointer (some ⟨b3, 1, none⟩)), (61, .int .i64 ((rget xs i).y0)), (62, .bool false), (65, undef), (66, undef), (67, undef), (68, undef), (69, undef), (70, undef), (71, undef), (72, undef), (81, .bool true), (82, .slice A n cap), (83, .int .i64 ((fromOf xs i : Nat) : Int)), (84, .int .i64 (i : Int)), (86, .slice A n cap), (87, .int .i64 (i : Int)), (88, .int .i64 (e : Int))] (by kernel_rfl) (pok_then (pok_then (pok_blk (pok_then (pok_then (pok_blk (pok_then pok_body))))))) (by kernel_rfl) rfl rfl (by kernel_rfl) (by kernel_rfl) ?_
          refine cont_recast 82 (.slice A n cap) (.slice (some ⟨g, o, none⟩) n cap) rfl (by rw [hra (by omega)]) ?_
          refine sem_take 0 [] 9 3 85 (Instr.sliceAt 22 (.slice (some ⟨g, o, none⟩) n cap) (some (.int .i64 ((fromOf xs i : Nat) : Int))) (some (.int .i64 (i : Int))) none) (.slice (sliceA g o (fromOf xs i : Nat) cap 4) (i - (fromOf xs i : Nat)) (cap - (fromOf xs i : Nat))) (by kernel_rfl) (pok_then (pok_then (pok_blk (pok_then (pok_then (pok_blk (pok_then pok_body))))))) (by kernel_rfl) rfl (by kernel_rfl) (by kernel_rfl) (fun w hT => run_slice2 (e := 25) (sz := 4) _ _ (by kernel_rfl) (by kernel_rfl) (by omega) (by omega) (by omega) (by omega) (by omega) w) ?_
          refine cont_recast 86 (.slice A n cap) (.slice (some ⟨g, o, none⟩) n cap) rfl (by rw [hra (by omega)]) ?_
          refine sem_take 0 [] 13 2 89 (Instr.sliceAt 22 (.slice (some ⟨g, o, none⟩) n cap) (some (.int .i64 (i : Int))) (some (.int .i64 (e : Int))) none) (.slice (sliceA g o i cap 4) (e - i) (cap - i)) (by kernel_rfl) (pok_then (pok_then (pok_blk (pok_then (pok_then (pok_blk (pok_then pok_body))))))) (by kernel_rfl) rfl (by kernel_rfl) (by kernel_rfl) (fun w hT => run_slice2 (e := 25) (sz := 4) _ _ (by kernel_rfl) (by kernel_rfl) (by omega) (by omega) (by omega) (by omega) (by omega) w) ?_
          refine drawn_one 14 1 rfl (by kernel_rfl) ?_
          refine call_pure (d := 90) (.bool (eqF span1 ((xs.drop (fromOf xs i : Nat)).take (i - (fromOf xs i : Nat))) ((xs.drop i).take (e - i)))) (by kernel_rfl) (fun w hT => refSpans (sliceA g o (fromOf xs i : Nat) cap 4) g (o + (fromOf xs i : Nat) * 4) (i - (fromOf xs i : Nat)) (cap - (fromOf xs i : Nat)) ((xs.drop (fromOf xs i : Nat)).take (i - (fromOf xs i : Nat))) (sliceA g o i cap 4) g (o + i * 4) (e - i) (cap - i) ((xs.drop i).take (e - i)) w (hT.viewRo (.cons (i := 2) rfl (Vw.rdSubR (by omega) (by omega)) (.cons (i := 2) rfl (Vw.rdSubR (by omega) (by omega)) .nil)) rfl) (by omega)) ?_
          refine drawn_next 0 [] (by kernel_rfl) ?_
          refine takes 0 [] [(15, 0)] 0 [15, 14, 13, 9, 12, 11, 10, 8, 7, 6, 5, 4, 3, 1, 2, 0] [(0, .slice A n cap), (4, .int .i64 (i : Int)), (33, .pointer (some ⟨b6, 3, none⟩)), (34, .int .i64 ((rget xs (i - 1 : Nat)).y1)), (35, .pointer (some ⟨b3, 3, none⟩)), (36, .int .i64 ((rget xs i).y1)), (37, .bool false), (55, .slice (some ⟨g, o, none⟩) n cap), (56, .int .i64 (e : Int)), (57, .pointer (some ⟨g, o + e * 4, none⟩)), (58, .pointer (some ⟨g, o + e * 4 + 1, none⟩)), (59, .int .i64 ((rget xs e).y0)), (60, .pointer (some ⟨b3, 1, none⟩)), (61, .int .i64 ((rget xs i).y0)), (62, .bool false), (65, undef), (66, undef), (67, undef), (68, undef), (69, undef), (70, undef), (71, undef), (72, undef), (82, .slice (some ⟨g, o, none⟩) n cap), (83, .int .i64 ((fromOf xs i : Nat) : Int)), (84, .int .i64 (i : Int)), (85, .slice (sliceA g o (fromOf xs i : Nat) cap 4) (i - (fromOf xs i : Nat)) (cap - (fromOf xs i : Nat))), (86, .slice (some ⟨g, o, none⟩) n cap), (87, .int .i64 (i : Int)), (88, .int .i64 (e : Int)), (89, .slice (sliceA g o i cap 4) (e - i) (cap - i)), (90, .bool (eqF span1 ((xs.drop (fromOf xs i : Nat)).take (i - (fromOf xs i : Nat))) ((xs.drop i).take (e - i)))), (91, .bool (eqF span1 ((xs.drop (fromOf xs i : Nat)).take (i - (fromOf xs i : Nat))) ((xs.drop i).take (e - i))))] (by kernel_rfl) (pok_then (pok_then (pok_blk (pok_then (pok_then (pok_blk (pok_then pok_body))))))) (by kernel_rfl) rfl rfl (by kernel_rfl) (by kernel_rfl) ?_
          refine drawn_done (by kernel_rfl) ?_
          refine then_normal ?_
          refine cont_split 91 (eqF span1 ((xs.drop (fromOf xs i : Nat)).take (i - (fromOf xs i : Nat))) ((xs.drop i).take (e - i))) rfl (fun c18_ => ?_) (fun c18_ => ?_)
          ·
            refine cont_recast 90 (.bool (eqF span1 ((xs.drop (fromOf xs i : Nat)).take (i - (fromOf xs i : Nat))) ((xs.drop i).take (e - i)))) (.bool true) rfl (congrArg Value.bool c18_) ?_
            refine cont_true rfl ?_
            refine cont_seq ?_
            refine cont_region 1 rfl ?_
            refine bS [0] 1 0 [(2, .bool false)] ?_
            refine cont_forget 0 rfl ?_
            refine cont_forget 0 rfl ?_
            refine cont_done ?_
            refine then_normal ?_
            refine cont_ret ?_
            refine then_ret ?_
            refine blk_ret ?_
            refine then_ret ?_
            refine then_ret ?_
            refine blk_ret ?_
            refine then_ret ?_
            refine ret_one (.inl rfl) rfl 0 (.bool false) (by kernel_rfl) (by kernel_rfl) (fun w hT => ?_)
            refine ⟨ret_bool (may_no (i := i) (by omega) (fun ok_ => ?_)).symm, hT.post rfl⟩
            first
            | (have e_ := ok_.ne; rw [show emptyR (rget xs i) = true from ‹emptyB _ _ _ _ = true›] at e_; cases e_)
            | (have e_ := ok_.on (by omega) (by assumption); omega)
            | (have e_ := ok_.next (by omega) (by assumption); omega)
            | (have e_ := ok_.apart (by omega) (by assumption) (by assumption) e hEnd; exact absurd (show (true : Bool) = false from (Eq.symm ‹eqF span1 _ _ = true›).trans e_) (by decide))
          refine cont_recast 90 (.bool (eqF span1 ((xs.drop (fromOf xs i : Nat)).take (i - (fromOf xs i : Nat))) ((xs.drop i).take (e - i)))) (.bool false) rfl (congrArg Value.bool c18_) ?_
          refine cont_false rfl ?_
          refine cont_skip ?_
          refine then_normal ?_
          refine cont_region 2 rfl ?_
          refine bS [0, 0] 2 0 [(0, .slice A n cap), (3, .int .i64 (i : Int)), (4, .int .i64 (i : Int)), (33, .pointer (some ⟨b6, 3, none⟩)), (34, .int .i64 ((rget xs (i - 1 : Nat)).y1)), (35, .pointer (some ⟨b3, 3, none⟩)), (36, .int .i64 ((rget xs i).y1)), (37, .bool false), (55, .slice (some ⟨g, o, none⟩) n cap), (56, .int .i64 (e : Int)), (57, .pointer (some ⟨g, o + e * 4, none⟩)), (58, .pointer (some ⟨g, o + e * 4 + 1, none⟩)), (59, .int .i64 ((rget xs e).y0)), (60, .pointer (some ⟨b3, 1, none⟩)), (61, .int .i64 ((rget xs i).y0)), (62, .bool false), (65, undef), (66, undef), (67, undef), (68, undef), (69, undef), (70, undef), (71, undef), (72, undef), (82, .slice (some ⟨g, o, none⟩) n cap), (83, .int .i64 ((fromOf xs i : Nat) : Int)), (84, .int .i64 (i : Int)), (85, .slice (sliceA g o (fromOf xs i : Nat) cap 4) (i - (fromOf xs i : Nat)) (cap - (fromOf xs i : Nat))), (86, .slice (some ⟨g, o, none⟩) n cap), (87, .int .i64 (i : Int)), (88, .int .i64 (e : Int)), (89, .slice (sliceA g o i cap 4) (e - i) (cap - i)), (90, .bool false)] ?_
          refine cont_done ?_
          refine blk_normal ?_
          refine then_normal ?_
          refine cont_region 3 rfl ?_
          refine bS [0, 0] 2 1 [(0, .slice A n cap), (3, .int .i64 (i : Int)), (13, .int .i64 (IntKind.i64.wrap ((i : Int) + 1))), (33, .pointer (some ⟨b6, 3, none⟩)), (34, .int .i64 ((rget xs (i - 1 : Nat)).y1)), (35, .pointer (some ⟨b3, 3, none⟩)), (36, .int .i64 ((rget xs i).y1)), (37, .bool false), (55, .slice (some ⟨g, o, none⟩) n cap), (56, .int .i64 (e : Int)), (57, .pointer (some ⟨g, o + e * 4, none⟩)), (58, .pointer (some ⟨g, o + e * 4 + 1, none⟩)), (59, .int .i64 ((rget xs e).y0)), (60, .pointer (some ⟨b3, 1, none⟩)), (61, .int .i64 ((rget xs i).y0)), (62, .bool false), (65, undef), (66, undef), (67, undef), (68, undef), (69, undef), (70, undef), (71, undef), (72, undef), (82, .slice (some ⟨g, o, none⟩) n cap), (83, .int .i64 ((fromOf xs i : Nat) : Int)), (84, .int .i64 (i : Int)), (85, .slice (sliceA g o (fromOf xs i : Nat) cap 4) (i - (fromOf xs i : Nat)) (cap - (fromOf xs i : Nat))), (86, .slice (some ⟨g, o, none⟩) n cap), (87, .int .i64 (i : Int)), (88, .int .i64 (e : Int)), (89, .slice (sliceA g o i cap 4) (e - i) (cap - i)), (90, .bool false)] ?_
          refine cont_recast 13 (.int .i64 (IntKind.i64.wrap ((i : Int) + 1))) (.int .i64 ((i + 1 : Nat) : Int)) rfl (by rw [show (((i + 1 : Nat) : Int)) = (i : Int) + 1 by omega]; exact wrapI (by omega) (by omega)) ?_
          refine bS [0] 3 0 [(0, .slice A n cap), (3, .int .i64 (i : Int)), (4, .int .i64 ((i + 1 : Nat) : Int)), (33, .pointer (some ⟨b6, 3, none⟩)), (34, .int .i64 ((rget xs (i - 1 : Nat)).y1)), (35, .pointer (some ⟨b3, 3, none⟩)), (36, .int .i64 ((rget xs i).y1)), (37, .bool false), (55, .slice (some ⟨g, o, none⟩) n cap), (56, .int .i64 (e : Int)), (57, .pointer (some ⟨g, o + e * 4, none⟩)), (58, .pointer (some ⟨g, o + e * 4 + 1, none⟩)), (59, .int .i64 ((rget xs e).y0)), (60, .pointer (some ⟨b3, 1, none⟩)), (61, .int .i64 ((rget xs i).y0)), (62, .bool false), (65, undef), (66, undef), (67, undef), (68, undef), (69, undef), (70, undef), (71, undef), (72, undef), (82, .slice (some ⟨g, o, none⟩) n cap), (83, .int .i64 ((fromOf xs i : Nat) : Int)), (84, .int .i64 (i : Int)), (85, .slice (sliceA g o (fromOf xs i : Nat) cap 4) (i - (fromOf xs i : Nat)) (cap - (fromOf xs i : Nat))), (86, .slice (some ⟨g, o, none⟩) n cap), (87, .int .i64 (i : Int)), (88, .int .i64 (e : Int)), (89, .slice (sliceA g o i cap 4) (e - i) (cap - i)), (90, .bool false)] ?_
          refine cont_done ?_
          refine then_normal ?_
          refine cont_forget 1 rfl ?_
          refine cont_forget 0 rfl ?_
          have hnow_ : OkAt xs i := ⟨c4_, fun _ hs => absurd hs hnY, fun _ _ => by omega, fun _ _ _ e' hE => by rw [hE.unique hEnd]; exact c18_⟩
          have hfs_ : fromOf xs (i + 1) = i := fromOf_new (by omega) hnY
          refine cont_recast 3 (.int .i64 (i : Int)) (.int .i64 ((fromOf xs (i + 1) : Nat) : Int)) rfl (congrArg (Value.int .i64) (by rw [hfs_])) ?_
          refine cont_again (i + 1) (show (i + 1) ≤ n ∧ ∀ j, j < (i + 1) → OkAt xs j from ⟨by omega, fun j hj => by rcases Nat.lt_succ_iff_lt_or_eq.1 hj with h_ | h_; exact hok j h_; subst h_; exact hnow_⟩) (show n - (i + 1) < n - i from by omega) (by kernel_rfl) (by kernel_rfl)
        replace c17_ := ne_of_beqf c17_
        refine takes 0 [] [(6, 0), (7, 0), (8, 0), (10, 0), (11, 0), (12, 0), (9, 0), (13, 0)] 2 [13, 9, 12, 11, 10, 8, 7, 6, 5, 4, 3, 1, 2, 0] [(0, .slice A n cap), (4, .int .i64 (i : Int)), (33, .pointer (some ⟨b6, 3, none⟩)), (34, .int .i64 ((rget xs (i - 1 : Nat)).y1)), (35, .pointer (some ⟨b3, 3, none⟩)), (36, .int .i64 ((rget xs i).y1)), (37, .bool false), (55, .slice (some ⟨g, o, none⟩) n cap), (56, .int .i64 (e : Int)), (57, .pointer (some ⟨g, o + e * 4, none⟩)), (58, .pointer (some ⟨g, o + e * 4 + 1, none⟩)), (59, .int .i64 ((rget xs e).y0)), (60, .pointer (some ⟨b3, 1, none⟩)), (61, .int .i64 ((rget xs i).y0)), (62, .bool false), (65, undef), (66, undef), (67, undef), (68, undef), (69, undef), (70, undef), (71, undef), (72, undef), (81, .bool false), (82, undef), (83, undef), (84, undef), (85, undef), (86, undef), (87, undef), (88, undef), (89, undef)] (by kernel_rfl) (pok_then (pok_then (pok_blk (pok_then (pok_then (pok_blk (pok_then pok_body))))))) (by kernel_rfl) rfl rfl (by kernel_rfl) (by kernel_rfl) ?_
        refine drawn_one 14 1 rfl (by kernel_rfl) ?_
        refine one_step 0 [(0, .slice A n cap), (4, .int .i64 (i : Int)), (33, .pointer (some ⟨b6, 3, none⟩)), (34, .int .i64 ((rget xs (i - 1 : Nat)).y1)), (35, .pointer (some ⟨b3, 3, none⟩)), (36, .int .i64 ((rget xs i).y1)), (37, .bool false), (55, .slice (some ⟨g, o, none⟩) n cap), (56, .int .i64 (e : Int)), (57, .pointer (some ⟨g, o + e * 4, none⟩)), (58, .pointer (some ⟨g, o + e * 4 + 1, none⟩)), (59, .int .i64 ((rget xs e).y0)), (60, .pointer (some ⟨b3, 1, none⟩)), (61, .int .i64 ((rget xs i).y0)), (62, .bool false), (65, undef), (66, undef), (67, undef), (68, undef), (69, undef), (70, undef), (71, undef), (72, undef), (81, .bool false), (82, undef), (83, undef), (84, undef), (85, undef), (86, undef), (87, undef), (88, undef), (89, undef), (90, undef)] [.cells b6 [.int .i64 ((rget xs (i - 1 : Nat)).x0), .int .i64 ((rget xs (i - 1 : Nat)).y0), .int .i64 ((rget xs (i - 1 : Nat)).x1), .int .i64 ((rget xs (i - 1 : Nat)).y1)] 25 true, .cells b3 [.int .i64 ((rget xs i).x0), .int .i64 ((rget xs i).y0), .int .i64 ((rget xs i).x1), .int .i64 ((rget xs i).y1)] 25 true, .gen (rdE (A) g o n 4 (rvals xs))] (by kernel_rfl) (by kernel_rfl) ?_
        refine drawn_next 0 [] (by kernel_rfl) ?_
        refine takes 0 [] [(15, 0)] 0 [15, 14, 13, 9, 12, 11, 10, 8, 7, 6, 5, 4, 3, 1, 2, 0] [(0, .slice A n cap), (4, .int .i64 (i : Int)), (33, .pointer (some ⟨b6, 3, none⟩)), (34, .int .i64 ((rget xs (i - 1 : Nat)).y1)), (35, .pointer (some ⟨b3, 3, none⟩)), (36, .int .i64 ((rget xs i).y1)), (37, .bool false), (55, .slice (some ⟨g, o, none⟩) n cap), (56, .int .i64 (e : Int)), (57, .pointer (some ⟨g, o + e * 4, none⟩)), (58, .pointer (some ⟨g, o + e * 4 + 1, none⟩)), (59, .int .i64 ((rget xs e).y0)), (60, .pointer (some ⟨b3, 1, none⟩)), (61, .int .i64 ((rget xs i).y0)), (62, .bool false), (65, undef), (66, undef), (67, undef), (68, undef), (69, undef), (70, undef), (71, undef), (72, undef), (82, undef), (83, undef), (84, undef), (85, undef), (86, undef), (87, undef), (88, undef), (89, undef), (90, undef), (91, .bool false)] (by kernel_rfl) (pok_then (pok_then (pok_blk (pok_then (pok_then (pok_blk (pok_then pok_body))))))) (by kernel_rfl) rfl rfl (by kernel_rfl) (by kernel_rfl) ?_
        refine drawn_done (by kernel_rfl) ?_
        refine then_normal ?_
        refine cont_false rfl ?_
        refine cont_skip ?_
        refine then_normal ?_
        refine cont_region 2 rfl ?_
        refine bS [0, 0] 2 0 [(0, .slice A n cap), (3, .int .i64 (i : Int)), (4, .int .i64 (i : Int)), (33, .pointer (some ⟨b6, 3, none⟩)), (34, .int .i64 ((rget xs (i - 1 : Nat)).y1)), (35, .pointer (some ⟨b3, 3, none⟩)), (36, .int .i64 ((rget xs i).y1)), (37, .bool false), (55, .slice (some ⟨g, o, none⟩) n cap), (56, .int .i64 (e : Int)), (57, .pointer (some ⟨g, o + e * 4, none⟩)), (58, .pointer (some ⟨g, o + e * 4 + 1, none⟩)), (59, .int .i64 ((rget xs e).y0)), (60, .pointer (some ⟨b3, 1, none⟩)), (61, .int .i64 ((rget xs i).y0)), (62, .bool false), (65, undef), (66, undef), (67, undef), (68, undef), (69, undef), (70, undef), (71, undef), (72, undef), (82, undef), (83, undef), (84, undef), (85, undef), (86, undef), (87, undef), (88, undef), (89, undef), (90, undef)] ?_
        refine cont_done ?_
        refine blk_normal ?_
        refine then_normal ?_
        refine cont_region 3 rfl ?_
        refine bS [0, 0] 2 1 [(0, .slice A n cap), (3, .int .i64 (i : Int)), (13, .int .i64 (IntKind.i64.wrap ((i : Int) + 1))), (33, .pointer (some ⟨b6, 3, none⟩)), (34, .int .i64 ((rget xs (i - 1 : Nat)).y1)), (35, .pointer (some ⟨b3, 3, none⟩)), (36, .int .i64 ((rget xs i).y1)), (37, .bool false), (55, .slice (some ⟨g, o, none⟩) n cap), (56, .int .i64 (e : Int)), (57, .pointer (some ⟨g, o + e * 4, none⟩)), (58, .pointer (some ⟨g, o + e * 4 + 1, none⟩)), (59, .int .i64 ((rget xs e).y0)), (60, .pointer (some ⟨b3, 1, none⟩)), (61, .int .i64 ((rget xs i).y0)), (62, .bool false), (65, undef), (66, undef), (67, undef), (68, undef), (69, undef), (70, undef), (71, undef), (72, undef), (82, undef), (83, undef), (84, undef), (85, undef), (86, undef), (87, undef), (88, undef), (89, undef), (90, undef)] ?_
        refine cont_recast 13 (.int .i64 (IntKind.i64.wrap ((i : Int) + 1))) (.int .i64 ((i + 1 : Nat) : Int)) rfl (by rw [show (((i + 1 : Nat) : Int)) = (i : Int) + 1 by omega]; exact wrapI (by omega) (by omega)) ?_
        refine bS [0] 3 0 [(0, .slice A n cap), (3, .int .i64 (i : Int)), (4, .int .i64 ((i + 1 : Nat) : Int)), (33, .pointer (some ⟨b6, 3, none⟩)), (34, .int .i64 ((rget xs (i - 1 : Nat)).y1)), (35, .pointer (some ⟨b3, 3, none⟩)), (36, .int .i64 ((rget xs i).y1)), (37, .bool false), (55, .slice (some ⟨g, o, none⟩) n cap), (56, .int .i64 (e : Int)), (57, .pointer (some ⟨g, o + e * 4, none⟩)), (58, .pointer (some ⟨g, o + e * 4 + 1, none⟩)), (59, .int .i64 ((rget xs e).y0)), (60, .pointer (some ⟨b3, 1, none⟩)), (61, .int .i64 ((rget xs i).y0)), (62, .bool false), (65, undef), (66, undef), (67, undef), (68, undef), (69, undef), (70, undef), (71, undef), (72, undef), (82, undef), (83, undef), (84, undef), (85, undef), (86, undef), (87, undef), (88, undef), (89, undef), (90, undef)] ?_
        refine cont_done ?_
        refine then_normal ?_
        refine cont_forget 1 rfl ?_
        refine cont_forget 0 rfl ?_
        have hnow_ : OkAt xs i := ⟨c4_, fun _ hs => absurd hs hnY, fun _ _ => by omega, fun _ _ ht => absurd ht c17_⟩
        have hfs_ : fromOf xs (i + 1) = i := fromOf_new (by omega) hnY
        refine cont_recast 3 (.int .i64 (i : Int)) (.int .i64 ((fromOf xs (i + 1) : Nat) : Int)) rfl (congrArg (Value.int .i64) (by rw [hfs_])) ?_
        refine cont_again (i + 1) (show (i + 1) ≤ n ∧ ∀ j, j < (i + 1) → OkAt xs j from ⟨by omega, fun j hj => by rcases Nat.lt_succ_iff_lt_or_eq.1 hj with h_ | h_; exact hok j h_; subst h_; exact hnow_⟩) (show n - (i + 1) < n - i from by omega) (by kernel_rfl) (by kernel_rfl)
      replace c12_ := of_decide_eq_false c12_
      refine takes 0 [] [(5, 0), (6, 0), (10, 0), (7, 0), (11, 0), (8, 0), (9, 0), (12, 0), (13, 0), (14, 0), (15, 0), (16, 0), (20, 0), (17, 0), (21, 0), (18, 0), (19, 0), (22, 0), (23, 0)] 0 [23, 22, 19, 18, 21, 17, 20, 16, 15, 14, 13, 12, 9, 8, 11, 7, 10, 6, 5, 4, 3, 2, 1, 0] [(0, .slice A n cap), (3, .int .i64 ((fromOf xs i : Nat) : Int)), (4, .int .i64 (i : Int)), (5, .pointer (some ⟨b3, 0, none⟩)), (6, .pointer (some ⟨b6, 0, none⟩)), (7, .int .i64 (e : Int)), (33, .pointer (some ⟨b6, 3, none⟩)), (34, .int .i64 ((rget xs (i - 1 : Nat)).y1)), (35, .pointer (some ⟨b3, 3, none⟩)), (36, .int .i64 ((rget xs i).y1)), (37, .bool false), (55, undef), (56, undef), (57, undef), (58, undef), (59, undef), (60, undef), (61, undef), (62, undef), (65, undef), (66, undef), (67, undef), (68, undef), (69, undef), (70, undef), (71, undef), (72, undef), (73, .bool false)] (by kernel_rfl) (pok_then (pok_then (pok_then (pok_blk (pok_then (pok_blk (pok_then (pok_then (pok_blk (pok_then pok_body)))))))))) (by kernel_rfl) rfl rfl (by kernel_rfl) (by kernel_rfl) ?_
      refine drawn_done (by kernel_rfl) ?_
      refine then_normal ?_
      refine cont_false rfl ?_
      refine cont_exit ?_
      refine then_exit ?_
      refine then_exit ?_
      refine blk_exit ?_
      refine then_normal ?_
      refine cont_seq ?_
      refine cont_seq ?_
      have hEnd : EndOf xs i e := endOf_mk (by omega) hie (by omega) hsm (fun h_ => by omega)
      refine drawn_enter 16 [] rfl (by kernel_rfl) ?_
      refine takes 0 [] [(0, 0), (2, 0), (1, 0), (3, 1), (4, 0), (5, 0)] 10 [5, 4, 3, 1, 2, 0] [(0, .slice A n cap), (3, .int .i64 ((fromOf xs i : Nat) : Int)), (4, .int .i64 (i : Int)), (7, .int .i64 (e : Int)), (33, .pointer (some ⟨b6, 3, none⟩)), (34, .int .i64 ((rget xs (i - 1 : Nat)).y1)), (35, .pointer (some ⟨b3, 3, none⟩)), (36, .int .i64 ((rget xs i).y1)), (37, .bool false), (55, undef), (56, undef), (57, undef), (58, undef), (59, undef), (60, undef), (61, undef), (62, undef), (65, undef), (66, undef), (67, undef), (68, undef), (69, undef), (70, undef), (71, undef), (72, undef), (81, .bool (((rget xs (i - 1 : Nat)).y1) == ((rget xs i).y0)))] (by kernel_rfl) (pok_then (pok_then (pok_blk (pok_then (pok_then (pok_blk (pok_then pok_body))))))) (by kernel_rfl) rfl rfl (by kernel_rfl) (by kernel_rfl) ?_
      refine cont_split 81 (((rget xs (i - 1 : Nat)).y1) == ((rget xs i).y0)) rfl (fun c19_ => ?_) (fun c19_ => ?_)
      ·
        replace c19_ := eq_of_beqt c19_
        refine takes 0 [] [(6, 0), (7, 0), (8, 0), (10, 0), (11, 0), (12, 0)] 4 [12, 11, 10, 8, 7, 6, 5, 4, 3, 1, 2, 0] [(0, .slice A n cap), (4, .int .i64 (i : Int)), (33, .pointer (some ⟨b6, 3, none⟩)), (34, .int .i64 ((rget xs (i - 1 : Nat)).y1)), (35, .pointer (some ⟨b3, 3, none⟩)), (36, .int .i64 ((rget xs i).y1)), (37, .bool false), (55, undef), (56, undef), (57, undef), (58, undef), (59, undef), (60, undef), (61, undef), (62, undef), (65, undef), (66, undef), (67, undef), (68, undef), (69, undef), (70, undef), (71, undef), (72, undef), (81, .bool true), (82, .slice A n cap), (83, .int .i64 ((fromOf xs i : Nat) : Int)), (84, .int .i64 (i : Int)), (86, .slice A n cap), (87, .int .i64 (i : Int)), (88, .int .i64 (e : Int))] (by kernel_rfl) (pok_then (pok_then (pok_blk (pok_then (pok_then (pok_blk (pok_then pok_body))))))) (by kernel_rfl) rfl rfl (by kernel_rfl) (by kernel_rfl) ?_
        refine cont_recast 82 (.slice A n cap) (.slice (some ⟨g, o, none⟩) n cap) rfl (by rw [hra (by omega)]) ?_
        refine sem_take 0 [] 9 3 85 (Instr.sliceAt 22 (.slice (some ⟨g, o, none⟩) n cap) (some (.int .i64 ((fromOf xs i : Nat) : Int))) (some (.int .i64 (i : Int))) none) (.slice (sliceA g o (fromOf xs i : Nat) cap 4) (i - (fromOf xs i : Nat)) (cap - (fromOf xs i : Nat))) (by kernel_rfl) (pok_then (pok_then (pok_blk (pok_then (pok_then (pok_blk (pok_then pok_body))))))) (by kernel_rfl) rfl (by kernel_rfl) (by kernel_rfl) (fun w hT => run_slice2 (e := 25) (sz := 4) _ _ (by kernel_rfl) (by kernel_rfl) (by omega) (by omega) (by omega) (by omega) (by omega) w) ?_
        refine cont_recast 86 (.slice A n cap) (.slice (some ⟨g, o, none⟩) n cap) rfl (by rw [hra (by omega)]) ?_
        refine sem_take 0 [] 13 2 89 (Instr.sliceAt 22 (.slice (some ⟨g, o, none⟩) n cap) (some (.int .i64 (i : Int))) (some (.int .i64 (e : Int))) none) (.slice (sliceA g o i cap 4) (e - i) (cap - i)) (by kernel_rfl) (pok_then (pok_then (pok_blk (pok_then (pok_then (pok_blk (pok_then pok_body))))))) (by kernel_rfl) rfl (by kernel_rfl) (by kernel_rfl) (fun w hT => run_slice2 (e := 25) (sz := 4) _ _ (by kernel_rfl) (by kernel_rfl) (by omega) (by omega) (by omega) (by omega) (by omega) w) ?_
        refine drawn_one 14 1 rfl (by kernel_rfl) ?_
        refine call_pure (d := 90) (.bool (eqF span1 ((xs.drop (fromOf xs i : Nat)).take (i - (fromOf xs i : Nat))) ((xs.drop i).take (e - i)))) (by kernel_rfl) (fun w hT => refSpans (sliceA g o (fromOf xs i : Nat) cap 4) g (o + (fromOf xs i : Nat) * 4) (i - (fromOf xs i : Nat)) (cap - (fromOf xs i : Nat)) ((xs.drop (fromOf xs i : Nat)).take (i - (fromOf xs i : Nat))) (sliceA g o i cap 4) g (o + i * 4) (e - i) (cap - i) ((xs.drop i).take (e - i)) w (hT.viewRo (.cons (i := 2) rfl (Vw.rdSubR (by omega) (by omega)) (.cons (i := 2) rfl (Vw.rdSubR (by omega) (by omega)) .nil)) rfl) (by omega)) ?_
        refine drawn_next 0 [] (by kernel_rfl) ?_
        refine takes 0 [] [(15, 0)] 0 [15, 14, 13, 9, 12, 11, 10, 8, 7, 6, 5, 4, 3, 1, 2, 0] [(0, .slice A n cap), (4, .int .i64 (i : Int)), (33, .pointer (some ⟨b6, 3, none⟩)), (34, .int .i64 ((rget xs (i - 1 : Nat)).y1)), (35, .pointer (some ⟨b3, 3, none⟩)), (36, .int .i64 ((rget xs i).y1)), (37, .bool false), (55, undef), (56, undef), (57, undef), (58, undef), (59, undef), (60, undef), (61, undef), (62, undef), (65, undef), (66, undef), (67, undef), (68, undef), (69, undef), (70, undef), (71, undef), (72, undef), (82, .slice (some ⟨g, o, none⟩) n cap), (83, .int .i64 ((fromOf xs i : Nat) : Int)), (84, .int .i64 (i : Int)), (85, .slice (sliceA g o (fromOf xs i : Nat) cap 4) (i - (fromOf xs i : Nat)) (cap - (fromOf xs i : Nat))), (86, .slice (some ⟨g, o, none⟩) n cap), (87, .int .i64 (i : Int)), (88, .int .i64 (e : Int)), (89, .slice (sliceA g o i cap 4) (e - i) (cap - i)), (90, .bool (eqF span1 ((xs.drop (fromOf xs i : Nat)).take (i - (fromOf xs i : Nat))) ((xs.drop i).take (e - i)))), (91, .bool (eqF span1 ((xs.drop (fromOf xs i : Nat)).take (i - (fromOf xs i : Nat))) ((xs.drop i).take (e - i))))] (by kernel_rfl) (pok_then (pok_then (pok_blk (pok_then (pok_then (pok_blk (pok_then pok_body))))))) (by kernel_rfl) rfl rfl (by kernel_rfl) (by kernel_rfl) ?_
        refine drawn_done (by kernel_rfl) ?_
        refine then_normal ?_
        refine cont_split 91 (eqF span1 ((xs.drop (fromOf xs i : Nat)).take (i - (fromOf xs i : Nat))) ((xs.drop i).take (e - i))) rfl (fun c20_ => ?_) (fun c20_ => ?_)
        ·
          refine cont_recast 90 (.bool (eqF span1 ((xs.drop (fromOf xs i : Nat)).take (i - (fromOf xs i : Nat))) ((xs.drop i).take (e - i)))) (.bool true) rfl (congrArg Value.bool c20_) ?_
          refine cont_true rfl ?_
          refine cont_seq ?_
          refine cont_region 1 rfl ?_
          refine bS [0] 1 0 [(2, .bool false)] ?_
          refine cont_forget 0 rfl ?_
          refine cont_forget 0 rfl ?_
          refine cont_done ?_
          refine then_normal ?_
          refine cont_ret ?_
          refine then_ret ?_
          refine blk_ret ?_
          refine then_ret ?_
          refine then_ret ?_
          refine blk_ret ?_
          refine then_ret ?_
          refine ret_one (.inl rfl) rfl 0 (.bool false) (by kernel_rfl) (by kernel_rfl) (fun w hT => ?_)
          refine ⟨ret_bool (may_no (i := i) (by omega) (fun ok_ => ?_)).symm, hT.post rfl⟩
          first
          | (have e_ := ok_.ne; rw [show emptyR (rget xs i) = true from ‹emptyB _ _ _ _ = true›] at e_; cases e_)
          | (have e_ := ok_.on (by omega) (by assumption); omega)
          | (have e_ := ok_.next (by omega) (by assumption); omega)
          | (have e_ := ok_.apart (by omega) (by assumption) (by assumption) e hEnd; exact absurd (show (true : Bool) = false from (Eq.symm ‹eqF span1 _ _ = true›).trans e_) (by decide))
        refine cont_recast 90 (.bool (eqF span1 ((xs.drop (fromOf xs i : Nat)).take (i - (fromOf xs i : Nat))) ((xs.drop i).take (e - i)))) (.bool false) rfl (congrArg Value.bool c20_) ?_
        refine cont_false rfl ?_
        refine cont_skip ?_
        refine then_normal ?_
        refine cont_region 2 rfl ?_
        refine bS [0, 0] 2 0 [(0, .slice A n cap), (3, .int .i64 (i : Int)), (4, .int .i64 (i : Int)), (33, .pointer (some ⟨b6, 3, none⟩)), (34, .int .i64 ((rget xs (i - 1 : Nat)).y1)), (35, .pointer (some ⟨b3, 3, none⟩)), (36, .int .i64 ((rget xs i).y1)), (37, .bool false), (55, undef), (56, undef), (57, undef), (58, undef), (59, undef), (60, undef), (61, undef), (62, undef), (65, undef), (66, undef), (67, undef), (68, undef), (69, undef), (70, undef), (71, undef), (72, undef), (82, .slice (some ⟨g, o, none⟩) n cap), (83, .int .i64 ((fromOf xs i : Nat) : Int)), (84, .int .i64 (i : Int)), (85, .slice (sliceA g o (fromOf xs i : Nat) cap 4) (i - (fromOf xs i : Nat)) (cap - (fromOf xs i : Nat))), (86, .slice (some ⟨g, o, none⟩) n cap), (87, .int .i64 (i : Int)), (88, .int .i64 (e : Int)), (89, .slice (sliceA g o i cap 4) (e - i) (cap - i)), (90, .bool false)] ?_
        refine cont_done ?_
        refine blk_normal ?_
        refine then_normal ?_
        refine cont_region 3 rfl ?_
        refine bS [0, 0] 2 1 [(0, .slice A n cap), (3, .int .i64 (i : Int)), (13, .int .i64 (IntKind.i64.wrap ((i : Int) + 1))), (33, .pointer (some ⟨b6, 3, none⟩)), (34, .int .i64 ((rget xs (i - 1 : Nat)).y1)), (35, .pointer (some ⟨b3, 3, none⟩)), (36, .int .i64 ((rget xs i).y1)), (37, .bool false), (55, undef), (56, undef), (57, undef), (58, undef), (59, undef), (60, undef), (61, undef), (62, undef), (65, undef), (66, undef), (67, undef), (68, undef), (69, undef), (70, undef), (71, undef), (72, undef), (82, .slice (some ⟨g, o, none⟩) n cap), (83, .int .i64 ((fromOf xs i : Nat) : Int)), (84, .int .i64 (i : Int)), (85, .slice (sliceA g o (fromOf xs i : Nat) cap 4) (i - (fromOf xs i : Nat)) (cap - (fromOf xs i : Nat))), (86, .slice (some ⟨g, o, none⟩) n cap), (87, .int .i64 (i : Int)), (88, .int .i64 (e : Int)), (89, .slice (sliceA g o i cap 4) (e - i) (cap - i)), (90, .bool false)] ?_
        refine cont_recast 13 (.int .i64 (IntKind.i64.wrap ((i : Int) + 1))) (.int .i64 ((i + 1 : Nat) : Int)) rfl (by rw [show (((i + 1 : Nat) : Int)) = (i : Int) + 1 by omega]; exact wrapI (by omega) (by omega)) ?_
        refine bS [0] 3 0 [(0, .slice A n cap), (3, .int .i64 (i : Int)), (4, .int .i64 ((i + 1 : Nat) : Int)), (33, .pointer (some ⟨b6, 3, none⟩)), (34, .int .i64 ((rget xs (i - 1 : Nat)).y1)), (35, .pointer (some ⟨b3, 3, none⟩)), (36, .int .i64 ((rget xs i).y1)), (37, .bool false), (55, undef), (56, undef), (57, undef), (58, undef), (59, undef), (60, undef), (61, undef), (62, undef), (65, undef), (66, undef), (67, undef), (68, undef), (69, undef), (70, undef), (71, undef), (72, undef), (82, .slice (some ⟨g, o, none⟩) n cap), (83, .int .i64 ((fromOf xs i : Nat) : Int)), (84, .int .i64 (i : Int)), (85, .slice (sliceA g o (fromOf xs i : Nat) cap 4) (i - (fromOf xs i : Nat)) (cap - (fromOf xs i : Nat))), (86, .slice (some ⟨g, o, none⟩) n cap), (87, .int .i64 (i : Int)), (88, .int .i64 (e : Int)), (89, .slice (sliceA g o i cap 4) (e - i) (cap - i)), (90, .bool false)] ?_
        refine cont_done ?_
        refine then_normal ?_
        refine cont_forget 1 rfl ?_
        refine cont_forget 0 rfl ?_
        have hnow_ : OkAt xs i := ⟨c4_, fun _ hs => absurd hs hnY, fun _ _ => by omega, fun _ _ _ e' hE => by rw [hE.unique hEnd]; exact c20_⟩
        have hfs_ : fromOf xs (i + 1) = i := fromOf_new (by omega) hnY
        refine cont_recast 3 (.int .i64 (i : Int)) (.int .i64 ((fromOf xs (i + 1) : Nat) : Int)) rfl (congrArg (Value.int .i64) (by rw [hfs_])) ?_
        refine cont_again (i + 1) (show (i + 1) ≤ n ∧ ∀ j, j < (i + 1) → OkAt xs j from ⟨by omega, fun j hj => by rcases Nat.lt_succ_iff_lt_or_eq.1 hj with h_ | h_; exact hok j h_; subst h_; exact hnow_⟩) (show n - (i + 1) < n - i from by omega) (by kernel_rfl) (by kernel_rfl)
      replace c19_ := ne_of_beqf c19_
      refine takes 0 [] [(6, 0), (7, 0), (8, 0), (10, 0), (11, 0), (12, 0), (9, 0), (13, 0)] 2 [13, 9, 12, 11, 10, 8, 7, 6, 5, 4, 3, 1, 2, 0] [(0, .slice A n cap), (4, .int .i64 (i : Int)), (33, .pointer (some ⟨b6, 3, none⟩)), (34, .int .i64 ((rget xs (i - 1 : Nat)).y1)), (35, .pointer (some ⟨b3, 3, none⟩)), (36, .int .i64 ((rget xs i).y1)), (37, .bool false), (55, undef), (56, undef), (57, undef), (58, undef), (59, undef), (60, undef), (61, undef), (62, undef), (65, undef), (66, undef), (67, undef), (68, undef), (69, undef), (70, undef), (71, undef), (72, undef), (81, .bool false), (82, undef), (83, undef), (84, undef), (85, undef), (86, undef), (87, undef), (88, undef), (89, undef)] (by kernel_rfl) (pok_then (pok_then (pok_blk (pok_then (pok_then (pok_blk (pok_then pok_body))))))) (by kernel_rfl) rfl rfl (by kernel_rfl) (by kernel_rfl) ?_
      refine drawn_one 14 1 rfl (by kernel_rfl) ?_
      refine one_step 0 [(0, .slice A n cap), (4, .int .i64 (i : Int)), (33, .pointer (some ⟨b6, 3, none⟩)), (34, .int .i64 ((rget xs (i - 1 : Nat)).y1)), (35, .pointer (some ⟨b3, 3, none⟩)), (36, .int .i64 ((rget xs i).y1)), (37, .bool false), (55, undef), (56, undef), (57, undef), (58, undef), (59, undef), (60, undef), (61, undef), (62, undef), (65, undef), (66, undef), (67, undef), (68, undef), (69, undef), (70, undef), (71, undef), (72, undef), (81, .bool false), (82, undef), (83, undef), (84, undef), (85, undef), (86, undef), (87, undef), (88, undef), (89, undef), (90, undef)] [.cells b6 [.int .i64 ((rget xs (i - 1 : Nat)).x0), .int .i64 ((rget xs (i - 1 : Nat)).y0), .int .i64 ((rget xs (i - 1 : Nat)).x1), .int .i64 ((rget xs (i - 1 : Nat)).y1)] 25 true, .cells b3 [.int .i64 ((rget xs i).x0), .int .i64 ((rget xs i).y0), .int .i64 ((rget xs i).x1), .int .i64 ((rget xs i).y1)] 25 true, .gen (rdE (A) g o n 4 (rvals xs))] (by kernel_rfl) (by kernel_rfl) ?_
      refine drawn_next 0 [] (by kernel_rfl) ?_
      refine takes 0 [] [(15, 0)] 0 [15, 14, 13, 9, 12, 11, 10, 8, 7, 6, 5, 4, 3, 1, 2, 0] [(0, .slice A n cap), (4, .int .i64 (i : Int)), (33, .pointer (some ⟨b6, 3, none⟩)), (34, .int .i64 ((rget xs (i - 1 : Nat)).y1)), (35, .pointer (some ⟨b3, 3, none⟩)), (36, .int .i64 ((rget xs i).y1)), (37, .bool false), (55, undef), (56, undef), (57, undef), (58, undef), (59, undef), (60, undef), (61, undef), (62, undef), (65, undef), (66, undef), (67, undef), (68, undef), (69, undef), (70, undef), (71, undef), (72, undef), (82, undef), (83, undef), (84, undef), (85, undef), (86, undef), (87, undef), (88, undef), (89, undef), (90, undef), (91, .bool false)] (by kernel_rfl) (pok_then (pok_then (pok_blk (pok_then (pok_then (pok_blk (pok_then pok_body))))))) (by kernel_rfl) rfl rfl (by kernel_rfl) (by kernel_rfl) ?_
      refine drawn_done (by kernel_rfl) ?_
      refine then_normal ?_
      refine cont_false rfl ?_
      refine cont_skip ?_
      refine then_normal ?_
      refine cont_region 2 rfl ?_
      refine bS [0, 0] 2 0 [(0, .slice A n cap), (3, .int .i64 (i : Int)), (4, .int .i64 (i : Int)), (33, .pointer (some ⟨b6, 3, none⟩)), (34, .int .i64 ((rget xs (i - 1 : Nat)).y1)), (35, .pointer (some ⟨b3, 3, none⟩)), (36, .int .i64 ((rget xs i).y1)), (37, .bool false), (55, undef), (56, undef), (57, undef), (58, undef), (59, undef), (60, undef), (61, undef), (62, undef), (65, undef), (66, undef), (67, undef), (68, undef), (69, undef), (70, undef), (71, undef), (72, undef), (82, undef), (83, undef), (84, undef), (85, undef), (86, undef), (87, undef), (88, undef), (89, undef), (90, undef)] ?_
      refine cont_done ?_
      refine blk_normal ?_
      refine then_normal ?_
      refine cont_region 3 rfl ?_
      refine bS [0, 0] 2 1 [(0, .slice A n cap), (3, .int .i64 (i : Int)), (13, .int .i64 (IntKind.i64.wrap ((i : Int) + 1))), (33, .pointer (some ⟨b6, 3, none⟩)), (34, .int .i64 ((rget xs (i - 1 : Nat)).y1)), (35, .pointer (some ⟨b3, 3, none⟩)), (36, .int .i64 ((rget xs i).y1)), (37, .bool false), (55, undef), (56, undef), (57, undef), (58, undef), (59, undef), (60, undef), (61, undef), (62, undef), (65, undef), (66, undef), (67, undef), (68, undef), (69, undef), (70, undef), (71, undef), (72, undef), (82, undef), (83, undef), (84, undef), (85, undef), (86, undef), (87, undef), (88, undef), (89, undef), (90, undef)] ?_
      refine cont_recast 13 (.int .i64 (IntKind.i64.wrap ((i : Int) + 1))) (.int .i64 ((i + 1 : Nat) : Int)) rfl (by rw [show (((i + 1 : Nat) : Int)) = (i : Int) + 1 by omega]; exact wrapI (by omega) (by omega)) ?_
      refine bS [0] 3 0 [(0, .slice A n cap), (3, .int .i64 (i : Int)), (4, .int .i64 ((i + 1 : Nat) : Int)), (33, .pointer (some ⟨b6, 3, none⟩)), (34, .int .i64 ((rget xs (i - 1 : Nat)).y1)), (35, .pointer (some ⟨b3, 3, none⟩)), (36, .int .i64 ((rget xs i).y1)), (37, .bool false), (55, undef), (56, undef), (57, undef), (58, undef), (59, undef), (60, undef), (61, undef), (62, undef), (65, undef), (66, undef), (67, undef), (68, undef), (69, undef), (70, undef), (71, undef), (72, undef), (82, undef), (83, undef), (84, undef), (85, undef), (86, undef), (87, undef), (88, undef), (89, undef), (90, undef)] ?_
      refine cont_done ?_
      refine then_normal ?_
      refine cont_forget 1 rfl ?_
      refine cont_forget 0 rfl ?_
      have hnow_ : OkAt xs i := ⟨c4_, fun _ hs => absurd hs hnY, fun _ _ => by omega, fun _ _ ht => absurd ht c19_⟩
      have hfs_ : fromOf xs (i + 1) = i := fromOf_new (by omega) hnY
      refine cont_recast 3 (.int .i64 (i : Int)) (.int .i64 ((fromOf xs (i + 1) : Nat) : Int)) rfl (congrArg (Value.int .i64) (by rw [hfs_])) ?_
      refine cont_again (i + 1) (show (i + 1) ≤ n ∧ ∀ j, j < (i + 1) → OkAt xs j from ⟨by omega, fun j hj => by rcases Nat.lt_succ_iff_lt_or_eq.1 hj with h_ | h_; exact hok j h_; subst h_; exact hnow_⟩) (show n - (i + 1) < n - i from by omega) (by kernel_rfl) (by kernel_rfl)
    replace c7_ := ne_of_beqf c7_
    refine bS [0, 0, 0, 0, 0, 0] 12 0 [(0, .slice A n cap), (3, .int .i64 ((fromOf xs i : Nat) : Int)), (4, .int .i64 (i : Int)), (5, .pointer (some ⟨b3, 0, none⟩)), (6, .pointer (some ⟨b6, 0, none⟩)), (33, undef), (34, undef), (35, undef), (36, undef), (37, undef), (38, .bool false)] ?_
    refine cont_done ?_
    refine then_normal ?_
    refine cont_false rfl ?_
    refine cont_skip ?_
    refine then_normal ?_
    refine cont_seq ?_
    refine cont_seq ?_
    refine cont_region 5 rfl ?_
    have hnY : ¬ sameY (rget xs (i - 1)) (rget xs i) := fun hs => c7_ hs.1
    refine bS [0, 0, 0, 1, 0] 5 0 [(0, .slice A n cap), (3, .int .i64 ((fromOf xs i : Nat) : Int)), (4, .int .i64 (i : Int)), (5, .pointer (some ⟨b3, 0, none⟩)), (6, .pointer (some ⟨b6, 0, none⟩)), (33, undef), (34, undef), (35, undef), (36, undef), (37, undef), (48, .bool (decide (((rget xs (i - 1 : Nat)).y1) > ((rget xs i).y0))))] ?_
    refine cont_done ?_
    refine then_normal ?_
    refine cont_split 48 (decide (((rget xs (i - 1 : Nat)).y1) > ((rget xs i).y0))) rfl (fun c21_ => ?_) (fun c21_ => ?_)
    ·
      replace c21_ := of_decide_eq_true c21_
      refine cont_true rfl ?_
      refine cont_seq ?_
      refine cont_region 1 rfl ?_
      refine bS [0] 1 0 [(2, .bool false)] ?_
      refine cont_forget 0 rfl ?_
      refine cont_forget 0 rfl ?_
      refine cont_done ?_
      refine then_normal ?_
      refine cont_ret ?_
      refine then_ret ?_
      refine blk_ret ?_
      refine then_ret ?_
      refine then_ret ?_
      refine blk_ret ?_
      refine then_ret ?_
      refine ret_one (.inl rfl) rfl 0 (.bool false) (by kernel_rfl) (by kernel_rfl) (fun w hT => ?_)
      refine ⟨ret_bool (may_no (i := i) (by omega) (fun ok_ => ?_)).symm, hT.post rfl⟩
      first
      | (have e_ := ok_.ne; rw [show emptyR (rget xs i) = true from ‹emptyB _ _ _ _ = true›] at e_; cases e_)
      | (have e_ := ok_.on (by omega) (by assumption); omega)
      | (have e_ := ok_.next (by omega) (by assumption); omega)
      | (have e_ := ok_.apart (by omega) (by assumption) (by assumption) e hEnd; exact absurd (show (true : Bool) = false from (Eq.symm ‹eqF span1 _ _ = true›).trans e_) (by decide))
    replace c21_ := of_decide_eq_false c21_
    refine cont_false rfl ?_
    refine cont_skip ?_
    refine then_normal ?_
    refine cont_seq ?_
    refine cont_region 2 rfl ?_
    refine bS [0, 0] 2 0 [(0, .slice A n cap), (3, .int .i64 ((fromOf xs i : Nat) : Int)), (4, .int .i64 (i : Int)), (5, .pointer (some ⟨b3, 0, none⟩)), (6, .pointer (some ⟨b6, 0, none⟩)), (7, .int .i64 (i : Int)), (33, undef), (34, undef), (35, undef), (36, undef), (37, undef)] ?_
    refine cont_done ?_
    refine then_normal ?_
    refine cont_seq ?_
    refine cont_block ?_
    refine cont_loop (α := Nat) (fun x_ : Nat => i ≤ x_ ∧ x_ ≤ n ∧ ∀ j, i ≤ j → j < x_ → sameY (rget xs j) (rget xs i)) (fun x_ : Nat => [(0, .slice A n cap), (3, .int .i64 ((fromOf xs i : Nat) : Int)), (4, .int .i64 (i : Int)), (5, .pointer (some ⟨b3, 0, none⟩)), (6, .pointer (some ⟨b6, 0, none⟩)), (7, .int .i64 (x_ : Int)), (33, undef), (34, undef), (35, undef), (36, undef), (37, undef)]) (fun x_ : Nat => [.cells b6 [.int .i64 ((rget xs (i - 1 : Nat)).x0), .int .i64 ((rget xs (i - 1 : Nat)).y0), .int .i64 ((rget xs (i - 1 : Nat)).x1), .int .i64 ((rget xs (i - 1 : Nat)).y1)] 25 true, .cells b3 [.int .i64 ((rget xs i).x0), .int .i64 ((rget xs i).y0), .int .i64 ((rget xs i).x1), .int .i64 ((rget xs i).y1)] 25 true, .gen (rdE (A) g o n 4 (rvals xs))]) (fun x_ : Nat => n - x_) i (⟨by omega, by omega, fun j h1 h2 => by omega⟩) (by kernel_rfl) (by kernel_rfl) ?_
    rintro e hinv22_
    replace hinv22_ : i ≤ e ∧ e ≤ n ∧ ∀ j, i ≤ j → j < e → sameY (rget xs j) (rget xs i) := hinv22_
    refine cont_norm [(0, .slice A n cap), (3, .int .i64 ((fromOf xs i : Nat) : Int)), (4, .int .i64 (i : Int)), (5, .pointer (some ⟨b3, 0, none⟩)), (6, .pointer (some ⟨b6, 0, none⟩)), (7, .int .i64 (e : Int)), (33, undef), (34, undef), (35, undef), (36, undef), (37, undef)] [.cells b6 [.int .i64 ((rget xs (i - 1 : Nat)).x0), .int .i64 ((rget xs (i - 1 : Nat)).y0), .int .i64 ((rget xs (i - 1 : Nat)).x1), .int .i64 ((rget xs (i - 1 : Nat)).y1)] 25 true, .cells b3 [.int .i64 ((rget xs i).x0), .int .i64 ((rget xs i).y0), .int .i64 ((rget xs i).x1), .int .i64 ((rget xs i).y1)] 25 true, .gen (rdE (A) g o n 4 (rvals xs))] (by kernel_rfl) rfl ?_
    obtain ⟨hie, hen, hsm⟩ := hinv22_
    refine cont_seq ?_
    refine cont_seq ?_
    refine drawn_enter 24 [] rfl (by kernel_rfl) ?_
    refine takes 0 [] [(0, 0), (1, 0), (2, 0), (3, 0), (4, 0)] 19 [4, 3, 2, 1, 0] [(0, .slice A n cap), (3, .int .i64 ((fromOf xs i : Nat) : Int)), (4, .int .i64 (i : Int)), (5, .pointer (some ⟨b3, 0, none⟩)), (6, .pointer (some ⟨b6, 0, none⟩)), (7, .int .i64 (e : Int)), (33, undef), (34, undef), (35, undef), (36, undef), (37, undef), (54, .bool (decide ((e : Int) < (n : Int))))] (by kernel_rfl) (pok_then (pok_then (pok_then (pok_blk (pok_then (pok_blk (pok_then (pok_then (pok_blk (pok_then pok_body)))))))))) (by kernel_rfl) rfl rfl (by kernel_rfl) (by kernel_rfl) ?_
    refine cont_split 54 (decide ((e : Int) < (n : Int))) rfl (fun c23_ => ?_) (fun c23_ => ?_)
    ·
      replace c23_ := of_decide_eq_true c23_
      refine takes 0 [] [(5, 0), (6, 0), (10, 0)] 16 [10, 6, 5, 4, 3, 2, 1, 0] [(0, .slice A n cap), (3, .int .i64 ((fromOf xs i : Nat) : Int)), (4, .int .i64 (i : Int)), (5, .pointer (some ⟨b3, 0, none⟩)), (6, .pointer (some ⟨b6, 0, none⟩)), (7, .int .i64 (e : Int)), (33, undef), (34, undef), (35, undef), (36, undef), (37, undef), (54, .bool true), (55, .slice A n cap), (56, .int .i64 (e : Int)), (60, .pointer (some ⟨b3, 1, none⟩))] (by kernel_rfl) (pok_then (pok_then (pok_then (pok_blk (pok_then (pok_blk (pok_then (pok_then (pok_blk (pok_then pok_body)))))))))) (by kernel_rfl) rfl rfl (by kernel_rfl) (by kernel_rfl) ?_
      refine cont_recast 55 (.slice A n cap) (.slice (some ⟨g, o, none⟩) n cap) rfl (by rw [hra (by omega)]) ?_
      refine sem_take 0 [] 7 15 57 (Instr.indexAt 22 (.slice (some ⟨g, o, none⟩) n cap) (.int .i64 (e : Int))) (.pointer (some ⟨g, o + e * 4, none⟩)) (by kernel_rfl) (pok_then (pok_then (pok_then (pok_blk (pok_then (pok_blk (pok_then (pok_then (pok_blk (pok_then pok_body)))))))))) (by kernel_rfl) rfl (by kernel_rfl) (by kernel_rfl) (fun w hT => run_indexAt (e := 25) (sz := 4) _ (by kernel_rfl) (by kernel_rfl) (by omega) (by omega) (by omega) w) ?_
      refine takes 0 [] [(8, 0), (11, 1)] 13 [11, 8, 7, 10, 6, 5, 4, 3, 2, 1, 0] [(0, .slice A n cap), (3, .int .i64 ((fromOf xs i : Nat) : Int)), (4, .int .i64 (i : Int)), (5, .pointer (some ⟨b3, 0, none⟩)), (6, .pointer (some ⟨b6, 0, none⟩)), (7, .int .i64 (e : Int)), (33, undef), (34, undef), (35, undef), (36, undef), (37, undef), (54, .bool true), (55, .slice (some ⟨g, o, none⟩) n cap), (56, .int .i64 (e : Int)), (57, .pointer (some ⟨g, o + e * 4, none⟩)), (58, .pointer (some ⟨g, o + e * 4 + 1, none⟩)), (60, .pointer (some ⟨b3, 1, none⟩)), (61, .int .i64 ((rget xs i).y0))] (by kernel_rfl) (pok_then (pok_then (pok_then (pok_blk (pok_then (pok_blk (pok_then (pok_then (pok_blk (pok_then pok_body)))))))))) (by kernel_rfl) rfl rfl (by kernel_rfl) (by kernel_rfl) ?_
      refine sem_take 0 [] 9 12 59 (Instr.loadAt 3 (.pointer (some ⟨g, o + e * 4 + 1, none⟩))) (.int .i64 ((rget xs e).y0)) (by kernel_rfl) (pok_then (pok_then (pok_then (pok_blk (pok_then (pok_blk (pok_then (pok_then (pok_blk (pok_then pok_body)))))))))) (by kernel_rfl) rfl (by kernel_rfl) (by kernel_rfl) (fun w hT => run_load1 (by kernel_rfl) (Rd.cellF (hT 2 _ rfl) e 1 _ (by omega) rfl)) ?_
      refine takes 0 [] [(12, 0), (13, 0), (14, 0)] 9 [14, 13, 12, 9, 11, 8, 7, 10, 6, 5, 4, 3, 2, 1, 0] [(0, .slice A n cap), (3, .int .i64 ((fromOf xs i : Nat) : Int)), (4, .int .i64 (i : Int)), (5, .pointer (some ⟨b3, 0, none⟩)), (6, .pointer (some ⟨b6, 0, none⟩)), (7, .int .i64 (e : Int)), (33, undef), (34, undef), (35, undef), (36, undef), (37, undef), (55, .slice (some ⟨g, o, none⟩) n cap), (56, .int .i64 (e : Int)), (57, .pointer (some ⟨g, o + e * 4, none⟩)), (58, .pointer (some ⟨g, o + e * 4 + 1, none⟩)), (59, .int .i64 ((rget xs e).y0)), (60, .pointer (some ⟨b3, 1, none⟩)), (61, .int .i64 ((rget xs i).y0)), (62, .bool (((rget xs e).y0) == ((rget xs i).y0))), (64, .bool (((rget xs e).y0) == ((rget xs i).y0)))] (by kernel_rfl) (pok_then (pok_then (pok_then (pok_blk (pok_then (pok_blk (pok_then (pok_then (pok_blk (pok_then pok_body)))))))))) (by kernel_rfl) rfl rfl (by kernel_rfl) (by kernel_rfl) ?_
      refine cont_split 64 (((rget xs e).y0) == ((rget xs i).y0)) rfl (fun c24_ => ?_) (fun c24_ => ?_)
      ·
        refine cont_recast 62 (.bool (((rget xs e).y0) == ((rget xs i).y0))) (.bool true) rfl (congrArg Value.bool c24_) ?_
        replace c24_ := eq_of_beqt c24_
        refine takes 0 [] [(15, 0), (16, 0), (20, 0)] 6 [20, 16, 15, 14, 13, 12, 9, 11, 8, 7, 10, 6, 5, 4, 3, 2, 1, 0] [(0, .slice A n cap), (3, .int .i64 ((fromOf xs i : Nat) : Int)), (4, .int .i64 (i : Int)), (5, .pointer (some ⟨b3, 0, none⟩)), (6, .pointer (some ⟨b6, 0, none⟩)), (7, .int .i64 (e : Int)), (33, undef), (34, undef), (35, undef), (36, undef), (37, undef), (55, .slice (some ⟨g, o, none⟩) n cap), (56, .int .i64 (e : Int)), (57, .pointer (some ⟨g, o + e * 4, none⟩)), (58, .pointer (some ⟨g, o + e * 4 + 1, none⟩)), (59, .int .i64 ((rget xs e).y0)), (60, .pointer (some ⟨b3, 1, none⟩)), (61, .int .i64 ((rget xs i).y0)), (62, .bool true), (64, .bool true), (65, .slice A n cap), (66, .int .i64 (e : Int)), (70, .pointer (some ⟨b3, 3, none⟩))] (by kernel_rfl) (pok_then (pok_then (pok_then (pok_blk (pok_then (pok_blk (pok_then (pok_then (pok_blk (pok_then pok_body)))))))))) (by kernel_rfl) rfl rfl (by kernel_rfl) (by kernel_rfl) ?_
        refine cont_recast 65 (.slice A n cap) (.slice (some ⟨g, o, none⟩) n cap) rfl (by rw [hra (by omega)]) ?_
        refine sem_take 0 [] 17 5 67 (Instr.indexAt 22 (.slice (some ⟨g, o, none⟩) n cap) (.int .i64 (e : Int))) (.pointer (some ⟨g, o + e * 4, none⟩)) (by kernel_rfl) (pok_then (pok_then (pok_then (pok_blk (pok_then (pok_blk (pok_then (pok_then (pok_blk (pok_then pok_body)))))))))) (by kernel_rfl) rfl (by kernel_rfl) (by kernel_rfl) (fun w hT => run_indexAt (e := 25) (sz := 4) _ (by kernel_rfl) (by kernel_rfl) (by omega) (by omega) (by omega) w) ?_
        refine takes 0 [] [(18, 0), (21, 1)] 3 [21, 18, 17, 20, 16, 15, 14, 13, 12, 9, 11, 8, 7, 10, 6, 5, 4, 3, 2, 1, 0] [(0, .slice A n cap), (3, .int .i64 ((fromOf xs i : Nat) : Int)), (4, .int .i64 (i : Int)), (5, .pointer (some ⟨b3, 0, none⟩)), (6, .pointer (some ⟨b6, 0, none⟩)), (7, .int .i64 (e : Int)), (33, undef), (34, undef), (35, undef), (36, undef), (37, undef), (55, .slice (some ⟨g, o, none⟩) n cap), (56, .int .i64 (e : Int)), (57, .pointer (some ⟨g, o + e * 4, none⟩)), (58, .pointer (some ⟨g, o + e * 4 + 1, none⟩)), (59, .int .i64 ((rget xs e).y0)), (60, .pointer (some ⟨b3, 1, none⟩)), (61, .int .i64 ((rget xs i).y0)), (62, .bool true), (64, .bool true), (65, .slice (some ⟨g, o, none⟩) n cap), (66, .int .i64 (e : Int)), (67, .pointer (some ⟨g, o + e * 4, none⟩)), (68, .pointer (some ⟨g, o + e * 4 + 3, none⟩)), (70, .pointer (some ⟨b3, 3, none⟩)), (71, .int .i64 ((rget xs i).y1))] (by kernel_rfl) (pok_then (pok_then (pok_then (pok_blk (pok_then (pok_blk (pok_then (pok_then (pok_blk (pok_then pok_body)))))))))) (by kernel_rfl) rfl rfl (by kernel_rfl) (by kernel_rfl) ?_
        refine sem_take 0 [] 19 2 69 (Instr.loadAt 3 (.pointer (some ⟨g, o + e * 4 + 3, none⟩))) (.int .i64 ((rget xs e).y1)) (by kernel_rfl) (pok_then (pok_then (pok_then (pok_blk (pok_then (pok_blk (pok_then (pok_then (pok_blk (pok_then pok_body)))))))))) (by kernel_rfl) rfl (by kernel_rfl) (by kernel_rfl) (fun w hT => run_load1 (by kernel_rfl) (Rd.cellF (hT 2 _ rfl) e 3 _ (by omega) rfl)) ?_
        refine takes 0 [] [(22, 0), (23, 0)] 0 [23, 22, 19, 21, 18, 17, 20, 16, 15, 14, 13, 12, 9, 11, 8, 7, 10, 6, 5, 4, 3, 2, 1, 0] [(0, .slice A n cap), (3, .int .i64 ((fromOf xs i : Nat) : Int)), (4, .int .i64 (i : Int)), (5, .pointer (some ⟨b3, 0, none⟩)), (6, .pointer (some ⟨b6, 0, none⟩)), (7, .int .i64 (e : Int)), (33, undef), (34, undef), (35, undef), (36, undef), (37, undef), (55, .slice (some ⟨g, o, none⟩) n cap), (56, .int .i64 (e : Int)), (57, .pointer (some ⟨g, o + e * 4, none⟩)), (58, .pointer (some ⟨g, o + e * 4 + 1, none⟩)), (59, .int .i64 ((rget xs e).y0)), (60, .pointer (some ⟨b3, 1, none⟩)), (61, .int .i64 ((rget xs i).y0)), (62, .bool true), (65, .slice (some ⟨g, o, none⟩) n cap), (66, .int .i64 (e : Int)), (67, .pointer (some ⟨g, o + e * 4, none⟩)), (68, .pointer (some ⟨g, o + e * 4 + 3, none⟩)), (69, .int .i64 ((rget xs e).y1)), (70, .pointer (some ⟨b3, 3, none⟩)), (71, .int .i64 ((rget xs i).y1)), (72, .bool (((rget xs e).y1) == ((rget xs i).y1))), (73, .bool (((rget xs e).y1) == ((rget xs i).y1)))] (by kernel_rfl) (pok_then (pok_then (pok_then (pok_blk (pok_then (pok_blk (pok_then (pok_then (pok_blk (pok_then pok_body)))))))))) (by kernel_rfl) rfl rfl (by kernel_rfl) (by kernel_rfl) ?_
        refine drawn_done (by kernel_rfl) ?_
        refine then_normal ?_
        refine cont_split 73 (((rget xs e).y1) == ((rget xs i).y1)) rfl (fun c25_ => ?_) (fun c25_ => ?_)
        ·
          refine cont_recast 72 (.bool (((rget xs e).y1) == ((rget xs i).y1))) (.bool true) rfl (congrArg Value.bool c25_) ?_
          replace c25_ := eq_of_beqt c25_
          refine cont_true rfl ?_
          refine cont_skip ?_
          refine then_normal ?_
          refine cont_block ?_
          refine cont_region 3 rfl ?_
          refine bS [0, 0] 2 1 [(0, .slice A n cap), (3, .int .i64 ((fromOf xs i : Nat) : Int)), (4, .int .i64 (i : Int)), (5, .pointer (some ⟨b3, 0, none⟩)), (6, .pointer (some ⟨b6, 0, none⟩)), (33, undef), (34, undef), (35, undef), (36, undef), (37, undef), (55, .slice (some ⟨g, o, none⟩) n cap), (56, .int .i64 (e : Int)), (57, .pointer (some ⟨g, o + e * 4, none⟩)), (58, .pointer (some ⟨g, o + e * 4 + 1, none⟩)), (59, .int .i64 ((rget xs e).y0)), (60, .pointer (some ⟨b3, 1, none⟩)), (61, .int .i64 ((rget xs i).y0)), (62, .bool true), (65, .slice (some ⟨g, o, none⟩) n cap), (66, .int .i64 (e : Int)), (67, .pointer (some ⟨g, o + e * 4, none⟩)), (68, .pointer (some ⟨g, o + e * 4 + 3, none⟩)), (69, .int .i64 ((rget xs e).y1)), (70, .pointer (some ⟨b3, 3, none⟩)), (71, .int .i64 ((rget xs i).y1)), (72, .bool true), (75, .int .i64 (IntKind.i64.wrap ((e : Int) + 1)))] ?_
          refine cont_recast 75 (.int .i64 (IntKind.i64.wrap ((e : Int) + 1))) (.int .i64 ((e + 1 : Nat) : Int)) rfl (by rw [show (((e + 1 : Nat) : Int)) = (e : Int) + 1 by omega]; exact wrapI (by omega) (by omega)) ?_
          refine bS [0] 3 0 [(0, .slice A n cap), (3, .int .i64 ((fromOf xs i : Nat) : Int)), (4, .int .i64 (i : Int)), (5, .pointer (some ⟨b3, 0, none⟩)), (6, .pointer (some ⟨b6, 0, none⟩)), (7, .int .i64 ((e + 1 : Nat) : Int)), (33, undef), (34, undef), (35, undef), (36, undef), (37, undef), (55, .slice (some ⟨g, o, none⟩) n cap), (56, .int .i64 (e : Int)), (57, .pointer (some ⟨g, o + e * 4, none⟩)), (58, .pointer (some ⟨g, o + e * 4 + 1, none⟩)), (59, .int .i64 ((rget xs e).y0)), (60, .pointer (some ⟨b3, 1, none⟩)), (61, .int .i64 ((rget xs i).y0)), (62, .bool true), (65, .slice (some ⟨g, o, none⟩) n cap), (66, .int .i64 (e : Int)), (67, .pointer (some ⟨g, o + e * 4, none⟩)), (68, .pointer (some ⟨g, o + e * 4 + 3, none⟩)), (69, .int .i64 ((rget xs e).y1)), (70, .pointer (some ⟨b3, 3, none⟩)), (71, .int .i64 ((rget xs i).y1)), (72, .bool true)] ?_
          refine cont_done ?_
          refine blk_normal ?_
          refine then_normal ?_
          refine cont_again (e + 1) (show i ≤ (e + 1) ∧ (e + 1) ≤ n ∧ ∀ j, i ≤ j → j < (e + 1) → sameY (rget xs j) (rget xs i) from ⟨by omega, by omega, fun j h1 h2 => by rcases Nat.lt_succ_iff_lt_or_eq.1 h2 with h_ | h_; exact hsm j h1 h_; subst h_; exact ⟨c24_, c25_⟩⟩) (show n - (e + 1) < n - e from by omega) (by kernel_rfl) (by kernel_rfl)
        refine cont_recast 72 (.bool (((rget xs e).y1) == ((rget xs i).y1))) (.bool false) rfl (congrArg Value.bool c25_) ?_
        replace c25_ := ne_of_beqf c25_
        refine cont_false rfl ?_
        refine cont_exit ?_
        refine then_exit ?_
        refine then_exit ?_
        refine blk_exit ?_
        refine then_normal ?_
        refine cont_seq ?_
        refine cont_seq ?_
        have hEnd : EndOf xs i e := endOf_mk (by omega) hie (by omega) hsm (fun _ hs => c25_ hs.2)
        refine drawn_enter 16 [] rfl (by kernel_rfl) ?_
        refine takes 0 [] [(0, 0), (2, 0), (1, 0), (3, 1), (4, 0), (5, 0)] 10 [5, 4, 3, 1, 2, 0] [(0, .slice A n cap), (3, .int .i64 ((fromOf xs i : Nat) : Int)), (4, .int .i64 (i : Int)), (7, .int .i64 (e : Int)), (33, undef), (34, undef), (35, undef), (36, undef), (37, undef), (55, .slice (some ⟨g, o, none⟩) n cap), (56, .int .i64 (e : Int)), (57, .pointer (some ⟨g, o + e * 4, none⟩)), (58, .pointer (some ⟨g, o + e * 4 + 1, none⟩)), (59, .int .i64 ((rget xs e).y0)), (60, .pointer (some ⟨b3, 1, none⟩)), (61, .int .i64 ((rget xs i).y0)), (62, .bool true), (65, .slice (some ⟨g, o, none⟩) n cap), (66, .int .i64 (e : Int)), (67, .pointer (some ⟨g, o + e * 4, none⟩)), (68, .pointer (some ⟨g, o + e * 4 + 3, none⟩)), (69, .int .i64 ((rget xs e).y1)), (70, .pointer (some ⟨b3, 3, none⟩)), (71, .int .i64 ((rget xs i).y1)), (72, .bool false), (81, .bool (((rget xs (i - 1 : Nat)).y1) == ((rget xs i).y0)))] (by kernel_rfl) (pok_then (pok_then (pok_blk (pok_then (pok_then (pok_blk (pok_then pok_body))))))) (by kernel_rfl) rfl rfl (by kernel_rfl) (by kernel_rfl) ?_
        refine cont_split 81 (((rget xs (i - 1 : Nat)).y1) == ((rget xs i).y0)) rfl (fun c26_ => ?_) (fun c26_ => ?_)
        ·
          replace c26_ := eq_of_beqt c26_
          refine takes 0 [] [(6, 0), (7, 0), (8, 0), (10, 0), (11, 0), (12, 0)] 4 [12, 11, 10, 8, 7, 6, 5, 4, 3, 1, 2, 0] [(0, .slice A n cap), (4, .int .i64 (i : Int)), (33, undef), (34, undef), (35, undef), (36, undef), (37, undef), (55, .slice (some ⟨g, o, none⟩) n cap), (56, .int .i64 (e : Int)), (57, .pointer (some ⟨g, o + e * 4, none⟩)), (58, .pointer (some ⟨g, o + e * 4 + 1, none⟩)), (59, .int .i64 ((rget xs e).y0)), (60, .pointer (some ⟨b3, 1, none⟩)), (61, .int .i64 ((rget xs i).y0)), (62, .bool true), (65, .slice (some ⟨g, o, none⟩) n cap), (66, .int .i64 (e : Int)), (67, .pointer (some ⟨g, o + e * 4, none⟩)), (68, .pointer (some ⟨g, o + e * 4 + 3, none⟩)), (69, .int .i64 ((rget xs e).y1)), (70, .pointer (some ⟨b3, 3, none⟩)), (71, .int .i64 ((rget xs i).y1)), (72, .bool false), (81, .bool true), (82, .slice A n cap), (83, .int .i64 ((fromOf xs i : Nat) : Int)), (84, .int .i64 (i : Int)), (86, .slice A n cap), (87, .int .i64 (i : Int)), (88, .int .i64 (e : Int))] (by kernel_rfl) (pok_then (pok_then (pok_blk (pok_then (pok_then (pok_blk (pok_then pok_body))))))) (by kernel_rfl) rfl rfl (by kernel_rfl) (by kernel_rfl) ?_
          refine cont_recast 82 (.slice A n cap) (.slice (some ⟨g, o, none⟩) n cap) rfl (by rw [hra (by omega)]) ?_
          refine sem_take 0 [] 9 3 85 (Instr.sliceAt 22 (.slice (some ⟨g, o, none⟩) n cap) (some (.int .i64 ((fromOf xs i : Nat) : Int))) (some (.int .i64 (i : Int))) none) (.slice (sliceA g o (fromOf xs i : Nat) cap 4) (i - (fromOf xs i : Nat)) (cap - (fromOf xs i : Nat))) (by kernel_rfl) (pok_then (pok_then (pok_blk (pok_then (pok_then (pok_blk (pok_then pok_body))))))) (by kernel_rfl) rfl (by kernel_rfl) (by kernel_rfl) (fun w hT => run_slice2 (e := 25) (sz := 4) _ _ (by kernel_rfl) (by kernel_rfl) (by omega) (by omega) (by omega) (by omega) (by omega) w) ?_
          refine cont_recast 86 (.slice A n cap) (.slice (some ⟨g, o, none⟩) n cap) rfl (by rw [hra (by omega)]) ?_
          refine sem_take 0 [] 13 2 89 (Instr.sliceAt 22 (.slice (some ⟨g, o, none⟩) n cap) (some (.int .i64 (i : Int))) (some (.int .i64 (e : Int))) none) (.slice (sliceA g o i cap 4) (e - i) (cap - i)) (by kernel_rfl) (pok_then (pok_then (pok_blk (pok_then (pok_then (pok_blk (pok_then pok_body))))))) (by kernel_rfl) rfl (by kernel_rfl) (by kernel_rfl) (fun w hT => run_slice2 (e := 25) (sz := 4) _ _ (by kernel_rfl) (by kernel_rfl) (by omega) (by omega) (by omega) (by omega) (by omega) w) ?_
          refine drawn_one 14 1 rfl (by kernel_rfl) ?_
          refine call_pure (d := 90) (.bool (eqF span1 ((xs.drop (fromOf xs i : Nat)).take (i - (fromOf xs i : Nat))) ((xs.drop i).take (e - i)))) (by kernel_rfl) (fun w hT => refSpans (sliceA g o (fromOf xs i : Nat) cap 4) g (o + (fromOf xs i : Nat) * 4) (i - (fromOf xs i : Nat)) (cap - (fromOf xs i : Nat)) ((xs.drop (fromOf xs i : Nat)).take (i - (fromOf xs i : Nat))) (sliceA g o i cap 4) g (o + i * 4) (e - i) (cap - i) ((xs.drop i).take (e - i)) w (hT.viewRo (.cons (i := 2) rfl (Vw.rdSubR (by omega) (by omega)) (.cons (i := 2) rfl (Vw.rdSubR (by omega) (by omega)) .nil)) rfl) (by omega)) ?_
          refine drawn_next 0 [] (by kernel_rfl) ?_
          refine takes 0 [] [(15, 0)] 0 [15, 14, 13, 9, 12, 11, 10, 8, 7, 6, 5, 4, 3, 1, 2, 0] [(0, .slice A n cap), (4, .int .i64 (i : Int)), (33, undef), (34, undef), (35, undef), (36, undef), (37, undef), (55, .slice (some ⟨g, o, none⟩) n cap), (56, .int .i64 (e : Int)), (57, .pointer (some ⟨g, o + e * 4, none⟩)), (58, .pointer (some ⟨g, o + e * 4 + 1, none⟩)), (59, .int .i64 ((rget xs e).y0)), (60, .pointer (some ⟨b3, 1, none⟩)), (61, .int .i64 ((rget xs i).y0)), (62, .bool true), (65, .slice (some ⟨g, o, none⟩) n cap), (66, .int .i64 (e : Int)), (67, .pointer (some ⟨g, o + e * 4, none⟩)), (68, .pointer (some ⟨g, o + e * 4 + 3, none⟩)), (69, .int .i64 ((rget xs e).y1)), (70, .pointer (some ⟨b3, 3, none⟩)), (71, .int .i64 ((rget xs i).y1)), (72, .bool false), (82, .slice (some ⟨g, o, none⟩) n cap), (83, .int .i64 ((fromOf xs i : Nat) : Int)), (84, .int .i64 (i : Int)), (85, .slice (sliceA g o (fromOf xs i : Nat) cap 4) (i - (fromOf xs i : Nat)) (cap - (fromOf xs i : Nat))), (86, .slice (some ⟨g, o, none⟩) n cap), (87, .int .i64 (i : Int)), (88, .int .i64 (e : Int)), (89, .slice (sliceA g o i cap 4) (e - i) (cap - i)), (90, .bool (eqF span1 ((xs.drop (fromOf xs i : Nat)).take (i - (fromOf xs i : Nat))) ((xs.drop i).take (e - i)))), (91, .bool (eqF span1 ((xs.drop (fromOf xs i : Nat)).take (i - (fromOf xs i : Nat))) ((xs.drop i).take (e - i))))] (by kernel_rfl) (pok_then (pok_then (pok_blk (pok_then (pok_then (pok_blk (pok_then pok_body))))))) (by kernel_rfl) rfl rfl (by kernel_rfl) (by kernel_rfl) ?_
          refine drawn_done (by kernel_rfl) ?_
          refine then_normal ?_
          refine cont_split 91 (eqF span1 ((xs.drop (fromOf xs i : Nat)).take (i - (fromOf xs i : Nat))) ((xs.drop i).take (e - i))) rfl (fun c27_ => ?_) (fun c27_ => ?_)
          ·
            refine cont_recast 90 (.bool (eqF span1 ((xs.drop (fromOf xs i : Nat)).take (i - (fromOf xs i : Nat))) ((xs.drop i).take (e - i)))) (.bool true) rfl (congrArg Value.bool c27_) ?_
            refine cont_true rfl ?_
            refine cont_seq ?_
            refine cont_region 1 rfl ?_
            refine bS [0] 1 0 [(2, .bool false)] ?_
            refine cont_forget 0 rfl ?_
            refine cont_forget 0 rfl ?_
            refine cont_done ?_
            refine then_normal ?_
            refine cont_ret ?_
            refine then_ret ?_
            refine blk_ret ?_
            refine then_ret ?_
            refine then_ret ?_
            refine blk_ret ?_
            refine then_ret ?_
            refine ret_one (.inl rfl) rfl 0 (.bool false) (by kernel_rfl) (by kernel_rfl) (fun w hT => ?_)
            refine ⟨ret_bool (may_no (i := i) (by omega) (fun ok_ => ?_)).symm, hT.post rfl⟩
            first
            | (have e_ := ok_.ne; rw [show emptyR (rget xs i) = true from ‹emptyB _ _ _ _ = true›] at e_; cases e_)
            | (have e_ := ok_.on (by omega) (by assumption); omega)
            | (have e_ := ok_.next (by omega) (by assumption); omega)
            | (have e_ := ok_.apart (by omega) (by assumption) (by assumption) e hEnd; exact absurd (show (true : Bool) = false from (Eq.symm ‹eqF span1 _ _ = true›).trans e_) (by decide))
          refine cont_recast 90 (.bool (eqF span1 ((xs.drop (fromOf xs i : Nat)).take (i - (fromOf xs i : Nat))) ((xs.drop i).take (e - i)))) (.bool false) rfl (congrArg Value.bool c27_) ?_
          refine cont_false rfl ?_
          refine cont_skip ?_
          refine then_normal ?_
          refine cont_region 2 rfl ?_
          refine bS [0, 0] 2 0 [(0, .slice A n cap), (3, .int .i64 (i : Int)), (4, .int .i64 (i : Int)), (33, undef), (34, undef), (35, undef), (36, undef), (37, undef), (55, .slice (some ⟨g, o, none⟩) n cap), (56, .int .i64 (e : Int)), (57, .pointer (some ⟨g, o + e * 4, none⟩)), (58, .pointer (some ⟨g, o + e * 4 + 1, none⟩)), (59, .int .i64 ((rget xs e).y0)), (60, .pointer (some ⟨b3, 1, none⟩)), (61, .int .i64 ((rget xs i).y0)), (62, .bool true), (65, .slice (some ⟨g, o, none⟩) n cap), (66, .int .i64 (e : Int)), (67, .pointer (some ⟨g, o + e * 4, none⟩)), (68, .pointer (some ⟨g, o + e * 4 + 3, none⟩)), (69, .int .i64 ((rget xs e).y1)), (70, .pointer (some ⟨b3, 3, none⟩)), (71, .int .i64 ((rget xs i).y1)), (72, .bool false), (82, .slice (some ⟨g, o, none⟩) n cap), (83, .int .i64 ((fromOf xs i : Nat) : Int)), (84, .int .i64 (i : Int)), (85, .slice (sliceA g o (fromOf xs i : Nat) cap 4) (i - (fromOf xs i : Nat)) (cap - (fromOf xs i : Nat))), (86, .slice (some ⟨g, o, none⟩) n cap), (87, .int .i64 (i : Int)), (88, .int .i64 (e : Int)), (89, .slice (sliceA g o i cap 4) (e - i) (cap - i)), (90, .bool false)] ?_
          refine cont_forget 0 rfl ?_
          refine cont_done ?_
          refine blk_normal ?_
          refine then_normal ?_
          refine cont_region 3 rfl ?_
          refine bS [0, 0] 2 1 [(0, .slice A n cap), (3, .int .i64 (i : Int)), (13, .int .i64 (IntKind.i64.wrap ((i : Int) + 1))), (33, undef), (34, undef), (35, undef), (36, undef), (37, undef), (55, .slice (some ⟨g, o, none⟩) n cap), (56, .int .i64 (e : Int)), (57, .pointer (some ⟨g, o + e * 4, none⟩)), (58, .pointer (some ⟨g, o + e * 4 + 1, none⟩)), (59, .int .i64 ((rget xs e).y0)), (60, .pointer (some ⟨b3, 1, none⟩)), (61, .int .i64 ((rget xs i).y0)), (62, .bool true), (65, .slice (some ⟨g, o, none⟩) n cap), (66, .int .i64 (e : Int)), (67, .pointer (some ⟨g, o + e * 4, none⟩)), (68, .pointer (some ⟨g, o + e * 4 + 3, none⟩)), (69, .int .i64 ((rget xs e).y1)), (70, .pointer (some ⟨b3, 3, none⟩)), (71, .int .i64 ((rget xs i).y1)), (72, .bool false), (82, .slice (some ⟨g, o, none⟩) n cap), (83, .int .i64 ((fromOf xs i : Nat) : Int)), (84, .int .i64 (i : Int)), (85, .slice (sliceA g o (fromOf xs i : Nat) cap 4) (i - (fromOf xs i : Nat)) (cap - (fromOf xs i : Nat))), (86, .slice (some ⟨g, o, none⟩) n cap), (87, .int .i64 (i : Int)), (88, .int .i64 (e : Int)), (89, .slice (sliceA g o i cap 4) (e - i) (cap - i)), (90, .bool false)] ?_
          refine cont_recast 13 (.int .i64 (IntKind.i64.wrap ((i : Int) + 1))) (.int .i64 ((i + 1 : Nat) : Int)) rfl (by rw [show (((i + 1 : Nat) : Int)) = (i : Int) + 1 by omega]; exact wrapI (by omega) (by omega)) ?_
          refine bS [0] 3 0 [(0, .slice A n cap), (3, .int .i64 (i : Int)), (4, .int .i64 ((i + 1 : Nat) : Int)), (33, undef), (34, undef), (35, undef), (36, undef), (37, undef), (55, .slice (some ⟨g, o, none⟩) n cap), (56, .int .i64 (e : Int)), (57, .pointer (some ⟨g, o + e * 4, none⟩)), (58, .pointer (some ⟨g, o + e * 4 + 1, none⟩)), (59, .int .i64 ((rget xs e).y0)), (60, .pointer (some ⟨b3, 1, none⟩)), (61, .int .i64 ((rget xs i).y0)), (62, .bool true), (65, .slice (some ⟨g, o, none⟩) n cap), (66, .int .i64 (e : Int)), (67, .pointer (some ⟨g, o + e * 4, none⟩)), (68, .pointer (some ⟨g, o + e * 4 + 3, none⟩)), (69, .int .i64 ((rget xs e).y1)), (70, .pointer (some ⟨b3, 3, none⟩)), (71, .int .i64 ((rget xs i).y1)), (72, .bool false), (82, .slice (some ⟨g, o, none⟩) n cap), (83, .int .i64 ((fromOf xs i : Nat) : Int)), (84, .int .i64 (i : Int)), (85, .slice (sliceA g o (fromOf xs i : Nat) cap 4) (i - (fromOf xs i : Nat)) (cap - (fromOf xs i : Nat))), (86, .slice (some ⟨g, o, none⟩) n cap), (87, .int .i64 (i : Int)), (88, .int .i64 (e : Int)), (89, .slice (sliceA g o i cap 4) (e - i) (cap - i)), (90, .bool false)] ?_
          refine cont_done ?_
          refine then_normal ?_
          refine cont_forget 0 rfl ?_
          have hnow_ : OkAt xs i := ⟨c4_, fun _ hs => absurd hs hnY, fun _ _ => by omega, fun _ _ _ e' hE => by rw [hE.unique hEnd]; exact c27_⟩
          have hfs_ : fromOf xs (i + 1) = i := fromOf_new (by omega) hnY
          refine cont_recast 3 (.int .i64 (i : Int)) (.int .i64 ((fromOf xs (i + 1) : Nat) : Int)) rfl (congrArg (Value.int .i64) (by rw [hfs_])) ?_
          refine cont_again (i + 1) (show (i + 1) ≤ n ∧ ∀ j, j < (i + 1) → OkAt xs j from ⟨by omega, fun j hj => by rcases Nat.lt_succ_iff_lt_or_eq.1 hj with h_ | h_; exact hok j h_; subst h_; exact hnow_⟩) (show n - (i + 1) < n - i from by omega) (by kernel_rfl) (by kernel_rfl)
        replace c26_ := ne_of_beqf c26_
        refine takes 0 [] [(6, 0), (7, 0), (8, 0), (10, 0), (11, 0), (12, 0), (9, 0), (13, 0)] 2 [13, 9, 12, 11, 10, 8, 7, 6, 5, 4, 3, 1, 2, 0] [(0, .slice A n cap), (4, .int .i64 (i : Int)), (33, undef), (34, undef), (35, undef), (36, undef), (37, undef), (55, .slice (some ⟨g, o, none⟩) n cap), (56, .int .i64 (e : Int)), (57, .pointer (some ⟨g, o + e * 4, none⟩)), (58, .pointer (some ⟨g, o + e * 4 + 1, none⟩)), (59, .int .i64 ((rget xs e).y0)), (60, .pointer (some ⟨b3, 1, none⟩)), (61, .int .i64 ((rget xs i).y0)), (62, .bool true), (65, .slice (some ⟨g, o, none⟩) n cap), (66, .int .i64 (e : Int)), (67, .pointer (some ⟨g, o + e * 4, none⟩)), (68, .pointer (some ⟨g, o + e * 4 + 3, none⟩)), (69, .int .i64 ((rget xs e).y1)), (70, .pointer (some ⟨b3, 3, none⟩)), (71, .int .i64 ((rget xs i).y1)), (72, .bool false), (81, .bool false), (82, undef), (83, undef), (84, undef), (85, undef), (86, undef), (87, undef), (88, undef), (89, undef)] (by kernel_rfl) (pok_then (pok_then (pok_blk (pok_then (pok_then (pok_blk (pok_then pok_body))))))) (by kernel_rfl) rfl rfl (by kernel_rfl) (by kernel_rfl) ?_
        refine drawn_one 14 1 rfl (by kernel_rfl) ?_
        refine one_step 0 [(0, .slice A n cap), (4, .int .i64 (i : Int)), (33, undef), (34, undef), (35, undef), (36, undef), (37, undef), (55, .slice (some ⟨g, o, none⟩) n cap), (56, .int .i64 (e : Int)), (57, .pointer (some ⟨g, o + e * 4, none⟩)), (58, .pointer (some ⟨g, o + e * 4 + 1, none⟩)), (59, .int .i64 ((rget xs e).y0)), (60, .pointer (some ⟨b3, 1, none⟩)), (61, .int .i64 ((rget xs i).y0)), (62, .bool true), (65, .slice (some ⟨g, o, none⟩) n cap), (66, .int .i64 (e : Int)), (67, .pointer (some ⟨g, o + e * 4, none⟩)), (68, .pointer (some ⟨g, o + e * 4 + 3, none⟩)), (69, .int .i64 ((rget xs e).y1)), (70, .pointer (some ⟨b3, 3, none⟩)), (71, .int .i64 ((rget xs i).y1)), (72, .bool false), (81, .bool false), (82, undef), (83, undef), (84, undef), (85, undef), (86, undef), (87, undef), (88, undef), (89, undef), (90, undef)] [.cells b6 [.int .i64 ((rget xs (i - 1 : Nat)).x0), .int .i64 ((rget xs (i - 1 : Nat)).y0), .int .i64 ((rget xs (i - 1 : Nat)).x1), .int .i64 ((rget xs (i - 1 : Nat)).y1)] 25 true, .cells b3 [.int .i64 ((rget xs i).x0), .int .i64 ((rget xs i).y0), .int .i64 ((rget xs i).x1), .int .i64 ((rget xs i).y1)] 25 true, .gen (rdE (A) g o n 4 (rvals xs))] (by kernel_rfl) (by kernel_rfl) ?_
        refine drawn_next 0 [] (by kernel_rfl) ?_
        refine takes 0 [] [(15, 0)] 0 [15, 14, 13, 9, 12, 11, 10, 8, 7, 6, 5, 4, 3, 1, 2, 0] [(0, .slice A n cap), (4, .int .i64 (i : Int)), (33, undef), (34, undef), (35, undef), (36, undef), (37, undef), (55, .slice (some ⟨g, o, none⟩) n cap), (56, .int .i64 (e : Int)), (57, .pointer (some ⟨g, o + e * 4, none⟩)), (58, .pointer (some ⟨g, o + e * 4 + 1, none⟩)), (59, .int .i64 ((rget xs e).y0)), (60, .pointer (some ⟨b3, 1, none⟩)), (61, .int .i64 ((rget xs i).y0)), (62, .bool true), (65, .slice (some ⟨g, o, none⟩) n cap), (66, .int .i64 (e : Int)), (67, .pointer (some ⟨g, o + e * 4, none⟩)), (68, .pointer (some ⟨g, o + e * 4 + 3, none⟩)), (69, .int .i64 ((rget xs e).y1)), (70, .pointer (some ⟨b3, 3, none⟩)), (71, .int .i64 ((rget xs i).y1)), (72, .bool false), (82, undef), (83, undef), (84, undef), (85, undef), (86, undef), (87, undef), (88, undef), (89, undef), (90, undef), (91, .bool false)] (by kernel_rfl) (pok_then (pok_then (pok_blk (pok_then (pok_then (pok_blk (pok_then pok_body))))))) (by kernel_rfl) rfl rfl (by kernel_rfl) (by kernel_rfl) ?_
        refine drawn_done (by kernel_rfl) ?_
        refine then_normal ?_
        refine cont_false rfl ?_
        refine cont_skip ?_
        refine then_normal ?_
        refine cont_region 2 rfl ?_
        refine bS [0, 0] 2 0 [(0, .slice A n cap), (3, .int .i64 (i : Int)), (4, .int .i64 (i : Int)), (33, undef), (34, undef), (35, undef), (36, undef), (37, undef), (55, .slice (some ⟨g, o, none⟩) n cap), (56, .int .i64 (e : Int)), (57, .pointer (some ⟨g, o + e * 4, none⟩)), (58, .pointer (some ⟨g, o + e * 4 + 1, none⟩)), (59, .int .i64 ((rget xs e).y0)), (60, .pointer (some ⟨b3, 1, none⟩)), (61, .int .i64 ((rget xs i).y0)), (62, .bool true), (65, .slice (some ⟨g, o, none⟩) n cap), (66, .int .i64 (e : Int)), (67, .pointer (some ⟨g, o + e * 4, none⟩)), (68, .pointer (some ⟨g, o + e * 4 + 3, none⟩)), (69, .int .i64 ((rget xs e).y1)), (70, .pointer (some ⟨b3, 3, none⟩)), (71, .int .i64 ((rget xs i).y1)), (72, .bool false), (82, undef), (83, undef), (84, undef), (85, undef), (86, undef), (87, undef), (88, undef), (89, undef), (90, undef)] ?_
        refine cont_forget 0 rfl ?_
        refine cont_done ?_
        refine blk_normal ?_
        refine then_normal ?_
        refine cont_region 3 rfl ?_
        refine bS [0, 0] 2 1 [(0, .slice A n cap), (3, .int .i64 (i : Int)), (13, .int .i64 (IntKind.i64.wrap ((i : Int) + 1))), (33, undef), (34, undef), (35, undef), (36, undef), (37, undef), (55, .slice (some ⟨g, o, none⟩) n cap), (56, .int .i64 (e : Int)), (57, .pointer (some ⟨g, o + e * 4, none⟩)), (58, .pointer (some ⟨g, o + e * 4 + 1, none⟩)), (59, .int .i64 ((rget xs e).y0)), (60, .pointer (some ⟨b3, 1, none⟩)), (61, .int .i64 ((rget xs i).y0)), (62, .bool true), (65, .slice (some ⟨g, o, none⟩) n cap), (66, .int .i64 (e : Int)), (67, .pointer (some ⟨g, o + e * 4, none⟩)), (68, .pointer (some ⟨g, o + e * 4 + 3, none⟩)), (69, .int .i64 ((rget xs e).y1)), (70, .pointer (some ⟨b3, 3, none⟩)), (71, .int .i64 ((rget xs i).y1)), (72, .bool false), (82, undef), (83, undef), (84, undef), (85, undef), (86, undef), (87, undef), (88, undef), (89, undef), (90, undef)] ?_
        refine cont_recast 13 (.int .i64 (IntKind.i64.wrap ((i : Int) + 1))) (.int .i64 ((i + 1 : Nat) : Int)) rfl (by rw [show (((i + 1 : Nat) : Int)) = (i : Int) + 1 by omega]; exact wrapI (by omega) (by omega)) ?_
        refine bS [0] 3 0 [(0, .slice A n cap), (3, .int .i64 (i : Int)), (4, .int .i64 ((i + 1 : Nat) : Int)), (33, undef), (34, undef), (35, undef), (36, undef), (37, undef), (55, .slice (some ⟨g, o, none⟩) n cap), (56, .int .i64 (e : Int)), (57, .pointer (some ⟨g, o + e * 4, none⟩)), (58, .pointer (some ⟨g, o + e * 4 + 1, none⟩)), (59, .int .i64 ((rget xs e).y0)), (60, .pointer (some ⟨b3, 1, none⟩)), (61, .int .i64 ((rget xs i).y0)), (62, .bool true), (65, .slice (some ⟨g, o, none⟩) n cap), (66, .int .i64 (e : Int)), (67, .pointer (some ⟨g, o + e * 4, none⟩)), (68, .pointer (some ⟨g, o + e * 4 + 3, none⟩)), (69, .int .i64 ((rget xs e).y1)), (70, .pointer (some ⟨b3, 3, none⟩)), (71, .int .i64 ((rget xs i).y1)), (72, .bool false), (82, undef), (83, undef), (84, undef), (85, undef), (86, undef), (87, undef), (88, undef), (89, undef), (90, undef)] ?_
        refine cont_done ?_
        refine then_normal ?_
        refine cont_forget 0 rfl ?_
        have hnow_ : OkAt xs i := ⟨c4_, fun _ hs => absurd hs hnY, fun _ _ => by omega, fun _ _ ht => absurd ht c26_⟩
        have hfs_ : fromOf xs (i + 1) = i := fromOf_new (by omega) hnY
        refine cont_recast 3 (.int .i64 (i : Int)) (.int .i64 ((fromOf xs (i + 1) : Nat) : Int)) rfl (congrArg (Value.int .i64) (by rw [hfs_])) ?_
        refine cont_again (i + 1) (show (i + 1) ≤ n ∧ ∀ j, j < (i + 1) → OkAt xs j from ⟨by omega, fun j hj => by rcases Nat.lt_succ_iff_lt_or_eq.1 hj with h_ | h_; exact hok j h_; subst h_; exact hnow_⟩) (show n - (i + 1) < n - i from by omega) (by kernel_rfl) (by kernel_rfl)
      refine cont_recast 62 (.bool (((rget xs e).y0) == ((rget xs i).y0))) (.bool false) rfl (congrArg Value.bool c24_) ?_
      replace c24_ := ne_of_beqf c24_
      refine takes 0 [] [(15, 0), (16, 0), (20, 0), (17, 0), (21, 0), (18, 0), (19, 0), (22, 0), (23, 0)] 0 [23, 22, 19, 18, 21, 17, 20, 16, 15, 14, 13, 12, 9, 11, 8, 7, 10, 6, 5, 4, 3, 2, 1, 0] [(0, .slice A n cap), (3, .int .i64 ((fromOf xs i : Nat) : Int)), (4, .int .i64 (i : Int)), (5, .pointer (some ⟨b3, 0, none⟩)), (6, .pointer (some ⟨b6, 0, none⟩)), (7, .int .i64 (e : Int)), (33, undef), (34, undef), (35, undef), (36, undef), (37, undef), (55, .slice (some ⟨g, o, none⟩) n cap), (56, .int .i64 (e : Int)), (57, .pointer (some ⟨g, o + e * 4, none⟩)), (58, .pointer (some ⟨g, o + e * 4 + 1, none⟩)), (59, .int .i64 ((rget xs e).y0)), (60, .pointer (some ⟨b3, 1, none⟩)), (61, .int .i64 ((rget xs i).y0)), (62, .bool false), (65, undef), (66, undef), (67, undef), (68, undef), (69, undef), (70, undef), (71, undef), (72, undef), (73, .bool false)] (by kernel_rfl) (pok_then (pok_then (pok_then (pok_blk (pok_then (pok_blk (pok_then (pok_then (pok_blk (pok_then pok_body)))))))))) (by kernel_rfl) rfl rfl (by kernel_rfl) (by kernel_rfl) ?_
      refine drawn_done (by kernel_rfl) ?_
      refine then_normal ?_
      refine cont_false rfl ?_
      refine cont_exit ?_
      refine then_exit ?_
      refine then_exit ?_
      refine blk_exit ?_
      refine then_normal ?_
      refine cont_seq ?_
      refine cont_seq ?_
      have hEnd : EndOf xs i e := endOf_mk (by omega) hie (by omega) hsm (fun _ hs => c24_ hs.1)
      refine drawn_enter 16 [] rfl (by kernel_rfl) ?_
      refine takes 0 [] [(0, 0), (2, 0), (1, 0), (3, 1), (4, 0), (5, 0)] 10 [5, 4, 3, 1, 2, 0] [(0, .slice A n cap), (3, .int .i64 ((fromOf xs i : Nat) : Int)), (4, .int .i64 (i : Int)), (7, .int .i64 (e : Int)), (33, undef), (34, undef), (35, undef), (36, undef), (37, undef), (55, .slice (some ⟨g, o, none⟩) n cap), (56, .int .i64 (e : Int)), (57, .pointer (some ⟨g, o + e * 4, none⟩)), (58, .pointer (some ⟨g, o + e * 4 + 1, none⟩)), (59, .int .i64 ((rget xs e).y0)), (60, .pointer (some ⟨b3, 1, none⟩)), (61, .int .i64 ((rget xs i).y0)), (62, .bool false), (65, undef), (66, undef), (67, undef), (68, undef), (69, undef), (70, undef), (71, undef), (72, undef), (81, .bool (((rget xs (i - 1 : Nat)).y1) == ((rget xs i).y0)))] (by kernel_rfl) (pok_then (pok_then (pok_blk (pok_then (pok_then (pok_blk (pok_then pok_body))))))) (by kernel_rfl) rfl rfl (by kernel_rfl) (by kernel_rfl) ?_
      refine cont_split 81 (((rget xs (i - 1 : Nat)).y1) == ((rget xs i).y0)) rfl (fun c28_ => ?_) (fun c28_ => ?_)
      ·
        replace c28_ := eq_of_beqt c28_
        refine takes 0 [] [(6, 0), (7, 0), (8, 0), (10, 0), (11, 0), (12, 0)] 4 [12, 11, 10, 8, 7, 6, 5, 4, 3, 1, 2, 0] [(0, .slice A n cap), (4, .int .i64 (i : Int)), (33, undef), (34, undef), (35, undef), (36, undef), (37, undef), (55, .slice (some ⟨g, o, none⟩) n cap), (56, .int .i64 (e : Int)), (57, .pointer (some ⟨g, o + e * 4, none⟩)), (58, .pointer (some ⟨g, o + e * 4 + 1, none⟩)), (59, .int .i64 ((rget xs e).y0)), (60, .pointer (some ⟨b3, 1, none⟩)), (61, .int .i64 ((rget xs i).y0)), (62, .bool false), (65, undef), (66, undef), (67, undef), (68, undef), (69, undef), (70, undef), (71, undef), (72, undef), (81, .bool true), (82, .slice A n cap), (83, .int .i64 ((fromOf xs i : Nat) : Int)), (84, .int .i64 (i : Int)), (86, .slice A n cap), (87, .int .i64 (i : Int)), (88, .int .i64 (e : Int))] (by kernel_rfl) (pok_then (pok_then (pok_blk (pok_then (pok_then (pok_blk (pok_then pok_body))))))) (by kernel_rfl) rfl rfl (by kernel_rfl) (by kernel_rfl) ?_
        refine cont_recast 82 (.slice A n cap) (.slice (some ⟨g, o, none⟩) n cap) rfl (by rw [hra (by omega)]) ?_
        refine sem_take 0 [] 9 3 85 (Instr.sliceAt 22 (.slice (some ⟨g, o, none⟩) n cap) (some (.int .i64 ((fromOf xs i : Nat) : Int))) (some (.int .i64 (i : Int))) none) (.slice (sliceA g o (fromOf xs i : Nat) cap 4) (i - (fromOf xs i : Nat)) (cap - (fromOf xs i : Nat))) (by kernel_rfl) (pok_then (pok_then (pok_blk (pok_then (pok_then (pok_blk (pok_then pok_body))))))) (by kernel_rfl) rfl (by kernel_rfl) (by kernel_rfl) (fun w hT => run_slice2 (e := 25) (sz := 4) _ _ (by kernel_rfl) (by kernel_rfl) (by omega) (by omega) (by omega) (by omega) (by omega) w) ?_
        refine cont_recast 86 (.slice A n cap) (.slice (some ⟨g, o, none⟩) n cap) rfl (by rw [hra (by omega)]) ?_
        refine sem_take 0 [] 13 2 89 (Instr.sliceAt 22 (.slice (some ⟨g, o, none⟩) n cap) (some (.int .i64 (i : Int))) (some (.int .i64 (e : Int))) none) (.slice (sliceA g o i cap 4) (e - i) (cap - i)) (by kernel_rfl) (pok_then (pok_then (pok_blk (pok_then (pok_then (pok_blk (pok_then pok_body))))))) (by kernel_rfl) rfl (by kernel_rfl) (by kernel_rfl) (fun w hT => run_slice2 (e := 25) (sz := 4) _ _ (by kernel_rfl) (by kernel_rfl) (by omega) (by omega) (by omega) (by omega) (by omega) w) ?_
        refine drawn_one 14 1 rfl (by kernel_rfl) ?_
        refine call_pure (d := 90) (.bool (eqF span1 ((xs.drop (fromOf xs i : Nat)).take (i - (fromOf xs i : Nat))) ((xs.drop i).take (e - i)))) (by kernel_rfl) (fun w hT => refSpans (sliceA g o (fromOf xs i : Nat) cap 4) g (o + (fromOf xs i : Nat) * 4) (i - (fromOf xs i : Nat)) (cap - (fromOf xs i : Nat)) ((xs.drop (fromOf xs i : Nat)).take (i - (fromOf xs i : Nat))) (sliceA g o i cap 4) g (o + i * 4) (e - i) (cap - i) ((xs.drop i).take (e - i)) w (hT.viewRo (.cons (i := 2) rfl (Vw.rdSubR (by omega) (by omega)) (.cons (i := 2) rfl (Vw.rdSubR (by omega) (by omega)) .nil)) rfl) (by omega)) ?_
        refine drawn_next 0 [] (by kernel_rfl) ?_
        refine takes 0 [] [(15, 0)] 0 [15, 14, 13, 9, 12, 11, 10, 8, 7, 6, 5, 4, 3, 1, 2, 0] [(0, .slice A n cap), (4, .int .i64 (i : Int)), (33, undef), (34, undef), (35, undef), (36, undef), (37, undef), (55, .slice (some ⟨g, o, none⟩) n cap), (56, .int .i64 (e : Int)), (57, .pointer (some ⟨g, o + e * 4, none⟩)), (58, .pointer (some ⟨g, o + e * 4 + 1, none⟩)), (59, .int .i64 ((rget xs e).y0)), (60, .pointer (some ⟨b3, 1, none⟩)), (61, .int .i64 ((rget xs i).y0)), (62, .bool false), (65, undef), (66, undef), (67, undef), (68, undef), (69, undef), (70, undef), (71, undef), (72, undef), (82, .slice (some ⟨g, o, none⟩) n cap), (83, .int .i64 ((fromOf xs i : Nat) : Int)), (84, .int .i64 (i : Int)), (85, .slice (sliceA g o (fromOf xs i : Nat) cap 4) (i - (fromOf xs i : Nat)) (cap - (fromOf xs i : Nat))), (86, .slice (some ⟨g, o, none⟩) n cap), (87, .int .i64 (i : Int)), (88, .int .i64 (e : Int)), (89, .slice (sliceA g o i cap 4) (e - i) (cap - i)), (90, .bool (eqF span1 ((xs.drop (fromOf xs i : Nat)).take (i - (fromOf xs i : Nat))) ((xs.drop i).take (e - i)))), (91, .bool (eqF span1 ((xs.drop (fromOf xs i : Nat)).take (i - (fromOf xs i : Nat))) ((xs.drop i).take (e - i))))] (by kernel_rfl) (pok_then (pok_then (pok_blk (pok_then (pok_then (pok_blk (pok_then pok_body))))))) (by kernel_rfl) rfl rfl (by kernel_rfl) (by kernel_rfl) ?_
        refine drawn_done (by kernel_rfl) ?_
        refine then_normal ?_
        refine cont_split 91 (eqF span1 ((xs.drop (fromOf xs i : Nat)).take (i - (fromOf xs i : Nat))) ((xs.drop i).take (e - i))) rfl (fun c29_ => ?_) (fun c29_ => ?_)
        ·
          refine cont_recast 90 (.bool (eqF span1 ((xs.drop (fromOf xs i : Nat)).take (i - (fromOf xs i : Nat))) ((xs.drop i).take (e - i)))) (.bool true) rfl (congrArg Value.bool c29_) ?_
          refine cont_true rfl ?_
          refine cont_seq ?_
          refine cont_region 1 rfl ?_
          refine bS [0] 1 0 [(2, .bool false)] ?_
          refine cont_forget 0 rfl ?_
          refine cont_forget 0 rfl ?_
          refine cont_done ?_
          refine then_normal ?_
          refine cont_ret ?_
          refine then_ret ?_
          refine blk_ret ?_
          refine then_ret ?_
          refine then_ret ?_
          refine blk_ret ?_
          refine then_ret ?_
          refine ret_one (.inl rfl) rfl 0 (.bool false) (by kernel_rfl) (by kernel_rfl) (fun w hT => ?_)
          refine ⟨ret_bool (may_no (i := i) (by omega) (fun ok_ => ?_)).symm, hT.post rfl⟩
          first
          | (have e_ := ok_.ne; rw [show emptyR (rget xs i) = true from ‹emptyB _ _ _ _ = true›] at e_; cases e_)
          | (have e_ := ok_.on (by omega) (by assumption); omega)
          | (have e_ := ok_.next (by omega) (by assumption); omega)
          | (have e_ := ok_.apart (by omega) (by assumption) (by assumption) e hEnd; exact absurd (show (true : Bool) = false from (Eq.symm ‹eqF span1 _ _ = true›).trans e_) (by decide))
        refine cont_recast 90 (.bool (eqF span1 ((xs.drop (fromOf xs i : Nat)).take (i - (fromOf xs i : Nat))) ((xs.drop i).take (e - i)))) (.bool false) rfl (congrArg Value.bool c29_) ?_
        refine cont_false rfl ?_
        refine cont_skip ?_
        refine then_normal ?_
        refine cont_region 2 rfl ?_
        refine bS [0, 0] 2 0 [(0, .slice A n cap), (3, .int .i64 (i : Int)), (4, .int .i64 (i : Int)), (33, undef), (34, undef), (35, undef), (36, undef), (37, undef), (55, .slice (some ⟨g, o, none⟩) n cap), (56, .int .i64 (e : Int)), (57, .pointer (some ⟨g, o + e * 4, none⟩)), (58, .pointer (some ⟨g, o + e * 4 + 1, none⟩)), (59, .int .i64 ((rget xs e).y0)), (60, .pointer (some ⟨b3, 1, none⟩)), (61, .int .i64 ((rget xs i).y0)), (62, .bool false), (65, undef), (66, undef), (67, undef), (68, undef), (69, undef), (70, undef), (71, undef), (72, undef), (82, .slice (some ⟨g, o, none⟩) n cap), (83, .int .i64 ((fromOf xs i : Nat) : Int)), (84, .int .i64 (i : Int)), (85, .slice (sliceA g o (fromOf xs i : Nat) cap 4) (i - (fromOf xs i : Nat)) (cap - (fromOf xs i : Nat))), (86, .slice (some ⟨g, o, none⟩) n cap), (87, .int .i64 (i : Int)), (88, .int .i64 (e : Int)), (89, .slice (sliceA g o i cap 4) (e - i) (cap - i)), (90, .bool false)] ?_
        refine cont_forget 0 rfl ?_
        refine cont_done ?_
        refine blk_normal ?_
        refine then_normal ?_
        refine cont_region 3 rfl ?_
        refine bS [0, 0] 2 1 [(0, .slice A n cap), (3, .int .i64 (i : Int)), (13, .int .i64 (IntKind.i64.wrap ((i : Int) + 1))), (33, undef), (34, undef), (35, undef), (36, undef), (37, undef), (55, .slice (some ⟨g, o, none⟩) n cap), (56, .int .i64 (e : Int)), (57, .pointer (some ⟨g, o + e * 4, none⟩)), (58, .pointer (some ⟨g, o + e * 4 + 1, none⟩)), (59, .int .i64 ((rget xs e).y0)), (60, .pointer (some ⟨b3, 1, none⟩)), (61, .int .i64 ((rget xs i).y0)), (62, .bool false), (65, undef), (66, undef), (67, undef), (68, undef), (69, undef), (70, undef), (71, undef), (72, undef), (82, .slice (some ⟨g, o, none⟩) n cap), (83, .int .i64 ((fromOf xs i : Nat) : Int)), (84, .int .i64 (i : Int)), (85, .slice (sliceA g o (fromOf xs i : Nat) cap 4) (i - (fromOf xs i : Nat)) (cap - (fromOf xs i : Nat))), (86, .slice (some ⟨g, o, none⟩) n cap), (87, .int .i64 (i : Int)), (88, .int .i64 (e : Int)), (89, .slice (sliceA g o i cap 4) (e - i) (cap - i)), (90, .bool false)] ?_
        refine cont_recast 13 (.int .i64 (IntKind.i64.wrap ((i : Int) + 1))) (.int .i64 ((i + 1 : Nat) : Int)) rfl (by rw [show (((i + 1 : Nat) : Int)) = (i : Int) + 1 by omega]; exact wrapI (by omega) (by omega)) ?_
        refine bS [0] 3 0 [(0, .slice A n cap), (3, .int .i64 (i : Int)), (4, .int .i64 ((i + 1 : Nat) : Int)), (33, undef), (34, undef), (35, undef), (36, undef), (37, undef), (55, .slice (some ⟨g, o, none⟩) n cap), (56, .int .i64 (e : Int)), (57, .pointer (some ⟨g, o + e * 4, none⟩)), (58, .pointer (some ⟨g, o + e * 4 + 1, none⟩)), (59, .int .i64 ((rget xs e).y0)), (60, .pointer (some ⟨b3, 1, none⟩)), (61, .int .i64 ((rget xs i).y0)), (62, .bool false), (65, undef), (66, undef), (67, undef), (68, undef), (69, undef), (70, undef), (71, undef), (72, undef), (82, .slice (some ⟨g, o, none⟩) n cap), (83, .int .i64 ((fromOf xs i : Nat) : Int)), (84, .int .i64 (i : Int)), (85, .slice (sliceA g o (fromOf xs i : Nat) cap 4) (i - (fromOf xs i : Nat)) (cap - (fromOf xs i : Nat))), (86, .slice (some ⟨g, o, none⟩) n cap), (87, .int .i64 (i : Int)), (88, .int .i64 (e : Int)), (89, .slice (sliceA g o i cap 4) (e - i) (cap - i)), (90, .bool false)] ?_
        refine cont_done ?_
        refine then_normal ?_
        refine cont_forget 0 rfl ?_
        have hnow_ : OkAt xs i := ⟨c4_, fun _ hs => absurd hs hnY, fun _ _ => by omega, fun _ _ _ e' hE => by rw [hE.unique hEnd]; exact c29_⟩
        have hfs_ : fromOf xs (i + 1) = i := fromOf_new (by omega) hnY
        refine cont_recast 3 (.int .i64 (i : Int)) (.int .i64 ((fromOf xs (i + 1) : Nat) : Int)) rfl (congrArg (Value.int .i64) (by rw [hfs_])) ?_
        refine cont_again (i + 1) (show (i + 1) ≤ n ∧ ∀ j, j < (i + 1) → OkAt xs j from ⟨by omega, fun j hj => by rcases Nat.lt_succ_iff_lt_or_eq.1 hj with h_ | h_; exact hok j h_; subst h_; exact hnow_⟩) (show n - (i + 1) < n - i from by omega) (by kernel_rfl) (by kernel_rfl)
      replace c28_ := ne_of_beqf c28_
      refine takes 0 [] [(6, 0), (7, 0), (8, 0), (10, 0), (11, 0), (12, 0), (9, 0), (13, 0)] 2 [13, 9, 12, 11, 10, 8, 7, 6, 5, 4, 3, 1, 2, 0] [(0, .slice A n cap), (4, .int .i64 (i : Int)), (33, undef), (34, undef), (35, undef), (36, undef), (37, undef), (55, .slice (some ⟨g, o, none⟩) n cap), (56, .int .i64 (e : Int)), (57, .pointer (some ⟨g, o + e * 4, none⟩)), (58, .pointer (some ⟨g, o + e * 4 + 1, none⟩)), (59, .int .i64 ((rget xs e).y0)), (60, .pointer (some ⟨b3, 1, none⟩)), (61, .int .i64 ((rget xs i).y0)), (62, .bool false), (65, undef), (66, undef), (67, undef), (68, undef), (69, undef), (70, undef), (71, undef), (72, undef), (81, .bool false), (82, undef), (83, undef), (84, undef), (85, undef), (86, undef), (87, undef), (88, undef), (89, undef)] (by kernel_rfl) (pok_then (pok_then (pok_blk (pok_then (pok_then (pok_blk (pok_then pok_body))))))) (by kernel_rfl) rfl rfl (by kernel_rfl) (by kernel_rfl) ?_
      refine drawn_one 14 1 rfl (by kernel_rfl) ?_
      refine one_step 0 [(0, .slice A n cap), (4, .int .i64 (i : Int)), (33, undef), (34, undef), (35, undef), (36, undef), (37, undef), (55, .slice (some ⟨g, o, none⟩) n cap), (56, .int .i64 (e : Int)), (57, .pointer (some ⟨g, o + e * 4, none⟩)), (58, .pointer (some ⟨g, o + e * 4 + 1, none⟩)), (59, .int .i64 ((rget xs e).y0)), (60, .pointer (some ⟨b3, 1, none⟩)), (61, .int .i64 ((rget xs i).y0)), (62, .bool false), (65, undef), (66, undef), (67, undef), (68, undef), (69, undef), (70, undef), (71, undef), (72, undef), (81, .bool false), (82, undef), (83, undef), (84, undef), (85, undef), (86, undef), (87, undef), (88, undef), (89, undef), (90, undef)] [.cells b6 [.int .i64 ((rget xs (i - 1 : Nat)).x0), .int .i64 ((rget xs (i - 1 : Nat)).y0), .int .i64 ((rget xs (i - 1 : Nat)).x1), .int .i64 ((rget xs (i - 1 : Nat)).y1)] 25 true, .cells b3 [.int .i64 ((rget xs i).x0), .int .i64 ((rget xs i).y0), .int .i64 ((rget xs i).x1), .int .i64 ((rget xs i).y1)] 25 true, .gen (rdE (A) g o n 4 (rvals xs))] (by kernel_rfl) (by kernel_rfl) ?_
      refine drawn_next 0 [] (by kernel_rfl) ?_
      refine takes 0 [] [(15, 0)] 0 [15, 14, 13, 9, 12, 11, 10, 8, 7, 6, 5, 4, 3, 1, 2, 0] [(0, .slice A n cap), (4, .int .i64 (i : Int)), (33, undef), (34, undef), (35, undef), (36, undef), (37, undef), (55, .slice (some ⟨g, o, none⟩) n cap), (56, .int .i64 (e : Int)), (57, .pointer (some ⟨g, o + e * 4, none⟩)), (58, .pointer (some ⟨g, o + e * 4 + 1, none⟩)), (59, .int .i64 ((rget xs e).y0)), (60, .pointer (some ⟨b3, 1, none⟩)), (61, .int .i64 ((rget xs i).y0)), (62, .bool false), (65, undef), (66, undef), (67, undef), (68, undef), (69, undef), (70, undef), (71, undef), (72, undef), (82, undef), (83, undef), (84, undef), (85, undef), (86, undef), (87, undef), (88, undef), (89, undef), (90, undef), (91, .bool false)] (by kernel_rfl) (pok_then (pok_then (pok_blk (pok_then (pok_then (pok_blk (pok_then pok_body))))))) (by kernel_rfl) rfl rfl (by kernel_rfl) (by kernel_rfl) ?_
      refine drawn_done (by kernel_rfl) ?_
      refine then_normal ?_
      refine cont_false rfl ?_
      refine cont_skip ?_
      refine then_normal ?_
      refine cont_region 2 rfl ?_
      refine bS [0, 0] 2 0 [(0, .slice A n cap), (3, .int .i64 (i : Int)), (4, .int .i64 (i : Int)), (33, undef), (34, undef), (35, undef), (36, undef), (37, undef), (55, .slice (some ⟨g, o, none⟩) n cap), (56, .int .i64 (e : Int)), (57, .pointer (some ⟨g, o + e * 4, none⟩)), (58, .pointer (some ⟨g, o + e * 4 + 1, none⟩)), (59, .int .i64 ((rget xs e).y0)), (60, .pointer (some ⟨b3, 1, none⟩)), (61, .int .i64 ((rget xs i).y0)), (62, .bool false), (65, undef), (66, undef), (67, undef), (68, undef), (69, undef), (70, undef), (71, undef), (72, undef), (82, undef), (83, undef), (84, undef), (85, undef), (86, undef), (87, undef), (88, undef), (89, undef), (90, undef)] ?_
      refine cont_forget 0 rfl ?_
      refine cont_done ?_
      refine blk_normal ?_
      refine then_normal ?_
      refine cont_region 3 rfl ?_
      refine bS [0, 0] 2 1 [(0, .slice A n cap), (3, .int .i64 (i : Int)), (13, .int .i64 (IntKind.i64.wrap ((i : Int) + 1))), (33, undef), (34, undef), (35, undef), (36, undef), (37, undef), (55, .slice (some ⟨g, o, none⟩) n cap), (56, .int .i64 (e : Int)), (57, .pointer (some ⟨g, o + e * 4, none⟩)), (58, .pointer (some ⟨g, o + e * 4 + 1, none⟩)), (59, .int .i64 ((rget xs e).y0)), (60, .pointer (some ⟨b3, 1, none⟩)), (61, .int .i64 ((rget xs i).y0)), (62, .bool false), (65, undef), (66, undef), (67, undef), (68, undef), (69, undef), (70, undef), (71, undef), (72, undef), (82, undef), (83, undef), (84, undef), (85, undef), (86, undef), (87, undef), (88, undef), (89, undef), (90, undef)] ?_
      refine cont_recast 13 (.int .i64 (IntKind.i64.wrap ((i : Int) + 1))) (.int .i64 ((i + 1 : Nat) : Int)) rfl (by rw [show (((i + 1 : Nat) : Int)) = (i : Int) + 1 by omega]; exact wrapI (by omega) (by omega)) ?_
      refine bS [0] 3 0 [(0, .slice A n cap), (3, .int .i64 (i : Int)), (4, .int .i64 ((i + 1 : Nat) : Int)), (33, undef), (34, undef), (35, undef), (36, undef), (37, undef), (55, .slice (some ⟨g, o, none⟩) n cap), (56, .int .i64 (e : Int)), (57, .pointer (some ⟨g, o + e * 4, none⟩)), (58, .pointer (some ⟨g, o + e * 4 + 1, none⟩)), (59, .int .i64 ((rget xs e).y0)), (60, .pointer (some ⟨b3, 1, none⟩)), (61, .int .i64 ((rget xs i).y0)), (62, .bool false), (65, undef), (66, undef), (67, undef), (68, undef), (69, undef), (70, undef), (71, undef), (72, undef), (82, undef), (83, undef), (84, undef), (85, undef), (86, undef), (87, undef), (88, undef), (89, undef), (90, undef)] ?_
      refine cont_done ?_
      refine then_normal ?_
      refine cont_forget 0 rfl ?_
      have hnow_ : OkAt xs i := ⟨c4_, fun _ hs => absurd hs hnY, fun _ _ => by omega, fun _ _ ht => absurd ht c28_⟩
      have hfs_ : fromOf xs (i + 1) = i := fromOf_new (by omega) hnY
      refine cont_recast 3 (.int .i64 (i : Int)) (.int .i64 ((fromOf xs (i + 1) : Nat) : Int)) rfl (congrArg (Value.int .i64) (by rw [hfs_])) ?_
      refine cont_again (i + 1) (show (i + 1) ≤ n ∧ ∀ j, j < (i + 1) → OkAt xs j from ⟨by omega, fun j hj => by rcases Nat.lt_succ_iff_lt_or_eq.1 hj with h_ | h_; exact hok j h_; subst h_; exact hnow_⟩) (show n - (i + 1) < n - i from by omega) (by kernel_rfl) (by kernel_rfl)
    replace c23_ := of_decide_eq_false c23_
    refine takes 0 [] [(5, 0), (6, 0), (10, 0), (7, 0), (11, 0), (8, 0), (9, 0), (12, 0), (13, 0), (14, 0), (15, 0), (16, 0), (20, 0), (17, 0), (21, 0), (18, 0), (19, 0), (22, 0), (23, 0)] 0 [23, 22, 19, 18, 21, 17, 20, 16, 15, 14, 13, 12, 9, 8, 11, 7, 10, 6, 5, 4, 3, 2, 1, 0] [(0, .slice A n cap), (3, .int .i64 ((fromOf xs i : Nat) : Int)), (4, .int .i64 (i : Int)), (5, .pointer (some ⟨b3, 0, none⟩)), (6, .pointer (some ⟨b6, 0, none⟩)), (7, .int .i64 (e : Int)), (33, undef), (34, undef), (35, undef), (36, undef), (37, undef), (55, undef), (56, undef), (57, undef), (58, undef), (59, undef), (60, undef), (61, undef), (62, undef), (65, undef), (66, undef), (67, undef), (68, undef), (69, undef), (70, undef), (71, undef), (72, undef), (73, .bool false)] (by kernel_rfl) (pok_then (pok_then (pok_then (pok_blk (pok_then (pok_blk (pok_then (pok_then (pok_blk (pok_then pok_body)))))))))) (by kernel_rfl) rfl rfl (by kernel_rfl) (by kernel_rfl) ?_
    refine drawn_done (by kernel_rfl) ?_
    refine then_normal ?_
    refine cont_false rfl ?_
    refine cont_exit ?_
    refine then_exit ?_
    refine then_exit ?_
    refine blk_exit ?_
    refine then_normal ?_
    refine cont_seq ?_
    refine cont_seq ?_
    have hEnd : EndOf xs i e := endOf_mk (by omega) hie (by omega) hsm (fun h_ => by omega)
    refine drawn_enter 16 [] rfl (by kernel_rfl) ?_
    refine takes 0 [] [(0, 0), (2, 0), (1, 0), (3, 1), (4, 0), (5, 0)] 10 [5, 4, 3, 1, 2, 0] [(0, .slice A n cap), (3, .int .i64 ((fromOf xs i : Nat) : Int)), (4, .int .i64 (i : Int)), (7, .int .i64 (e : Int)), (33, undef), (34, undef), (35, undef), (36, undef), (37, undef), (55, undef), (56, undef), (57, undef), (58, undef), (59, undef), (60, undef), (61, undef), (62, undef), (65, undef), (66, undef), (67, undef), (68, undef), (69, undef), (70, undef), (71, undef), (72, undef), (81, .bool (((rget xs (i - 1 : Nat)).y1) == ((rget xs i).y0)))] (by kernel_rfl) (pok_then (pok_then (pok_blk (pok_then (pok_then (pok_blk (pok_then pok_body))))))) (by kernel_rfl) rfl rfl (by kernel_rfl) (by kernel_rfl) ?_
    refine cont_split 81 (((rget xs (i - 1 : Nat)).y1) == ((rget xs i).y0)) rfl (fun c30_ => ?_) (fun c30_ => ?_)
    ·
      replace c30_ := eq_of_beqt c30_
      refine takes 0 [] [(6, 0), (7, 0), (8, 0), (10, 0), (11, 0), (12, 0)] 4 [12, 11, 10, 8, 7, 6, 5, 4, 3, 1, 2, 0] [(0, .slice A n cap), (4, .int .i64 (i : Int)), (33, undef), (34, undef), (35, undef), (36, undef), (37, undef), (55, undef), (56, undef), (57, undef), (58, undef), (59, undef), (60, undef), (61, undef), (62, undef), (65, undef), (66, undef), (67, undef), (68, undef), (69, undef), (70, undef), (71, undef), (72, undef), (81, .bool true), (82, .slice A n cap), (83, .int .i64 ((fromOf xs i : Nat) : Int)), (84, .int .i64 (i : Int)), (86, .slice A n cap), (87, .int .i64 (i : Int)), (88, .int .i64 (e : Int))] (by kernel_rfl) (pok_then (pok_then (pok_blk (pok_then (pok_then (pok_blk (pok_then pok_body))))))) (by kernel_rfl) rfl rfl (by kernel_rfl) (by kernel_rfl) ?_
      refine cont_recast 82 (.slice A n cap) (.slice (some ⟨g, o, none⟩) n cap) rfl (by rw [hra (by omega)]) ?_
      refine sem_take 0 [] 9 3 85 (Instr.sliceAt 22 (.slice (some ⟨g, o, none⟩) n cap) (some (.int .i64 ((fromOf xs i : Nat) : Int))) (some (.int .i64 (i : Int))) none) (.slice (sliceA g o (fromOf xs i : Nat) cap 4) (i - (fromOf xs i : Nat)) (cap - (fromOf xs i : Nat))) (by kernel_rfl) (pok_then (pok_then (pok_blk (pok_then (pok_then (pok_blk (pok_then pok_body))))))) (by kernel_rfl) rfl (by kernel_rfl) (by kernel_rfl) (fun w hT => run_slice2 (e := 25) (sz := 4) _ _ (by kernel_rfl) (by kernel_rfl) (by omega) (by omega) (by omega) (by omega) (by omega) w) ?_
      refine cont_recast 86 (.slice A n cap) (.slice (some ⟨g, o, none⟩) n cap) rfl (by rw [hra (by omega)]) ?_
      refine sem_take 0 [] 13 2 89 (Instr.sliceAt 22 (.slice (some ⟨g, o, none⟩) n cap) (some (.int .i64 (i : Int))) (some (.int .i64 (e : Int))) none) (.slice (sliceA g o i cap 4) (e - i) (cap - i)) (by kernel_rfl) (pok_then (pok_then (pok_blk (pok_then (pok_then (pok_blk (pok_then pok_body))))))) (by kernel_rfl) rfl (by kernel_rfl) (by kernel_rfl) (fun w hT => run_slice2 (e := 25) (sz := 4) _ _ (by kernel_rfl) (by kernel_rfl) (by omega) (by omega) (by omega) (by omega) (by omega) w) ?_
      refine drawn_one 14 1 rfl (by kernel_rfl) ?_
      refine call_pure (d := 90) (.bool (eqF span1 ((xs.drop (fromOf xs i : Nat)).take (i - (fromOf xs i : Nat))) ((xs.drop i).take (e - i)))) (by kernel_rfl) (fun w hT => refSpans (sliceA g o (fromOf xs i : Nat) cap 4) g (o + (fromOf xs i : Nat) * 4) (i - (fromOf xs i : Nat)) (cap - (fromOf xs i : Nat)) ((xs.drop (fromOf xs i : Nat)).take (i - (fromOf xs i : Nat))) (sliceA g o i cap 4) g (o + i * 4) (e - i) (cap - i) ((xs.drop i).take (e - i)) w (hT.viewRo (.cons (i := 2) rfl (Vw.rdSubR (by omega) (by omega)) (.cons (i := 2) rfl (Vw.rdSubR (by omega) (by omega)) .nil)) rfl) (by omega)) ?_
      refine drawn_next 0 [] (by kernel_rfl) ?_
      refine takes 0 [] [(15, 0)] 0 [15, 14, 13, 9, 12, 11, 10, 8, 7, 6, 5, 4, 3, 1, 2, 0] [(0, .slice A n cap), (4, .int .i64 (i : Int)), (33, undef), (34, undef), (35, undef), (36, undef), (37, undef), (55, undef), (56, undef), (57, undef), (58, undef), (59, undef), (60, undef), (61, undef), (62, undef), (65, undef), (66, undef), (67, undef), (68, undef), (69, undef), (70, undef), (71, undef), (72, undef), (82, .slice (some ⟨g, o, none⟩) n cap), (83, .int .i64 ((fromOf xs i : Nat) : Int)), (84, .int .i64 (i : Int)), (85, .slice (sliceA g o (fromOf xs i : Nat) cap 4) (i - (fromOf xs i : Nat)) (cap - (fromOf xs i : Nat))), (86, .slice (some ⟨g, o, none⟩) n cap), (87, .int .i64 (i : Int)), (88, .int .i64 (e : Int)), (89, .slice (sliceA g o i cap 4) (e - i) (cap - i)), (90, .bool (eqF span1 ((xs.drop (fromOf xs i : Nat)).take (i - (fromOf xs i : Nat))) ((xs.drop i).take (e - i)))), (91, .bool (eqF span1 ((xs.drop (fromOf xs i : Nat)).take (i - (fromOf xs i : Nat))) ((xs.drop i).take (e - i))))] (by kernel_rfl) (pok_then (pok_then (pok_blk (pok_then (pok_then (pok_blk (pok_then pok_body))))))) (by kernel_rfl) rfl rfl (by kernel_rfl) (by kernel_rfl) ?_
      refine drawn_done (by kernel_rfl) ?_
      refine then_normal ?_
      refine cont_split 91 (eqF span1 ((xs.drop (fromOf xs i : Nat)).take (i - (fromOf xs i : Nat))) ((xs.drop i).take (e - i))) rfl (fun c31_ => ?_) (fun c31_ => ?_)
      ·
        refine cont_recast 90 (.bool (eqF span1 ((xs.drop (fromOf xs i : Nat)).take (i - (fromOf xs i : Nat))) ((xs.drop i).take (e - i)))) (.bool true) rfl (congrArg Value.bool c31_) ?_
        refine cont_true rfl ?_
        refine cont_seq ?_
        refine cont_region 1 rfl ?_
        refine bS [0] 1 0 [(2, .bool false)] ?_
        refine cont_forget 0 rfl ?_
        refine cont_forget 0 rfl ?_
        refine cont_done ?_
        refine then_normal ?_
        refine cont_ret ?_
        refine then_ret ?_
        refine blk_ret ?_
        refine then_ret ?_
        refine then_ret ?_
        refine blk_ret ?_
        refine then_ret ?_
        refine ret_one (.inl rfl) rfl 0 (.bool false) (by kernel_rfl) (by kernel_rfl) (fun w hT => ?_)
        refine ⟨ret_bool (may_no (i := i) (by omega) (fun ok_ => ?_)).symm, hT.post rfl⟩
        first
        | (have e_ := ok_.ne; rw [show emptyR (rget xs i) = true from ‹emptyB _ _ _ _ = true›] at e_; cases e_)
        | (have e_ := ok_.on (by omega) (by assumption); omega)
        | (have e_ := ok_.next (by omega) (by assumption); omega)
        | (have e_ := ok_.apart (by omega) (by assumption) (by assumption) e hEnd; exact absurd (show (true : Bool) = false from (Eq.symm ‹eqF span1 _ _ = true›).trans e_) (by decide))
      refine cont_recast 90 (.bool (eqF span1 ((xs.drop (fromOf xs i : Nat)).take (i - (fromOf xs i : Nat))) ((xs.drop i).take (e - i)))) (.bool false) rfl (congrArg Value.bool c31_) ?_
      refine cont_false rfl ?_
      refine cont_skip ?_
      refine then_normal ?_
      refine cont_region 2 rfl ?_
      refine bS [0, 0] 2 0 [(0, .slice A n cap), (3, .int .i64 (i : Int)), (4, .int .i64 (i : Int)), (33, undef), (34, undef), (35, undef), (36, undef), (37, undef), (55, undef), (56, undef), (57, undef), (58, undef), (59, undef), (60, undef), (61, undef), (62, undef), (65, undef), (66, undef), (67, undef), (68, undef), (69, undef), (70, undef), (71, undef), (72, undef), (82, .slice (some ⟨g, o, none⟩) n cap), (83, .int .i64 ((fromOf xs i : Nat) : Int)), (84, .int .i64 (i : Int)), (85, .slice (sliceA g o (fromOf xs i : Nat) cap 4) (i - (fromOf xs i : Nat)) (cap - (fromOf xs i : Nat))), (86, .slice (some ⟨g, o, none⟩) n cap), (87, .int .i64 (i : Int)), (88, .int .i64 (e : Int)), (89, .slice (sliceA g o i cap 4) (e - i) (cap - i)), (90, .bool false)] ?_
      refine cont_forget 0 rfl ?_
      refine cont_forget 0 rfl ?_
      refine cont_done ?_
      refine blk_normal ?_
      refine then_normal ?_
      refine cont_region 3 rfl ?_
      refine bS [0, 0] 2 1 [(0, .slice A n cap), (3, .int .i64 (i : Int)), (13, .int .i64 (IntKind.i64.wrap ((i : Int) + 1))), (33, undef), (34, undef), (35, undef), (36, undef), (37, undef), (55, undef), (56, undef), (57, undef), (58, undef), (59, undef), (60, undef), (61, undef), (62, undef), (65, undef), (66, undef), (67, undef), (68, undef), (69, undef), (70, undef), (71, undef), (72, undef), (82, .slice (some ⟨g, o, none⟩) n cap), (83, .int .i64 ((fromOf xs i : Nat) : Int)), (84, .int .i64 (i : Int)), (85, .slice (sliceA g o (fromOf xs i : Nat) cap 4) (i - (fromOf xs i : Nat)) (cap - (fromOf xs i : Nat))), (86, .slice (some ⟨g, o, none⟩) n cap), (87, .int .i64 (i : Int)), (88, .int .i64 (e : Int)), (89, .slice (sliceA g o i cap 4) (e - i) (cap - i)), (90, .bool false)] ?_
      refine cont_recast 13 (.int .i64 (IntKind.i64.wrap ((i : Int) + 1))) (.int .i64 ((i + 1 : Nat) : Int)) rfl (by rw [show (((i + 1 : Nat) : Int)) = (i : Int) + 1 by omega]; exact wrapI (by omega) (by omega)) ?_
      refine bS [0] 3 0 [(0, .slice A n cap), (3, .int .i64 (i : Int)), (4, .int .i64 ((i + 1 : Nat) : Int)), (33, undef), (34, undef), (35, undef), (36, undef), (37, undef), (55, undef), (56, undef), (57, undef), (58, undef), (59, undef), (60, undef), (61, undef), (62, undef), (65, undef), (66, undef), (67, undef), (68, undef), (69, undef), (70, undef), (71, undef), (72, undef), (82, .slice (some ⟨g, o, none⟩) n cap), (83, .int .i64 ((fromOf xs i : Nat) : Int)), (84, .int .i64 (i : Int)), (85, .slice (sliceA g o (fromOf xs i : Nat) cap 4) (i - (fromOf xs i : Nat)) (cap - (fromOf xs i : Nat))), (86, .slice (some ⟨g, o, none⟩) n cap), (87, .int .i64 (i : Int)), (88, .int .i64 (e : Int)), (89, .slice (sliceA g o i cap 4) (e - i) (cap - i)), (90, .bool false)] ?_
      refine cont_done ?_
      refine then_normal ?_
      have hnow_ : OkAt xs i := ⟨c4_, fun _ hs => absurd hs hnY, fun _ _ => by omega, fun _ _ _ e' hE => by rw [hE.unique hEnd]; exact c31_⟩
      have hfs_ : fromOf xs (i + 1) = i := fromOf_new (by omega) hnY
      refine cont_recast 3 (.int .i64 (i : Int)) (.int .i64 ((fromOf xs (i + 1) : Nat) : Int)) rfl (congrArg (Value.int .i64) (by rw [hfs_])) ?_
      refine cont_again (i + 1) (show (i + 1) ≤ n ∧ ∀ j, j < (i + 1) → OkAt xs j from ⟨by omega, fun j hj => by rcases Nat.lt_succ_iff_lt_or_eq.1 hj with h_ | h_; exact hok j h_; subst h_; exact hnow_⟩) (show n - (i + 1) < n - i from by omega) (by kernel_rfl) (by kernel_rfl)
    replace c30_ := ne_of_beqf c30_
    refine takes 0 [] [(6, 0), (7, 0), (8, 0), (10, 0), (11, 0), (12, 0), (9, 0), (13, 0)] 2 [13, 9, 12, 11, 10, 8, 7, 6, 5, 4, 3, 1, 2, 0] [(0, .slice A n cap), (4, .int .i64 (i : Int)), (33, undef), (34, undef), (35, undef), (36, undef), (37, undef), (55, undef), (56, undef), (57, undef), (58, undef), (59, undef), (60, undef), (61, undef), (62, undef), (65, undef), (66, undef), (67, undef), (68, undef), (69, undef), (70, undef), (71, undef), (72, undef), (81, .bool false), (82, undef), (83, undef), (84, undef), (85, undef), (86, undef), (87, undef), (88, undef), (89, undef)] (by kernel_rfl) (pok_then (pok_then (pok_blk (pok_then (pok_then (pok_blk (pok_then pok_body))))))) (by kernel_rfl) rfl rfl (by kernel_rfl) (by kernel_rfl) ?_
    refine drawn_one 14 1 rfl (by kernel_rfl) ?_
    refine one_step 0 [(0, .slice A n cap), (4, .int .i64 (i : Int)), (33, undef), (34, undef), (35, undef), (36, undef), (37, undef), (55, undef), (56, undef), (57, undef), (58, undef), (59, undef), (60, undef), (61, undef), (62, undef), (65, undef), (66, undef), (67, undef), (68, undef), (69, undef), (70, undef), (71, undef), (72, undef), (81, .bool false), (82, undef), (83, undef), (84, undef), (85, undef), (86, undef), (87, undef), (88, undef), (89, undef), (90, undef)] [.cells b6 [.int .i64 ((rget xs (i - 1 : Nat)).x0), .int .i64 ((rget xs (i - 1 : Nat)).y0), .int .i64 ((rget xs (i - 1 : Nat)).x1), .int .i64 ((rget xs (i - 1 : Nat)).y1)] 25 true, .cells b3 [.int .i64 ((rget xs i).x0), .int .i64 ((rget xs i).y0), .int .i64 ((rget xs i).x1), .int .i64 ((rget xs i).y1)] 25 true, .gen (rdE (A) g o n 4 (rvals xs))] (by kernel_rfl) (by kernel_rfl) ?_
    refine drawn_next 0 [] (by kernel_rfl) ?_
    refine takes 0 [] [(15, 0)] 0 [15, 14, 13, 9, 12, 11, 10, 8, 7, 6, 5, 4, 3, 1, 2, 0] [(0, .slice A n cap), (4, .int .i64 (i : Int)), (33, undef), (34, undef), (35, undef), (36, undef), (37, undef), (55, undef), (56, undef), (57, undef), (58, undef), (59, undef), (60, undef), (61, undef), (62, undef), (65, undef), (66, undef), (67, undef), (68, undef), (69, undef), (70, undef), (71, undef), (72, undef), (82, undef), (83, undef), (84, undef), (85, undef), (86, undef), (87, undef), (88, undef), (89, undef), (90, undef), (91, .bool false)] (by kernel_rfl) (pok_then (pok_then (pok_blk (pok_then (pok_then (pok_blk (pok_then pok_body))))))) (by kernel_rfl) rfl rfl (by kernel_rfl) (by kernel_rfl) ?_
    refine drawn_done (by kernel_rfl) ?_
    refine then_normal ?_
    refine cont_false rfl ?_
    refine cont_skip ?_
    refine then_normal ?_
    refine cont_region 2 rfl ?_
    refine bS [0, 0] 2 0 [(0, .slice A n cap), (3, .int .i64 (i : Int)), (4, .int .i64 (i : Int)), (33, undef), (34, undef), (35, undef), (36, undef), (37, undef), (55, undef), (56, undef), (57, undef), (58, undef), (59, undef), (60, undef), (61, undef), (62, undef), (65, undef), (66, undef), (67, undef), (68, undef), (69, undef), (70, undef), (71, undef), (72, undef), (82, undef), (83, undef), (84, undef), (85, undef), (86, undef), (87, undef), (88, undef), (89, undef), (90, undef)] ?_
    refine cont_forget 0 rfl ?_
    refine cont_forget 0 rfl ?_
    refine cont_done ?_
    refine blk_normal ?_
    refine then_normal ?_
    refine cont_region 3 rfl ?_
    refine bS [0, 0] 2 1 [(0, .slice A n cap), (3, .int .i64 (i : Int)), (13, .int .i64 (IntKind.i64.wrap ((i : Int) + 1))), (33, undef), (34, undef), (35, undef), (36, undef), (37, undef), (55, undef), (56, undef), (57, undef), (58, undef), (59, undef), (60, undef), (61, undef), (62, undef), (65, undef), (66, undef), (67, undef), (68, undef), (69, undef), (70, undef), (71, undef), (72, undef), (82, undef), (83, undef), (84, undef), (85, undef), (86, undef), (87, undef), (88, undef), (89, undef), (90, undef)] ?_
    refine cont_recast 13 (.int .i64 (IntKind.i64.wrap ((i : Int) + 1))) (.int .i64 ((i + 1 : Nat) : Int)) rfl (by rw [show (((i + 1 : Nat) : Int)) = (i : Int) + 1 by omega]; exact wrapI (by omega) (by omega)) ?_
    refine bS [0] 3 0 [(0, .slice A n cap), (3, .int .i64 (i : Int)), (4, .int .i64 ((i + 1 : Nat) : Int)), (33, undef), (34, undef), (35, undef), (36, undef), (37, undef), (55, undef), (56, undef), (57, undef), (58, undef), (59, undef), (60, undef), (61, undef), (62, undef), (65, undef), (66, undef), (67, undef), (68, undef), (69, undef), (70, undef), (71, undef), (72, undef), (82, undef), (83, undef), (84, undef), (85, undef), (86, undef), (87, undef), (88, undef), (89, undef), (90, undef)] ?_
    refine cont_done ?_
    refine then_normal ?_
    have hnow_ : OkAt xs i := ⟨c4_, fun _ hs => absurd hs hnY, fun _ _ => by omega, fun _ _ ht => absurd ht c30_⟩
    have hfs_ : fromOf xs (i + 1) = i := fromOf_new (by omega) hnY
    refine cont_recast 3 (.int .i64 (i : Int)) (.int .i64 ((fromOf xs (i + 1) : Nat) : Int)) rfl (congrArg (Value.int .i64) (by rw [hfs_])) ?_
    refine cont_again (i + 1) (show (i + 1) ≤ n ∧ ∀ j, j < (i + 1) → OkAt xs j from ⟨by omega, fun j hj => by rcases Nat.lt_succ_iff_lt_or_eq.1 hj with h_ | h_; exact hok j h_; subst h_; exact hnow_⟩) (show n - (i + 1) < n - i from by omega) (by kernel_rfl) (by kernel_rfl)
  replace c2_ := of_decide_eq_false c2_
  refine cont_false rfl ?_
  refine cont_exit ?_
  refine then_exit ?_
  refine then_exit ?_
  refine blk_exit ?_
  refine then_normal ?_
  refine cont_seq ?_
  refine cont_region 1 rfl ?_
  refine bS [0] 1 0 [(2, .bool true)] ?_
  refine cont_done ?_
  refine then_normal ?_
  refine cont_ret ?_
  refine ret_one (.inl rfl) rfl 0 (.bool true) (by kernel_rfl) (by kernel_rfl) (fun w hT => ?_)
  exact ⟨ret_bool (may_yes (fun j hj => hok j (by omega))).symm, hT.post rfl⟩

end Go.Proofs.Ytimpjdfflffcfaa
