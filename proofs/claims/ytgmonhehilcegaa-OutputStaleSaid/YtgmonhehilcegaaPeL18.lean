/- Contracts of functions of the given program, printed by a program of this project. -/
import Derived.Test.YtgmonhehilcegaaPeL4b
import Derived.Test.YtgmonhehilcegaaPeL2f
import Derived.Test.YtgmonhehilcegaaPeOu
import Derived.Test.YtgmonhehilcegaaProg
set_option linter.unusedVariables false
set_option linter.unusedSimpArgs false
namespace Go.Proofs.Ytgmonhehilcegaa
open Go Go.RowKit
set_option maxRecDepth 100000
set_option maxHeartbeats 8000000

theorem outFlip0 (ob m m1 : Nat) (A0v A1v : Option Addr) (k0v c0v k1v c1v : Nat) (w0 w1 fr : Int) (w : World) (hT0 : Tab w w [.cells ob [.pointer (some ⟨m, 0, none⟩), .pointer (some ⟨m1, 0, none⟩), .slice A0v k0v c0v, .slice A1v k1v c1v, .int .i64 w0, .int .i64 w1, .int .i64 fr, .int .i64 0] 98 false]) (hf : 0 ≤ fr ∧ fr ≤ 1000000000000) :
    Calls Try.prog 32 #[.pointer (some ⟨ob, 0, none⟩)] w fun e w' => e = .returned (.int .i64 (fr + 1)) ∧ Tab w w' [.cells ob [.pointer (some ⟨m, 0, none⟩), .pointer (some ⟨m1, 0, none⟩), .slice none 0 0, .slice A1v k1v c1v, .int .i64 (fr + 1), .int .i64 w1, .int .i64 (fr + 1), .int .i64 1] 98 false] := by
 refine enter 42 [(0, .pointer (pB ob))] [.cells ob [.pointer (pB m), .pointer (pB m1), .slice A0v k0v c0v, .slice A1v k1v c1v, iq w0, iq w1, iq fr, iq 0] 98 false] Try.func32 rfl Try.ntmps32 rfl (by kernel_rfl) hT0 ?_
 refine cont_seq ?_
 refine cont_region 1 rfl ?_
 refine bS [0] 1 0 [(0, .pointer (pB ob))] ?_
 refine cont_done ?_
 refine then_normal ?_
 refine cont_seq ?_
 refine cont_region 8 rfl ?_
 refine bS [0, 0, 0, 0, 0] 5 3 [(0, .pointer (pB ob)), (3, .pointer (pB ob)), (7, iq (IntKind.i64.wrap (fr + 1)))] ?_
 refine cont_recast 7 (iq (IntKind.i64.wrap (fr + 1))) (iq (fr + 1)) rfl (wrapI (by omega) (by omega)) ?_
 refine batch0 [0, 0, 0] 8 0 [(0, .pointer (pB ob))] [.cells ob [.pointer (pB m), .pointer (pB m1), .slice A0v k0v c0v, .slice A1v k1v c1v, iq w0, iq w1, iq (fr + 1), iq 0] 98 false] rfl rfl (by kernel_rfl) (by kernel_rfl) ?_
 refine cont_done ?_
 refine then_normal ?_
 refine cont_seq ?_
 refine drawn_enter 22 [0] rfl (by kernel_rfl) ?_
 refine takes 0 [0] [(0, 0), (1, 0), (5, 0), (6, 0), (10, 0), (2, 0), (7, 0), (11, 0), (14, 0), (18, 0), (3, 0), (8, 0), (12, 0), (15, 0), (19, 0)] 7 [19, 15, 12, 8, 3, 18, 14, 11, 7, 2, 10, 6, 5, 1, 0] [(0, .pointer (pB ob)), (13, .pointer (some ⟨ob, 7, none⟩)), (18, .pointer (some ⟨ob, 7, none⟩)), (22, .pointer (some ⟨ob, 6, none⟩)), (25, .pointer (some ⟨ob, 2, none⟩)), (28, .pointer (some ⟨ob, 4, none⟩))] (by kernel_rfl) (pok_then pok_body) (by kernel_rfl) rfl rfl (by kernel_rfl) (by kernel_rfl) ?_
 refine drawn_three 4 9 13 6 rfl (by kernel_rfl) ?_ ?_ ?_
 ·
  refine one_step 0 [(0, .pointer (pB ob)), (14, iq 0), (18, .pointer (some ⟨ob, 7, none⟩)), (22, .pointer (some ⟨ob, 6, none⟩)), (25, .pointer (some ⟨ob, 2, none⟩)), (28, .pointer (some ⟨ob, 4, none⟩))] [.cells ob [.pointer (pB m), .pointer (pB m1), .slice A0v k0v c0v, .slice A1v k1v c1v, iq w0, iq w1, iq (fr + 1), iq 0] 98 false] (by kernel_rfl) (by kernel_rfl) ?_
  refine drawn_next 0 [0] (by kernel_rfl) ?_
  refine drawn_two 9 13 5 rfl (by kernel_rfl) ?_ ?_
  ·
   refine one_step 0 [(0, .pointer (pB ob)), (14, iq 0), (19, iq 0), (22, .pointer (some ⟨ob, 6, none⟩)), (25, .pointer (some ⟨ob, 2, none⟩)), (28, .pointer (some ⟨ob, 4, none⟩))] [.cells ob [.pointer (pB m), .pointer (pB m1), .slice A0v k0v c0v, .slice A1v k1v c1v, iq w0, iq w1, iq (fr + 1), iq 0] 98 false] (by kernel_rfl) (by kernel_rfl) ?_
   refine drawn_next 0 [0] (by kernel_rfl) ?_
   refine drawn_one 13 4 rfl (by kernel_rfl) ?_
   refine one_step 0 [(0, .pointer (pB ob)), (14, iq 0), (19, iq 0), (23, iq (fr + 1)), (25, .pointer (some ⟨ob, 2, none⟩)), (28, .pointer (some ⟨ob, 4, none⟩))] [.cells ob [.pointer (pB m), .pointer (pB m1), .slice A0v k0v c0v, .slice A1v k1v c1v, iq w0, iq w1, iq (fr + 1), iq 0] 98 false] (by kernel_rfl) (by kernel_rfl) ?_
   refine drawn_next 0 [0] (by kernel_rfl) ?_
   refine takes 0 [0] [(16, 0)] 3 [16, 13, 9, 4, 19, 15, 12, 8, 3, 18, 14, 11, 7, 2, 10, 6, 5, 1, 0] [(0, .pointer (pB ob)), (19, iq 0), (23, iq (fr + 1)), (26, .pointer (some ⟨ob, 2, none⟩)), (28, .pointer (some ⟨ob, 4, none⟩))] (by kernel_rfl) (pok_then pok_body) (by kernel_rfl) rfl rfl (by kernel_rfl) (by kernel_rfl) ?_
   refine drawn_one 17 2 rfl (by kernel_rfl) ?_
   refine one_step 0 [(0, .pointer (pB ob)), (19, iq 0), (23, iq (fr + 1)), (28, .pointer (some ⟨ob, 4, none⟩))] [.cells ob [.pointer (pB m), .pointer (pB m1), .slice none 0 0, .slice A1v k1v c1v, iq w0, iq w1, iq (fr + 1), iq 0] 98 false] (by kernel_rfl) (by kernel_rfl) ?_
   refine drawn_next 0 [0] (by kernel_rfl) ?_
   refine takes 0 [0] [(20, 0)] 1 [20, 17, 16, 13, 9, 4, 19, 15, 12, 8, 3, 18, 14, 11, 7, 2, 10, 6, 5, 1, 0] [(0, .pointer (pB ob)), (23, iq (fr + 1)), (29, .pointer (some ⟨ob, 4, none⟩))] (by kernel_rfl) (pok_then pok_body) (by kernel_rfl) rfl rfl (by kernel_rfl) (by kernel_rfl) ?_
   refine drawn_one 21 0 rfl (by kernel_rfl) ?_
   refine one_step 0 [(0, .pointer (pB ob))] [.cells ob [.pointer (pB m), .pointer (pB m1), .slice none 0 0, .slice A1v k1v c1v, iq (fr + 1), iq w1, iq (fr + 1), iq 0] 98 false] (by kernel_rfl) (by kernel_rfl) ?_
   refine drawn_next 0 [0] (by kernel_rfl) ?_
   refine drawn_done (by kernel_rfl) ?_
   refine then_normal ?_
   refine cont_seq ?_
   refine cont_region 9 rfl ?_
   refine batch0 [0, 0, 0, 0, 0, 0, 0, 0, 0] 9 0 [(0, .pointer (pB ob))] [.cells ob [.pointer (pB m), .pointer (pB m1), .slice none 0 0, .slice A1v k1v c1v, iq (fr + 1), iq w1, iq (fr + 1), iq 1] 98 false] rfl rfl (by kernel_rfl) (by kernel_rfl) ?_
   refine cont_done ?_
   refine then_normal ?_
   refine cont_seq ?_
   refine cont_region 5 rfl ?_
   refine bS [0, 0, 0, 0, 0] 5 0 [(2, iq (fr + 1))] ?_
   refine cont_done ?_
   refine then_normal ?_
   refine cont_ret ?_
   refine ret_one (.inl rfl) rfl 0 (iq (fr + 1)) (by kernel_rfl) (by kernel_rfl) (fun w hT => ?_)
   exact ⟨rfl, hT⟩
  refine one_step 0 [(0, .pointer (pB ob)), (14, iq 0), (18, .pointer (some ⟨ob, 7, none⟩)), (23, iq (fr + 1)), (25, .pointer (some ⟨ob, 2, none⟩)), (28, .pointer (some ⟨ob, 4, none⟩))] [.cells ob [.pointer (pB m), .pointer (pB m1), .slice A0v k0v c0v, .slice A1v k1v c1v, iq w0, iq w1, iq (fr + 1), iq 0] 98 false] (by kernel_rfl) (by kernel_rfl) ?_
  refine drawn_next 0 [0] (by kernel_rfl) ?_
  refine drawn_one 9 4 rfl (by kernel_rfl) ?_
  refine one_step 0 [(0, .pointer (pB ob)), (14, iq 0), (19, iq 0), (23, iq (fr + 1)), (25, .pointer (some ⟨ob, 2, none⟩)), (28, .pointer (some ⟨ob, 4, none⟩))] [.cells ob [.pointer (pB m), .pointer (pB m1), .slice A0v k0v c0v, .slice A1v k1v c1v, iq w0, iq w1, iq (fr + 1), iq 0] 98 false] (by kernel_rfl) (by kernel_rfl) ?_
  refine drawn_next 0 [0] (by kernel_rfl) ?_
  refine takes 0 [0] [(16, 0)] 3 [16, 9, 13, 4, 19, 15, 12, 8, 3, 18, 14, 11, 7, 2, 10, 6, 5, 1, 0] [(0, .pointer (pB ob)), (19, iq 0), (23, iq (fr + 1)), (26, .pointer (some ⟨ob, 2, none⟩)), (28, .pointer (some ⟨ob, 4, none⟩))] (by kernel_rfl) (pok_then pok_body) (by kernel_rfl) rfl rfl (by kernel_rfl) (by kernel_rfl) ?_
  refine drawn_one 17 2 rfl (by kernel_rfl) ?_
  refine one_step 0 [(0, .pointer (pB ob)), (19, iq 0), (23, iq (fr + 1)), (28, .pointer (some ⟨ob, 4, none⟩))] [.cells ob [.pointer (pB m), .pointer (pB m1), .slice none 0 0, .slice A1v k1v c1v, iq w0, iq w1, iq (fr + 1), iq 0] 98 false] (by kernel_rfl) (by kernel_rfl) ?_
  refine drawn_next 0 [0] (by kernel_rfl) ?_
  refine takes 0 [0] [(20, 0)] 1 [20, 17, 16, 9, 13, 4, 19, 15, 12, 8, 3, 18, 14, 11, 7, 2, 10, 6, 5, 1, 0] [(0, .pointer (pB ob)), (23, iq (fr + 1)), (29, .pointer (some ⟨ob, 4, none⟩))] (by kernel_rfl) (pok_then pok_body) (by kernel_rfl) rfl rfl (by kernel_rfl) (by kernel_rfl) ?_
  refine drawn_one 21 0 rfl (by kernel_rfl) ?_
  refine one_step 0 [(0, .pointer (pB ob))] [.cells ob [.pointer (pB m), .pointer (pB m1), .slice none 0 0, .slice A1v k1v c1v, iq (fr + 1), iq w1, iq (fr + 1), iq 0] 98 false] (by kernel_rfl) (by kernel_rfl) ?_
  refine drawn_next 0 [0] (by kernel_rfl) ?_
  refine drawn_done (by kernel_rfl) ?_
  refine then_normal ?_
  refine cont_seq ?_
  refine cont_region 9 rfl ?_
  refine batch0 [0, 0, 0, 0, 0, 0, 0, 0, 0] 9 0 [(0, .pointer (pB ob))] [.cells ob [.pointer (pB m), .pointer (pB m1), .slice none 0 0, .slice A1v k1v c1v, iq (fr + 1), iq w1, iq (fr + 1), iq 1] 98 false] rfl rfl (by kernel_rfl) (by kernel_rfl) ?_
  refine cont_done ?_
  refine then_normal ?_
  refine cont_seq ?_
  refine cont_region 5 rfl ?_
  refine bS [0, 0, 0, 0, 0] 5 0 [(2, iq (fr + 1))] ?_
  refine cont_done ?_
  refine then_normal ?_
  refine cont_ret ?_
  refine ret_one (.inl rfl) rfl 0 (iq (fr + 1)) (by kernel_rfl) (by kernel_rfl) (fun w hT => ?_)
  exact ⟨rfl, hT⟩
 ·
  refine one_step 0 [(0, .pointer (pB ob)), (13, .pointer (some ⟨ob, 7, none⟩)), (19, iq 0), (22, .pointer (some ⟨ob, 6, none⟩)), (25, .pointer (some ⟨ob, 2, none⟩)), (28, .pointer (some ⟨ob, 4, none⟩))] [.cells ob [.pointer (pB m), .pointer (pB m1), .slice A0v k0v c0v, .slice A1v k1v c1v, iq w0, iq w1, iq (fr + 1), iq 0] 98 false] (by kernel_rfl) (by kernel_rfl) ?_
  refine drawn_next 0 [0] (by kernel_rfl) ?_
  refine drawn_two 4 13 5 rfl (by kernel_rfl) ?_ ?_
  ·
   refine one_step 0 [(0, .pointer (pB ob)), (14, iq 0), (19, iq 0), (22, .pointer (some ⟨ob, 6, none⟩)), (25, .pointer (some ⟨ob, 2, none⟩)), (28, .pointer (some ⟨ob, 4, none⟩))] [.cells ob [.pointer (pB m), .pointer (pB m1), .slice A0v k0v c0v, .slice A1v k1v c1v, iq w0, iq w1, iq (fr + 1), iq 0] 98 false] (by kernel_rfl) (by kernel_rfl) ?_
   refine drawn_next 0 [0] (by kernel_rfl) ?_
   refine drawn_one 13 4 rfl (by kernel_rfl) ?_
   refine one_step 0 [(0, .pointer (pB ob)), (14, iq 0), (19, iq 0), (23, iq (fr + 1)), (25, .pointer (some ⟨ob, 2, none⟩)), (28, .pointer (some ⟨ob, 4, none⟩))] [.cells ob [.pointer (pB m), .pointer (pB m1), .slice A0v k0v c0v, .slice A1v k1v c1v, iq w0, iq w1, iq (fr + 1), iq 0] 98 false] (by kernel_rfl) (by kernel_rfl) ?_
   refine drawn_next 0 [0] (by kernel_rfl) ?_
   refine takes 0 [0] [(16, 0)] 3 [16, 13, 4, 9, 19, 15, 12, 8, 3, 18, 14, 11, 7, 2, 10, 6, 5, 1, 0] [(0, .pointer (pB ob)), (19, iq 0), (23, iq (fr + 1)), (26, .pointer (some ⟨ob, 2, none⟩)), (28, .pointer (some ⟨ob, 4, none⟩))] (by kernel_rfl) (pok_then pok_body) (by kernel_rfl) rfl rfl (by kernel_rfl) (by kernel_rfl) ?_
   refine drawn_one 17 2 rfl (by kernel_rfl) ?_
   refine one_step 0 [(0, .pointer (pB ob)), (19, iq 0), (23, iq (fr + 1)), (28, .pointer (some ⟨ob, 4, none⟩))] [.cells ob [.pointer (pB m), .pointer (pB m1), .slice none 0 0, .slice A1v k1v c1v, iq w0, iq w1, iq (fr + 1), iq 0] 98 false] (by kernel_rfl) (by kernel_rfl) ?_
   refine drawn_next 0 [0] (by kernel_rfl) ?_
   refine takes 0 [0] [(20, 0)] 1 [20, 17, 16, 13, 4, 9, 19, 15, 12, 8, 3, 18, 14, 11, 7, 2, 10, 6, 5, 1, 0] [(0, .pointer (pB ob)), (23, iq (fr + 1)), (29, .pointer (some ⟨ob, 4, none⟩))] (by kernel_rfl) (pok_then pok_body) (by kernel_rfl) rfl rfl (by kernel_rfl) (by kernel_rfl) ?_
   refine drawn_one 21 0 rfl (by kernel_rfl) ?_
   refine one_step 0 [(0, .pointer (pB ob))] [.cells ob [.pointer (pB m), .pointer (pB m1), .slice none 0 0, .slice A1v k1v c1v, iq (fr + 1), iq w1, iq (fr + 1), iq 0] 98 false] (by kernel_rfl) (by kernel_rfl) ?_
   refine drawn_next 0 [0] (by kernel_rfl) ?_
   refine drawn_done (by kernel_rfl) ?_
   refine then_normal ?_
   refine cont_seq ?_
   refine cont_region 9 rfl ?_
   refine batch0 [0, 0, 0, 0, 0, 0, 0, 0, 0] 9 0 [(0, .pointer (pB ob))] [.cells ob [.pointer (pB m), .pointer (pB m1), .slice none 0 0, .slice A1v k1v c1v, iq (fr + 1), iq w1, iq (fr + 1), iq 1] 98 false] rfl rfl (by kernel_rfl) (by kernel_rfl) ?_
   refine cont_done ?_
   refine then_normal ?_
   refine cont_seq ?_
   refine cont_region 5 rfl ?_
   refine bS [0, 0, 0, 0, 0] 5 0 [(2, iq (fr + 1))] ?_
   refine cont_done ?_
   refine then_normal ?_
   refine cont_ret ?_
   refine ret_one (.inl rfl) rfl 0 (iq (fr + 1)) (by kernel_rfl) (by kernel_rfl) (fun w hT => ?_)
   exact ⟨rfl, hT⟩
  refine one_step 0 [(0, .pointer (pB ob)), (13, .pointer (some ⟨ob, 7, none⟩)), (19, iq 0), (23, iq (fr + 1)), (25, .pointer (some ⟨ob, 2, none⟩)), (28, .pointer (some ⟨ob, 4, none⟩))] [.cells ob [.pointer (pB m), .pointer (pB m1), .slice A0v k0v c0v, .slice A1v k1v c1v, iq w0, iq w1, iq (fr + 1), iq 0] 98 false] (by kernel_rfl) (by kernel_rfl) ?_
  refine drawn_next 0 [0] (by kernel_rfl) ?_
  refine drawn_one 4 4 rfl (by kernel_rfl) ?_
  refine one_step 0 [(0, .pointer (pB ob)), (14, iq 0), (19, iq 0), (23, iq (fr + 1)), (25, .pointer (some ⟨ob, 2, none⟩)), (28, .pointer (some ⟨ob, 4, none⟩))] [.cells ob [.pointer (pB m), .pointer (pB m1), .slice A0v k0v c0v, .slice A1v k1v c1v, iq w0, iq w1, iq (fr + 1), iq 0] 98 false] (by kernel_rfl) (by kernel_rfl) ?_
  refine drawn_next 0 [0] (by kernel_rfl) ?_
  refine takes 0 [0] [(16, 0)] 3 [16, 4, 13, 9, 19, 15, 12, 8, 3, 18, 14, 11, 7, 2, 10, 6, 5, 1, 0] [(0, .pointer (pB ob)), (19, iq 0), (23, iq (fr + 1)), (26, .pointer (some ⟨ob, 2, none⟩)), (28, .pointer (some ⟨ob, 4, none⟩))] (by kernel_rfl) (pok_then pok_body) (by kernel_rfl) rfl rfl (by kernel_rfl) (by kernel_rfl) ?_
  refine drawn_one 17 2 rfl (by kernel_rfl) ?_
  refine one_step 0 [(0, .pointer (pB ob)), (19, iq 0), (23, iq (fr + 1)), (28, .pointer (some ⟨ob, 4, none⟩))] [.cells ob [.pointer (pB m), .pointer (pB m1), .slice none 0 0, .slice A1v k1v c1v, iq w0, iq w1, iq (fr + 1), iq 0] 98 false] (by kernel_rfl) (by kernel_rfl) ?_
  refine drawn_next 0 [0] (by kernel_rfl) ?_
  refine takes 0 [0] [(20, 0)] 1 [20, 17, 16, 4, 13, 9, 19, 15, 12, 8, 3, 18, 14, 11, 7, 2, 10, 6, 5, 1, 0] [(0, .pointer (pB ob)), (23, iq (fr + 1)), (29, .pointer (some ⟨ob, 4, none⟩))] (by kernel_rfl) (pok_then pok_body) (by kernel_rfl) rfl rfl (by kernel_rfl) (by kernel_rfl) ?_
  refine drawn_one 21 0 rfl (by kernel_rfl) ?_
  refine one_step 0 [(0, .pointer (pB ob))] [.cells ob [.pointer (pB m), .pointer (pB m1), .slice none 0 0, .slice A1v k1v c1v, iq (fr + 1), iq w1, iq (fr + 1), iq 0] 98 false] (by kernel_rfl) (by kernel_rfl) ?_
  refine drawn_next 0 [0] (by kernel_rfl) ?_
  refine drawn_done (by kernel_rfl) ?_
  refine then_normal ?_
  refine cont_seq ?_
  refine cont_region 9 rfl ?_
  refine batch0 [0, 0, 0, 0, 0, 0, 0, 0, 0] 9 0 [(0, .pointer (pB ob))] [.cells ob [.pointer (pB m), .pointer (pB m1), .slice none 0 0, .slice A1v k1v c1v, iq (fr + 1), iq w1, iq (fr + 1), iq 1] 98 false] rfl rfl (by kernel_rfl) (by kernel_rfl) ?_
  refine cont_done ?_
  refine then_normal ?_
  refine cont_seq ?_
  refine cont_region 5 rfl ?_
  refine bS [0, 0, 0, 0, 0] 5 0 [(2, iq (fr + 1))] ?_
  refine cont_done ?_
  refine then_normal ?_
  refine cont_ret ?_
  refine ret_one (.inl rfl) rfl 0 (iq (fr + 1)) (by kernel_rfl) (by kernel_rfl) (fun w hT => ?_)
  exact ⟨rfl, hT⟩
 ·
  refine one_step 0 [(0, .pointer (pB ob)), (13, .pointer (some ⟨ob, 7, none⟩)), (18, .pointer (some ⟨ob, 7, none⟩)), (23, iq (fr + 1)), (25, .pointer (some ⟨ob, 2, none⟩)), (28, .pointer (some ⟨ob, 4, none⟩))] [.cells ob [.pointer (pB m), .pointer (pB m1), .slice A0v k0v c0v, .slice A1v k1v c1v, iq w0, iq w1, iq (fr + 1), iq 0] 98 false] (by kernel_rfl) (by kernel_rfl) ?_
  refine drawn_next 0 [0] (by kernel_rfl) ?_
  refine drawn_two 4 9 5 rfl (by kernel_rfl) ?_ ?_
  ·
   refine one_step 0 [(0, .pointer (pB ob)), (14, iq 0), (18, .pointer (some ⟨ob, 7, none⟩)), (23, iq (fr + 1)), (25, .pointer (some ⟨ob, 2, none⟩)), (28, .pointer (some ⟨ob, 4, none⟩))] [.cells ob [.pointer (pB m), .pointer (pB m1), .slice A0v k0v c0v, .slice A1v k1v c1v, iq w0, iq w1, iq (fr + 1), iq 0] 98 false] (by kernel_rfl) (by kernel_rfl) ?_
   refine drawn_next 0 [0] (by kernel_rfl) ?_
   refine drawn_one 9 4 rfl (by kernel_rfl) ?_
   refine one_step 0 [(0, .pointer (pB ob)), (14, iq 0), (19, iq 0), (23, iq (fr + 1)), (25, .pointer (some ⟨ob, 2, none⟩)), (28, .pointer (some ⟨ob, 4, none⟩))] [.cells ob [.pointer (pB m), .pointer (pB m1), .slice A0v k0v c0v, .slice A1v k1v c1v, iq w0, iq w1, iq (fr + 1), iq 0] 98 false] (by kernel_rfl) (by kernel_rfl) ?_
   refine drawn_next 0 [0] (by kernel_rfl) ?_
   refine takes 0 [0] [(16, 0)] 3 [16, 9, 4, 13, 19, 15, 12, 8, 3, 18, 14, 11, 7, 2, 10, 6, 5, 1, 0] [(0, .pointer (pB ob)), (19, iq 0), (23, iq (fr + 1)), (26, .pointer (some ⟨ob, 2, none⟩)), (28, .pointer (some ⟨ob, 4, none⟩))] (by kernel_rfl) (pok_then pok_body) (by kernel_rfl) rfl rfl (by kernel_rfl) (by kernel_rfl) ?_
   refine drawn_one 17 2 rfl (by kernel_rfl) ?_
   refine one_step 0 [(0, .pointer (pB ob)), (19, iq 0), (23, iq (fr + 1)), (28, .pointer (some ⟨ob, 4, none⟩))] [.cells ob [.pointer (pB m), .pointer (pB m1), .slice none 0 0, .slice A1v k1v c1v, iq w0, iq w1, iq (fr + 1), iq 0] 98 false] (by kernel_rfl) (by kernel_rfl) ?_
   refine drawn_next 0 [0] (by kernel_rfl) ?_
   refine takes 0 [0] [(20, 0)] 1 [20, 17, 16, 9, 4, 13, 19, 15, 12, 8, 3, 18, 14, 11, 7, 2, 10, 6, 5, 1, 0] [(0, .pointer (pB ob)), (23, iq (fr + 1)), (29, .pointer (some ⟨ob, 4, none⟩))] (by kernel_rfl) (pok_then pok_body) (by kernel_rfl) rfl rfl (by kernel_rfl) (by kernel_rfl) ?_
   refine drawn_one 21 0 rfl (by kernel_rfl) ?_
   refine one_step 0 [(0, .pointer (pB ob))] [.cells ob [.pointer (pB m), .pointer (pB m1), .slice none 0 0, .slice A1v k1v c1v, iq (fr + 1), iq w1, iq (fr + 1), iq 0] 98 false] (by kernel_rfl) (by kernel_rfl) ?_
   refine drawn_next 0 [0] (by kernel_rfl) ?_
   refine drawn_done (by kernel_rfl) ?_
   refine then_normal ?_
   refine cont_seq ?_
   refine cont_region 9 rfl ?_
   refine batch0 [0, 0, 0, 0, 0, 0, 0, 0, 0] 9 0 [(0, .pointer (pB ob))] [.cells ob [.pointer (pB m), .pointer (pB m1), .slice none 0 0, .slice A1v k1v c1v, iq (fr + 1), iq w1, iq (fr + 1), iq 1] 98 false] rfl rfl (by kernel_rfl) (by kernel_rfl) ?_
   refine cont_done ?_
   refine then_normal ?_
   refine cont_seq ?_
   refine cont_region 5 rfl ?_
   refine bS [0, 0, 0, 0, 0] 5 0 [(2, iq (fr + 1))] ?_
   refine cont_done ?_
   refine then_normal ?_
   refine cont_ret ?_
   refine ret_one (.inl rfl) rfl 0 (iq (fr + 1)) (by kernel_rfl) (by kernel_rfl) (fun w hT => ?_)
   exact ⟨rfl, hT⟩
  refine one_step 0 [(0, .pointer (pB ob)), (13, .pointer (some ⟨ob, 7, none⟩)), (19, iq 0), (23, iq (fr + 1)), (25, .pointer (some ⟨ob, 2, none⟩)), (28, .pointer (some ⟨ob, 4, none⟩))] [.cells ob [.pointer (pB m), .pointer (pB m1), .slice A0v k0v c0v, .slice A1v k1v c1v, iq w0, iq w1, iq (fr + 1), iq 0] 98 false] (by kernel_rfl) (by kernel_rfl) ?_
  refine drawn_next 0 [0] (by kernel_rfl) ?_
  refine drawn_one 4 4 rfl (by kernel_rfl) ?_
  refine one_step 0 [(0, .pointer (pB ob)), (14, iq 0), (19, iq 0), (23, iq (fr + 1)), (25, .pointer (some ⟨ob, 2, none⟩)), (28, .pointer (some ⟨ob, 4, none⟩))] [.cells ob [.pointer (pB m), .pointer (pB m1), .slice A0v k0v c0v, .slice A1v k1v c1v, iq w0, iq w1, iq (fr + 1), iq 0] 98 false] (by kernel_rfl) (by kernel_rfl) ?_
  refine drawn_next 0 [0] (by kernel_rfl) ?_
  refine takes 0 [0] [(16, 0)] 3 [16, 4, 9, 13, 19, 15, 12, 8, 3, 18, 14, 11, 7, 2, 10, 6, 5, 1, 0] [(0, .pointer (pB ob)), (19, iq 0), (23, iq (fr + 1)), (26, .pointer (some ⟨ob, 2, none⟩)), (28, .pointer (some ⟨ob, 4, none⟩))] (by kernel_rfl) (pok_then pok_body) (by kernel_rfl) rfl rfl (by kernel_rfl) (by kernel_rfl) ?_
  refine drawn_one 17 2 rfl (by kernel_rfl) ?_
  refine one_step 0 [(0, .pointer (pB ob)), (19, iq 0), (23, iq (fr + 1)), (28, .pointer (some ⟨ob, 4, none⟩))] [.cells ob [.pointer (pB m), .pointer (pB m1), .slice none 0 0, .slice A1v k1v c1v, iq w0, iq w1, iq (fr + 1), iq 0] 98 false] (by kernel_rfl) (by kernel_rfl) ?_
  refine drawn_next 0 [0] (by kernel_rfl) ?_
  refine takes 0 [0] [(20, 0)] 1 [20, 17, 16, 4, 9, 13, 19, 15, 12, 8, 3, 18, 14, 11, 7, 2, 10, 6, 5, 1, 0] [(0, .pointer (pB ob)), (23, iq (fr + 1)), (29, .pointer (some ⟨ob, 4, none⟩))] (by kernel_rfl) (pok_then pok_body) (by kernel_rfl) rfl rfl (by kernel_rfl) (by kernel_rfl) ?_
  refine drawn_one 21 0 rfl (by kernel_rfl) ?_
  refine one_step 0 [(0, .pointer (pB ob))] [.cells ob [.pointer (pB m), .pointer (pB m1), .slice none 0 0, .slice A1v k1v c1v, iq (fr + 1), iq w1, iq (fr + 1), iq 0] 98 false] (by kernel_rfl) (by kernel_rfl) ?_
  refine drawn_next 0 [0] (by kernel_rfl) ?_
  refine drawn_done (by kernel_rfl) ?_
  refine then_normal ?_
  refine cont_seq ?_
  refine cont_region 9 rfl ?_
  refine batch0 [0, 0, 0, 0, 0, 0, 0, 0, 0] 9 0 [(0, .pointer (pB ob))] [.cells ob [.pointer (pB m), .pointer (pB m1), .slice none 0 0, .slice A1v k1v c1v, iq (fr + 1), iq w1, iq (fr + 1), iq 1] 98 false] rfl rfl (by kernel_rfl) (by kernel_rfl) ?_
  refine cont_done ?_
  refine then_normal ?_
  refine cont_seq ?_
  refine cont_region 5 rfl ?_
  refine bS [0, 0, 0, 0, 0] 5 0 [(2, iq (fr + 1))] ?_
  refine cont_done ?_
  refine then_normal ?_
  refine cont_ret ?_
  refine ret_one (.inl rfl) rfl 0 (iq (fr + 1)) (by kernel_rfl) (by kernel_rfl) (fun w hT => ?_)
  exact ⟨rfl, hT⟩

theorem outStale0 (ob m m1 : Nat) (A0v A1v : Option Addr) (k0v c0v k1v c1v : Nat) (w0 w1 fr : Int) (g0v : Nat) (xs0 : List Rect) (w : World) (hT0 : Tab w w [.ro ob [.pointer (some ⟨m, 0, none⟩), .pointer (some ⟨m1, 0, none⟩), .slice A0v k0v c0v, .slice A1v k1v c1v, .int .i64 w0, .int .i64 w1, .int .i64 fr, .int .i64 0] 98, .gen (rdE (A0v) g0v 0 k0v 4 (rvals xs0))]) (hk : k0v ≤ 1000000000000) :
    Calls Try.prog 36 #[.pointer (some ⟨ob, 0, none⟩)] w fun e w' => ∃ (A_ : Option Addr) (g_ k_ cp_ : Nat), e = .returned (.slice A_ k_ cp_) ∧ Tab w w' [.gen (rowE (A_) g_ k_ cp_ 28 4 (rvals xs0) true)] := by
 obtain ⟨hra, hrl⟩ := Rd.factsR (hT0.ok 1 _ rfl)
 refine enter 13 [(0, .pointer (pB ob))] [.ro ob [.pointer (pB m), .pointer (pB m1), .slice A0v k0v c0v, .slice A1v k1v c1v, iq w0, iq w1, iq fr, iq 0] 98, .gen (rdE (A0v) g0v 0 k0v 4 (rvals xs0))] Try.func36 rfl Try.ntmps36 rfl (by kernel_rfl) hT0 ?_
 refine cont_seq ?_
 refine cont_region 1 rfl ?_
 refine bS [0] 1 0 [(0, .pointer (pB ob))] ?_
 refine cont_done ?_
 refine then_normal ?_
 refine cont_seq ?_
 refine drawn_enter 11 [] rfl (by kernel_rfl) ?_
 refine takes 0 [] [(0, 0), (1, 0), (2, 0), (5, 0), (3, 0), (6, 0), (4, 0), (7, 0), (8, 0)] 2 [8, 7, 4, 6, 3, 5, 2, 1, 0] [(11, .slice A0v k0v c0v)] (by kernel_rfl) (pok_then pok_body) (by kernel_rfl) rfl rfl (by kernel_rfl) (by kernel_rfl) ?_
 refine drawn_one 9 1 rfl (by kernel_rfl) ?_
 refine call_gen (d := 12) (α := Option Addr × Nat × Nat × Nat) (fun x_ => .slice x_.1 x_.2.2.1 x_.2.2.2) (fun x_ => [.gen (rowE (x_.1) x_.2.1 x_.2.2.1 x_.2.2.2 28 4 (rvals xs0) true), .ro ob [.pointer (pB m), .pointer (pB m1), .slice A0v k0v c0v, .slice A1v k1v c1v, iq w0, iq w1, iq fr, iq 0] 98, .gen (rdE (A0v) g0v 0 k0v 4 (rvals xs0))]) (fun x_ => True) (by kernel_rfl) (fun w hT => (cloneR A0v g0v 0 k0v c0v xs0 w (hT.viewRo (.cons (i := 1) rfl Vw.rd .nil) rfl) (by omega)).mono fun e w' ⟨A1, g2, k3, cp4, he_, ht_⟩ => ⟨(A1, g2, k3, cp4), he_, trivial, hT.news ht_ rfl⟩) ?_
 rintro ⟨A1, g2, k3, cp4⟩ hf5_
 refine cont_norm [(11, .slice A0v k0v c0v), (12, .slice A1 k3 cp4)] [.gen (rowE (A1) g2 k3 cp4 28 4 (rvals xs0) true), .ro ob [.pointer (pB m), .pointer (pB m1), .slice A0v k0v c0v, .slice A1v k1v c1v, iq w0, iq w1, iq fr, iq 0] 98, .gen (rdE (A0v) g0v 0 k0v 4 (rvals xs0))] (by kernel_rfl) rfl ?_
 refine cont_fact (F := (0 < k3 → (A1 : Option Addr) = pB g2) ∧ xs0.length = k3 ∧ k3 ≤ cp4 ∧ cp4 ≤ maxLen) (fun w hT => Row.factsR (hT.ok 0 _ rfl)) (fun hr6_ => ?_)
 obtain ⟨hr6_a, hr6_l, hr6_c, hr6_m⟩ := hr6_
 unfold maxLen at hr6_m
 refine drawn_next 1 [] (by kernel_rfl) ?_
 refine takes 1 [] [(10, 0)] 0 [10, 9, 8, 7, 4, 6, 3, 5, 2, 1, 0] [(2, .slice A1 k3 cp4)] (by kernel_rfl) (pok_then pok_body) (by kernel_rfl) rfl rfl (by kernel_rfl) (by kernel_rfl) ?_
 refine drawn_done (by kernel_rfl) ?_
 refine then_normal ?_
 refine cont_ret ?_
 refine ret_one (.inl rfl) rfl 0 (.slice A1 k3 cp4) (by kernel_rfl) (by kernel_rfl) (fun w hT => ?_)
 replace hT := hT.erase 2 (fun e h hw => by cases h; first | rfl | cases hw)
 replace hT := hT.erase 1 (fun e h hw => by cases h; first | rfl | cases hw)
 exact ⟨_, _, _, _, rfl, hT⟩

theorem outFlip1 (ob m m1 : Nat) (A0v A1v : Option Addr) (k0v c0v k1v c1v : Nat) (w0 w1 fr : Int) (w : World) (hT0 : Tab w w [.cells ob [.pointer (some ⟨m, 0, none⟩), .pointer (some ⟨m1, 0, none⟩), .slice A0v k0v c0v, .slice A1v k1v c1v, .int .i64 w0, .int .i64 w1, .int .i64 fr, .int .i64 1] 98 false]) (hf : 0 ≤ fr ∧ fr ≤ 1000000000000) :
    Calls Try.prog 32 #[.pointer (some ⟨ob, 0, none⟩)] w fun e w' => e = .returned (.int .i64 (fr + 1)) ∧ Tab w w' [.cells ob [.pointer (some ⟨m, 0, none⟩), .pointer (some ⟨m1, 0, none⟩), .slice A0v k0v c0v, .slice none 0 0, .int .i64 w0, .int .i64 (fr + 1), .int .i64 (fr + 1), .int .i64 0] 98 false] := by
 refine enter 42 [(0, .pointer (pB ob))] [.cells ob [.pointer (pB m), .pointer (pB m1), .slice A0v k0v c0v, .slice A1v k1v c1v, iq w0, iq w1, iq fr, iq 1] 98 false] Try.func32 rfl Try.ntmps32 rfl (by kernel_rfl) hT0 ?_
 refine cont_seq ?_
 refine cont_region 1 rfl ?_
 refine bS [0] 1 0 [(0, .pointer (pB ob))] ?_
 refine cont_done ?_
 refine then_normal ?_
 refine cont_seq ?_
 refine cont_region 8 rfl ?_
 refine bS [0, 0, 0, 0, 0] 5 3 [(0, .pointer (pB ob)), (3, .pointer (pB ob)), (7, iq (IntKind.i64.wrap (fr + 1)))] ?_
 refine cont_recast 7 (iq (IntKind.i64.wrap (fr + 1))) (iq (fr + 1)) rfl (wrapI (by omega) (by omega)) ?_
 refine batch0 [0, 0, 0] 8 0 [(0, .pointer (pB ob))] [.cells ob [.pointer (pB m), .pointer (pB m1), .slice A0v k0v c0v, .slice A1v k1v c1v, iq w0, iq w1, iq (fr + 1), iq 1] 98 false] rfl rfl (by kernel_rfl) (by kernel_rfl) ?_
 refine cont_done ?_
 refine then_normal ?_
 refine cont_seq ?_
 refine drawn_enter 22 [0] rfl (by kernel_rfl) ?_
 refine takes 0 [0] [(0, 0), (1, 0), (5, 0), (6, 0), (10, 0), (2, 0), (7, 0), (11, 0), (14, 0), (18, 0), (3, 0), (8, 0), (12, 0), (15, 0), (19, 0)] 7 [19, 15, 12, 8, 3, 18, 14, 11, 7, 2, 10, 6, 5, 1, 0] [(0, .pointer (pB ob)), (13, .pointer (some ⟨ob, 7, none⟩)), (18, .pointer (some ⟨ob, 7, none⟩)), (22, .pointer (some ⟨ob, 6, none⟩)), (25, .pointer (some ⟨ob, 2, none⟩)), (28, .pointer (some ⟨ob, 4, none⟩))] (by kernel_rfl) (pok_then pok_body) (by kernel_rfl) rfl rfl (by kernel_rfl) (by kernel_rfl) ?_
 refine drawn_three 4 9 13 6 rfl (by kernel_rfl) ?_ ?_ ?_
 ·
  refine one_step 0 [(0, .pointer (pB ob)), (14, iq 1), (18, .pointer (some ⟨ob, 7, none⟩)), (22, .pointer (some ⟨ob, 6, none⟩)), (25, .pointer (some ⟨ob, 2, none⟩)), (28, .pointer (some ⟨ob, 4, none⟩))] [.cells ob [.pointer (pB m), .pointer (pB m1), .slice A0v k0v c0v, .slice A1v k1v c1v, iq w0, iq w1, iq (fr + 1), iq 1] 98 false] (by kernel_rfl) (by kernel_rfl) ?_
  refine drawn_next 0 [0] (by kernel_rfl) ?_
  refine drawn_two 9 13 5 rfl (by kernel_rfl) ?_ ?_
  ·
   refine one_step 0 [(0, .pointer (pB ob)), (14, iq 1), (19, iq 1), (22, .pointer (some ⟨ob, 6, none⟩)), (25, .pointer (some ⟨ob, 2, none⟩)), (28, .pointer (some ⟨ob, 4, none⟩))] [.cells ob [.pointer (pB m), .pointer (pB m1), .slice A0v k0v c0v, .slice A1v k1v c1v, iq w0, iq w1, iq (fr + 1), iq 1] 98 false] (by kernel_rfl) (by kernel_rfl) ?_
   refine drawn_next 0 [0] (by kernel_rfl) ?_
   refine drawn_one 13 4 rfl (by kernel_rfl) ?_
   refine one_step 0 [(0, .pointer (pB ob)), (14, iq 1), (19, iq 1), (23, iq (fr + 1)), (25, .pointer (some ⟨ob, 2, none⟩)), (28, .pointer (some ⟨ob, 4, none⟩))] [.cells ob [.pointer (pB m), .pointer (pB m1), .slice A0v k0v c0v, .slice A1v k1v c1v, iq w0, iq w1, iq (fr + 1), iq 1] 98 false] (by kernel_rfl) (by kernel_rfl) ?_
   refine drawn_next 0 [0] (by kernel_rfl) ?_
   refine takes 0 [0] [(16, 0)] 3 [16, 13, 9, 4, 19, 15, 12, 8, 3, 18, 14, 11, 7, 2, 10, 6, 5, 1, 0] [(0, .pointer (pB ob)), (19, iq 1), (23, iq (fr + 1)), (26, .pointer (some ⟨ob, 3, none⟩)), (28, .pointer (some ⟨ob, 4, none⟩))] (by kernel_rfl) (pok_then pok_body) (by kernel_rfl) rfl rfl (by kernel_rfl) (by kernel_rfl) ?_
   refine drawn_one 17 2 rfl (by kernel_rfl) ?_
   refine one_step 0 [(0, .pointer (pB ob)), (19, iq 1), (23, iq (fr + 1)), (28, .pointer (some ⟨ob, 4, none⟩))] [.cells ob [.pointer (pB m), .pointer (pB m1), .slice A0v k0v c0v, .slice none 0 0, iq w0, iq w1, iq (fr + 1), iq 1] 98 false] (by kernel_rfl) (by kernel_rfl) ?_
   refine drawn_next 0 [0] (by kernel_rfl) ?_
   refine takes 0 [0] [(20, 0)] 1 [20, 17, 16, 13, 9, 4, 19, 15, 12, 8, 3, 18, 14, 11, 7, 2, 10, 6, 5, 1, 0] [(0, .pointer (pB ob)), (23, iq (fr + 1)), (29, .pointer (some ⟨ob, 5, none⟩))] (by kernel_rfl) (pok_then pok_body) (by kernel_rfl) rfl rfl (by kernel_rfl) (by kernel_rfl) ?_
   refine drawn_one 21 0 rfl (by kernel_rfl) ?_
   refine one_step 0 [(0, .pointer (pB ob))] [.cells ob [.pointer (pB m), .pointer (pB m1), .slice A0v k0v c0v, .slice none 0 0, iq w0, iq (fr + 1), iq (fr + 1), iq 1] 98 false] (by kernel_rfl) (by kernel_rfl) ?_
   refine drawn_next 0 [0] (by kernel_rfl) ?_
   refine drawn_done (by kernel_rfl) ?_
   refine then_normal ?_
   refine cont_seq ?_
   refine cont_region 9 rfl ?_
   refine batch0 [0, 0, 0, 0, 0, 0, 0, 0, 0] 9 0 [(0, .pointer (pB ob))] [.cells ob [.pointer (pB m), .pointer (pB m1), .slice A0v k0v c0v, .slice none 0 0, iq w0, iq (fr + 1), iq (fr + 1), iq 0] 98 false] rfl rfl (by kernel_rfl) (by kernel_rfl) ?_
   refine cont_done ?_
   refine then_normal ?_
   refine cont_seq ?_
   refine cont_region 5 rfl ?_
   refine bS [0, 0, 0, 0, 0] 5 0 [(2, iq (fr + 1))] ?_
   refine cont_done ?_
   refine then_normal ?_
   refine cont_ret ?_
   refine ret_one (.inl rfl) rfl 0 (iq (fr + 1)) (by kernel_rfl) (by kernel_rfl) (fun w hT => ?_)
   exact ⟨rfl, hT⟩
  refine one_step 0 [(0, .pointer (pB ob)), (14, iq 1), (18, .pointer (some ⟨ob, 7, none⟩)), (23, iq (fr + 1)), (25, .pointer (some ⟨ob, 2, none⟩)), (28, .pointer (some ⟨ob, 4, none⟩))] [.cells ob [.pointer (pB m), .pointer (pB m1), .slice A0v k0v c0v, .slice A1v k1v c1v, iq w0, iq w1, iq (fr + 1), iq 1] 98 false] (by kernel_rfl) (by kernel_rfl) ?_
  refine drawn_next 0 [0] (by kernel_rfl) ?_
  refine drawn_one 9 4 rfl (by kernel_rfl) ?_
  refine one_step 0 [(0, .pointer (pB ob)), (14, iq 1), (19, iq 1), (23, iq (fr + 1)), (25, .pointer (some ⟨ob, 2, none⟩)), (28, .pointer (some ⟨ob, 4, none⟩))] [.cells ob [.pointer (pB m), .pointer (pB m1), .slice A0v k0v c0v, .slice A1v k1v c1v, iq w0, iq w1, iq (fr + 1), iq 1] 98 false] (by kernel_rfl) (by kernel_rfl) ?_
  refine drawn_next 0 [0] (by kernel_rfl) ?_
  refine takes 0 [0] [(16, 0)] 3 [16, 9, 13, 4, 19, 15, 12, 8, 3, 18, 14, 11, 7, 2, 10, 6, 5, 1, 0] [(0, .pointer (pB ob)), (19, iq 1), (23, iq (fr + 1)), (26, .pointer (some ⟨ob, 3, none⟩)), (28, .pointer (some ⟨ob, 4, none⟩))] (by kernel_rfl) (pok_then pok_body) (by kernel_rfl) rfl rfl (by kernel_rfl) (by kernel_rfl) ?_
  refine drawn_one 17 2 rfl (by kernel_rfl) ?_
  refine one_step 0 [(0, .pointer (pB ob)), (19, iq 1), (23, iq (fr + 1)), (28, .pointer (some ⟨ob, 4, none⟩))] [.cells ob [.pointer (pB m), .pointer (pB m1), .slice A0v k0v c0v, .slice none 0 0, iq w0, iq w1, iq (fr + 1), iq 1] 98 false] (by kernel_rfl) (by kernel_rfl) ?_
  refine drawn_next 0 [0] (by kernel_rfl) ?_
  refine takes 0 [0] [(20, 0)] 1 [20, 17, 16, 9, 13, 4, 19, 15, 12, 8, 3, 18, 14, 11, 7, 2, 10, 6, 5, 1, 0] [(0, .pointer (pB ob)), (23, iq (fr + 1)), (29, .pointer (some ⟨ob, 5, none⟩))] (by kernel_rfl) (pok_then pok_body) (by kernel_rfl) rfl rfl (by kernel_rfl) (by kernel_rfl) ?_
  refine drawn_one 21 0 rfl (by kernel_rfl) ?_
  refine one_step 0 [(0, .pointer (pB ob))] [.cells ob [.pointer (pB m), .pointer (pB m1), .slice A0v k0v c0v, .slice none 0 0, iq w0, iq (fr + 1), iq (fr + 1), iq 1] 98 false] (by kernel_rfl) (by kernel_rfl) ?_
  refine drawn_next 0 [0] (by kernel_rfl) ?_
  refine drawn_done (by kernel_rfl) ?_
  refine then_normal ?_
  refine cont_seq ?_
  refine cont_region 9 rfl ?_
  refine batch0 [0, 0, 0, 0, 0, 0, 0, 0, 0] 9 0 [(0, .pointer (pB ob))] [.cells ob [.pointer (pB m), .pointer (pB m1), .slice A0v k0v c0v, .slice none 0 0, iq w0, iq (fr + 1), iq (fr + 1), iq 0] 98 false] rfl rfl (by kernel_rfl) (by kernel_rfl) ?_
  refine cont_done ?_
  refine then_normal ?_
  refine cont_seq ?_
  refine cont_region 5 rfl ?_
  refine bS [0, 0, 0, 0, 0] 5 0 [(2, iq (fr + 1))] ?_
  refine cont_done ?_
  refine then_normal ?_
  refine cont_ret ?_
  refine ret_one (.inl rfl) rfl 0 (iq (fr + 1)) (by kernel_rfl) (by kernel_rfl) (fun w hT => ?_)
  exact ⟨rfl, hT⟩
 ·
  refine one_step 0 [(0, .pointer (pB ob)), (13, .pointer (some ⟨ob, 7, none⟩)), (19, iq 1), (22, .pointer (some ⟨ob, 6, none⟩)), (25, .pointer (some ⟨ob, 2, none⟩)), (28, .pointer (some ⟨ob, 4, none⟩))] [.cells ob [.pointer (pB m), .pointer (pB m1), .slice A0v k0v c0v, .slice A1v k1v c1v, iq w0, iq w1, iq (fr + 1), iq 1] 98 false] (by kernel_rfl) (by kernel_rfl) ?_
  refine drawn_next 0 [0] (by kernel_rfl) ?_
  refine drawn_two 4 13 5 rfl (by kernel_rfl) ?_ ?_
  ·
   refine one_step 0 [(0, .pointer (pB ob)), (14, iq 1), (19, iq 1), (22, .pointer (some ⟨ob, 6, none⟩)), (25, .pointer (some ⟨ob, 2, none⟩)), (28, .pointer (some ⟨ob, 4, none⟩))] [.cells ob [.pointer (pB m), .pointer (pB m1), .slice A0v k0v c0v, .slice A1v k1v c1v, iq w0, iq w1, iq (fr + 1), iq 1] 98 false] (by kernel_rfl) (by kernel_rfl) ?_
   refine drawn_next 0 [0] (by kernel_rfl) ?_
   refine drawn_one 13 4 rfl (by kernel_rfl) ?_
   refine one_step 0 [(0, .pointer (pB ob)), (14, iq 1), (19, iq 1), (23, iq (fr + 1)), (25, .pointer (some ⟨ob, 2, none⟩)), (28, .pointer (some ⟨ob, 4, none⟩))] [.cells ob [.pointer (pB m), .pointer (pB m1), .slice A0v k0v c0v, .slice A1v k1v c1v, iq w0, iq w1, iq (fr + 1), iq 1] 98 false] (by kernel_rfl) (by kernel_rfl) ?_
   refine drawn_next 0 [0] (by kernel_rfl) ?_
   refine takes 0 [0] [(16, 0)] 3 [16, 13, 4, 9, 19, 15, 12, 8, 3, 18, 14, 11, 7, 2, 10, 6, 5, 1, 0] [(0, .pointer (pB ob)), (19, iq 1), (23, iq (fr + 1)), (26, .pointer (some ⟨ob, 3, none⟩)), (28, .pointer (some ⟨ob, 4, none⟩))] (by kernel_rfl) (pok_then pok_body) (by kernel_rfl) rfl rfl (by kernel_rfl) (by kernel_rfl) ?_
   refine drawn_one 17 2 rfl (by kernel_rfl) ?_
   refine one_step 0 [(0, .pointer (pB ob)), (19, iq 1), (23, iq (fr + 1)), (28, .pointer (some ⟨ob, 4, none⟩))] [.cells ob [.pointer (pB m), .pointer (pB m1), .slice A0v k0v c0v, .slice none 0 0, iq w0, iq w1, iq (fr + 1), iq 1] 98 false] (by kernel_rfl) (by kernel_rfl) ?_
   refine drawn_next 0 [0] (by kernel_rfl) ?_
   refine takes 0 [0] [(20, 0)] 1 [20, 17, 16, 13, 4, 9, 19, 15, 12, 8, 3, 18, 14, 11, 7, 2, 10, 6, 5, 1, 0] [(0, .pointer (pB ob)), (23, iq (fr + 1)), (29, .pointer (some ⟨ob, 5, none⟩))] (by kernel_rfl) (pok_then pok_body) (by kernel_rfl) rfl rfl (by kernel_rfl) (by kernel_rfl) ?_
   refine drawn_one 21 0 rfl (by kernel_rfl) ?_
   refine one_step 0 [(0, .pointer (pB ob))] [.cells ob [.pointer (pB m), .pointer (pB m1), .slice A0v k0v c0v, .slice none 0 0, iq w0, iq (fr + 1), iq (fr + 1), iq 1] 98 false] (by kernel_rfl) (by kernel_rfl) ?_
   refine drawn_next 0 [0] (by kernel_rfl) ?_
   refine drawn_done (by kernel_rfl) ?_
   refine then_normal ?_
   refine cont_seq ?_
   refine cont_region 9 rfl ?_
   refine batch0 [0, 0, 0, 0, 0, 0, 0, 0, 0] 9 0 [(0, .pointer (pB ob))] [.cells ob [.pointer (pB m), .pointer (pB m1), .slice A0v k0v c0v, .slice none 0 0, iq w0, iq (fr + 1), iq (fr + 1), iq 0] 98 false] rfl rfl (by kernel_rfl) (by kernel_rfl) ?_
   refine cont_done ?_
   refine then_normal ?_
   refine cont_seq ?_
   refine cont_region 5 rfl ?_
   refine bS [0, 0, 0, 0, 0] 5 0 [(2, iq (fr + 1))] ?_
   refine cont_done ?_
   refine then_normal ?_
   refine cont_ret ?_
   refine ret_one (.inl rfl) rfl 0 (iq (fr + 1)) (by kernel_rfl) (by kernel_rfl) (fun w hT => ?_)
   exact ⟨rfl, hT⟩
  refine one_step 0 [(0, .pointer (pB ob)), (13, .pointer (some ⟨ob, 7, none⟩)), (19, iq 1), (23, iq (fr + 1)), (25, .pointer (some ⟨ob, 2, none⟩)), (28, .pointer (some ⟨ob, 4, none⟩))] [.cells ob [.pointer (pB m), .pointer (pB m1), .slice A0v k0v c0v, .slice A1v k1v c1v, iq w0, iq w1, iq (fr + 1), iq 1] 98 false] (by kernel_rfl) (by kernel_rfl) ?_
  refine drawn_next 0 [0] (by kernel_rfl) ?_
  refine drawn_one 4 4 rfl (by kernel_rfl) ?_
  refine one_step 0 [(0, .pointer (pB ob)), (14, iq 1), (19, iq 1), (23, iq (fr + 1)), (25, .pointer (some ⟨ob, 2, none⟩)), (28, .pointer (some ⟨ob, 4, none⟩))] [.cells ob [.pointer (pB m), .pointer (pB m1), .slice A0v k0v c0v, .slice A1v k1v c1v, iq w0, iq w1, iq (fr + 1), iq 1] 98 false] (by kernel_rfl) (by kernel_rfl) ?_
  refine drawn_next 0 [0] (by kernel_rfl) ?_
  refine takes 0 [0] [(16, 0)] 3 [16, 4, 13, 9, 19, 15, 12, 8, 3, 18, 14, 11, 7, 2, 10, 6, 5, 1, 0] [(0, .pointer (pB ob)), (19, iq 1), (23, iq (fr + 1)), (26, .pointer (some ⟨ob, 3, none⟩)), (28, .pointer (some ⟨ob, 4, none⟩))] (by kernel_rfl) (pok_then pok_body) (by kernel_rfl) rfl rfl (by kernel_rfl) (by kernel_rfl) ?_
  refine drawn_one 17 2 rfl (by kernel_rfl) ?_
  refine one_step 0 [(0, .pointer (pB ob)), (19, iq 1), (23, iq (fr + 1)), (28, .pointer (some ⟨ob, 4, none⟩))] [.cells ob [.pointer (pB m), .pointer (pB m1), .slice A0v k0v c0v, .slice none 0 0, iq w0, iq w1, iq (fr + 1), iq 1] 98 false] (by kernel_rfl) (by kernel_rfl) ?_
  refine drawn_next 0 [0] (by kernel_rfl) ?_
  refine takes 0 [0] [(20, 0)] 1 [20, 17, 16, 4, 13, 9, 19, 15, 12, 8, 3, 18, 14, 11, 7, 2, 10, 6, 5, 1, 0] [(0, .pointer (pB ob)), (23, iq (fr + 1)), (29, .pointer (some ⟨ob, 5, none⟩))] (by kernel_rfl) (pok_then pok_body) (by kernel_rfl) rfl rfl (by kernel_rfl) (by kernel_rfl) ?_
  refine drawn_one 21 0 rfl (by kernel_rfl) ?_
  refine one_step 0 [(0, .pointer (pB ob))] [.cells ob [.pointer (pB m), .pointer (pB m1), .slice A0v k0v c0v, .slice none 0 0, iq w0, iq (fr + 1), iq (fr + 1), iq 1] 98 false] (by kernel_rfl) (by kernel_rfl) ?_
  refine drawn_next 0 [0] (by kernel_rfl) ?_
  refine drawn_done (by kernel_rfl) ?_
  refine then_normal ?_
  refine cont_seq ?_
  refine cont_region 9 rfl ?_
  refine batch0 [0, 0, 0, 0, 0, 0, 0, 0, 0] 9 0 [(0, .pointer (pB ob))] [.cells ob [.pointer (pB m), .pointer (pB m1), .slice A0v k0v c0v, .slice none 0 0, iq w0, iq (fr + 1), iq (fr + 1), iq 0] 98 false] rfl rfl (by kernel_rfl) (by kernel_rfl) ?_
  refine cont_done ?_
  refine then_normal ?_
  refine cont_seq ?_
  refine cont_region 5 rfl ?_
  refine bS [0, 0, 0, 0, 0] 5 0 [(2, iq (fr + 1))] ?_
  refine cont_done ?_
  refine then_normal ?_
  refine cont_ret ?_
  refine ret_one (.inl rfl) rfl 0 (iq (fr + 1)) (by kernel_rfl) (by kernel_rfl) (fun w hT => ?_)
  exact ⟨rfl, hT⟩
 ·
  refine one_step 0 [(0, .pointer (pB ob)), (13, .pointer (some ⟨ob, 7, none⟩)), (18, .pointer (some ⟨ob, 7, none⟩)), (23, iq (fr + 1)), (25, .pointer (some ⟨ob, 2, none⟩)), (28, .pointer (some ⟨ob, 4, none⟩))] [.cells ob [.pointer (pB m), .pointer (pB m1), .slice A0v k0v c0v, .slice A1v k1v c1v, iq w0, iq w1, iq (fr + 1), iq 1] 98 false] (by kernel_rfl) (by kernel_rfl) ?_
  refine drawn_next 0 [0] (by kernel_rfl) ?_
  refine drawn_two 4 9 5 rfl (by kernel_rfl) ?_ ?_
  ·
   refine one_step 0 [(0, .pointer (pB ob)), (14, iq 1), (18, .pointer (some ⟨ob, 7, none⟩)), (23, iq (fr + 1)), (25, .pointer (some ⟨ob, 2, none⟩)), (28, .pointer (some ⟨ob, 4, none⟩))] [.cells ob [.pointer (pB m), .pointer (pB m1), .slice A0v k0v c0v, .slice A1v k1v c1v, iq w0, iq w1, iq (fr + 1), iq 1] 98 false] (by kernel_rfl) (by kernel_rfl) ?_
   refine drawn_next 0 [0] (by kernel_rfl) ?_
   refine drawn_one 9 4 rfl (by kernel_rfl) ?_
   refine one_step 0 [(0, .pointer (pB ob)), (14, iq 1), (19, iq 1), (23, iq (fr + 1)), (25, .pointer (some ⟨ob, 2, none⟩)), (28, .pointer (some ⟨ob, 4, none⟩))] [.cells ob [.pointer (pB m), .pointer (pB m1), .slice A0v k0v c0v, .slice A1v k1v c1v, iq w0, iq w1, iq (fr + 1), iq 1] 98 false] (by kernel_rfl) (by kernel_rfl) ?_
   refine drawn_next 0 [0] (by kernel_rfl) ?_
   refine takes 0 [0] [(16, 0)] 3 [16, 9, 4, 13, 19, 15, 12, 8, 3, 18, 14, 11, 7, 2, 10, 6, 5, 1, 0] [(0, .pointer (pB ob)), (19, iq 1), (23, iq (fr + 1)), (26, .pointer (some ⟨ob, 3, none⟩)), (28, .pointer (some ⟨ob, 4, none⟩))] (by kernel_rfl) (pok_then pok_body) (by kernel_rfl) rfl rfl (by kernel_rfl) (by kernel_rfl) ?_
   refine drawn_one 17 2 rfl (by kernel_rfl) ?_
   refine one_step 0 [(0, .pointer (pB ob)), (19, iq 1), (23, iq (fr + 1)), (28, .pointer (some ⟨ob, 4, none⟩))] [.cells ob [.pointer (pB m), .pointer (pB m1), .slice A0v k0v c0v, .slice none 0 0, iq w0, iq w1, iq (fr + 1), iq 1] 98 false] (by kernel_rfl) (by kernel_rfl) ?_
   refine drawn_next 0 [0] (by kernel_rfl) ?_
   refine takes 0 [0] [(20, 0)] 1 [20, 17, 16, 9, 4, 13, 19, 15, 12, 8, 3, 18, 14, 11, 7, 2, 10, 6, 5, 1, 0] [(0, .pointer (pB ob)), (23, iq (fr + 1)), (29, .pointer (some ⟨ob, 5, none⟩))] (by kernel_rfl) (pok_then pok_body) (by kernel_rfl) rfl rfl (by kernel_rfl) (by kernel_rfl) ?_
   refine drawn_one 21 0 rfl (by kernel_rfl) ?_
   refine one_step 0 [(0, .pointer (pB ob))] [.cells ob [.pointer (pB m), .pointer (pB m1), .slice A0v k0v c0v, .slice none 0 0, iq w0, iq (fr + 1), iq (fr + 1), iq 1] 98 false] (by kernel_rfl) (by kernel_rfl) ?_
   refine drawn_next 0 [0] (by kernel_rfl) ?_
   refine drawn_done (by kernel_rfl) ?_
   refine then_normal ?_
   refine cont_seq ?_
   refine cont_region 9 rfl ?_
   refine batch0 [0, 0, 0, 0, 0, 0, 0, 0, 0] 9 0 [(0, .pointer (pB ob))] [.cells ob [.pointer (pB m), .pointer (pB m1), .slice A0v k0v c0v, .slice none 0 0, iq w0, iq (fr + 1), iq (fr + 1), iq 0] 98 false] rfl rfl (by kernel_rfl) (by kernel_rfl) ?_
   refine cont_done ?_
   refine then_normal ?_
   refine cont_seq ?_
   refine cont_region 5 rfl ?_
   refine bS [0, 0, 0, 0, 0] 5 0 [(2, iq (fr + 1))] ?_
   refine cont_done ?_
   refine then_normal ?_
   refine cont_ret ?_
   refine ret_one (.inl rfl) rfl 0 (iq (fr + 1)) (by kernel_rfl) (by kernel_rfl) (fun w hT => ?_)
   exact ⟨rfl, hT⟩
  refine one_step 0 [(0, .pointer (pB ob)), (13, .pointer (some ⟨ob, 7, none⟩)), (19, iq 1), (23, iq (fr + 1)), (25, .pointer (some ⟨ob, 2, none⟩)), (28, .pointer (some ⟨ob, 4, none⟩))] [.cells ob [.pointer (pB m), .pointer (pB m1), .slice A0v k0v c0v, .slice A1v k1v c1v, iq w0, iq w1, iq (fr + 1), iq 1] 98 false] (by kernel_rfl) (by kernel_rfl) ?_
  refine drawn_next 0 [0] (by kernel_rfl) ?_
  refine drawn_one 4 4 rfl (by kernel_rfl) ?_
  refine one_step 0 [(0, .pointer (pB ob)), (14, iq 1), (19, iq 1), (23, iq (fr + 1)), (25, .pointer (some ⟨ob, 2, none⟩)), (28, .pointer (some ⟨ob, 4, none⟩))] [.cells ob [.pointer (pB m), .pointer (pB m1), .slice A0v k0v c0v, .slice A1v k1v c1v, iq w0, iq w1, iq (fr + 1), iq 1] 98 false] (by kernel_rfl) (by kernel_rfl) ?_
  refine drawn_next 0 [0] (by kernel_rfl) ?_
  refine takes 0 [0] [(16, 0)] 3 [16, 4, 9, 13, 19, 15, 12, 8, 3, 18, 14, 11, 7, 2, 10, 6, 5, 1, 0] [(0, .pointer (pB ob)), (19, iq 1), (23, iq (fr + 1)), (26, .pointer (some ⟨ob, 3, none⟩)), (28, .pointer (some ⟨ob, 4, none⟩))] (by kernel_rfl) (pok_then pok_body) (by kernel_rfl) rfl rfl (by kernel_rfl) (by kernel_rfl) ?_
  refine drawn_one 17 2 rfl (by kernel_rfl) ?_
  refine one_step 0 [(0, .pointer (pB ob)), (19, iq 1), (23, iq (fr + 1)), (28, .pointer (some ⟨ob, 4, none⟩))] [.cells ob [.pointer (pB m), .pointer (pB m1), .slice A0v k0v c0v, .slice none 0 0, iq w0, iq w1, iq (fr + 1), iq 1] 98 false] (by kernel_rfl) (by kernel_rfl) ?_
  refine drawn_next 0 [0] (by kernel_rfl) ?_
  refine takes 0 [0] [(20, 0)] 1 [20, 17, 16, 4, 9, 13, 19, 15, 12, 8, 3, 18, 14, 11, 7, 2, 10, 6, 5, 1, 0] [(0, .pointer (pB ob)), (23, iq (fr + 1)), (29, .pointer (some ⟨ob, 5, none⟩))] (by kernel_rfl) (pok_then pok_body) (by kernel_rfl) rfl rfl (by kernel_rfl) (by kernel_rfl) ?_
  refine drawn_one 21 0 rfl (by kernel_rfl) ?_
  refine one_step 0 [(0, .pointer (pB ob))] [.cells ob [.pointer (pB m), .pointer (pB m1), .slice A0v k0v c0v, .slice none 0 0, iq w0, iq (fr + 1), iq (fr + 1), iq 1] 98 false] (by kernel_rfl) (by kernel_rfl) ?_
  refine drawn_next 0 [0] (by kernel_rfl) ?_
  refine drawn_done (by kernel_rfl) ?_
  refine then_normal ?_
  refine cont_seq ?_
  refine cont_region 9 rfl ?_
  refine batch0 [0, 0, 0, 0, 0, 0, 0, 0, 0] 9 0 [(0, .pointer (pB ob))] [.cells ob [.pointer (pB m), .pointer (pB m1), .slice A0v k0v c0v, .slice none 0 0, iq w0, iq (fr + 1), iq (fr + 1), iq 0] 98 false] rfl rfl (by kernel_rfl) (by kernel_rfl) ?_
  refine cont_done ?_
  refine then_normal ?_
  refine cont_seq ?_
  refine cont_region 5 rfl ?_
  refine bS [0, 0, 0, 0, 0] 5 0 [(2, iq (fr + 1))] ?_
  refine cont_done ?_
  refine then_normal ?_
  refine cont_ret ?_
  refine ret_one (.inl rfl) rfl 0 (iq (fr + 1)) (by kernel_rfl) (by kernel_rfl) (fun w hT => ?_)
  exact ⟨rfl, hT⟩

theorem outStale1 (ob m m1 : Nat) (A0v A1v : Option Addr) (k0v c0v k1v c1v : Nat) (w0 w1 fr : Int) (g1v : Nat) (xs1 : List Rect) (w : World) (hT0 : Tab w w [.ro ob [.pointer (some ⟨m, 0, none⟩), .pointer (some ⟨m1, 0, none⟩), .slice A0v k0v c0v, .slice A1v k1v c1v, .int .i64 w0, .int .i64 w1, .int .i64 fr, .int .i64 1] 98, .gen (rdE (A1v) g1v 0 k1v 4 (rvals xs1))]) (hk : k1v ≤ 1000000000000) :
    Calls Try.prog 36 #[.pointer (some ⟨ob, 0, none⟩)] w fun e w' => ∃ (A_ : Option Addr) (g_ k_ cp_ : Nat), e = .returned (.slice A_ k_ cp_) ∧ Tab w w' [.gen (rowE (A_) g_ k_ cp_ 28 4 (rvals xs1) true)] := by
 obtain ⟨hra, hrl⟩ := Rd.factsR (hT0.ok 1 _ rfl)
 refine enter 13 [(0, .pointer (pB ob))] [.ro ob [.pointer (pB m), .pointer (pB m1), .slice A0v k0v c0v, .slice A1v k1v c1v, iq w0, iq w1, iq fr, iq 1] 98, .gen (rdE (A1v) g1v 0 k1v 4 (rvals xs1))] Try.func36 rfl Try.ntmps36 rfl (by kernel_rfl) hT0 ?_
 refine cont_seq ?_
 refine cont_region 1 rfl ?_
 refine bS [0] 1 0 [(0, .pointer (pB ob))] ?_
 refine cont_done ?_
 refine then_normal ?_
 refine cont_seq ?_
 refine drawn_enter 11 [] rfl (by kernel_rfl) ?_
 refine takes 0 [] [(0, 0), (1, 0), (2, 0), (5, 0), (3, 0), (6, 0), (4, 0), (7, 0), (8, 0)] 2 [8, 7, 4, 6, 3, 5, 2, 1, 0] [(11, .slice A1v k1v c1v)] (by kernel_rfl) (pok_then pok_body) (by kernel_rfl) rfl rfl (by kernel_rfl) (by kernel_rfl) ?_
 refine drawn_one 9 1 rfl (by kernel_rfl) ?_
 refine call_gen (d := 12) (α := Option Addr × Nat × Nat × Nat) (fun x_ => .slice x_.1 x_.2.2.1 x_.2.2.2) (fun x_ => [.gen (rowE (x_.1) x_.2.1 x_.2.2.1 x_.2.2.2 28 4 (rvals xs1) true), .ro ob [.pointer (pB m), .pointer (pB m1), .slice A0v k0v c0v, .slice A1v k1v c1v, iq w0, iq w1, iq fr, iq 1] 98, .gen (rdE (A1v) g1v 0 k1v 4 (rvals xs1))]) (fun x_ => True) (by kernel_rfl) (fun w hT => (cloneR A1v g1v 0 k1v c1v xs1 w (hT.viewRo (.cons (i := 1) rfl Vw.rd .nil) rfl) (by omega)).mono fun e w' ⟨A1, g2, k3, cp4, he_, ht_⟩ => ⟨(A1, g2, k3, cp4), he_, trivial, hT.news ht_ rfl⟩) ?_
 rintro ⟨A1, g2, k3, cp4⟩ hf5_
 refine cont_norm [(11, .slice A1v k1v c1v), (12, .slice A1 k3 cp4)] [.gen (rowE (A1) g2 k3 cp4 28 4 (rvals xs1) true), .ro ob [.pointer (pB m), .pointer (pB m1), .slice A0v k0v c0v, .slice A1v k1v c1v, iq w0, iq w1, iq fr, iq 1] 98, .gen (rdE (A1v) g1v 0 k1v 4 (rvals xs1))] (by kernel_rfl) rfl ?_
 refine cont_fact (F := (0 < k3 → (A1 : Option Addr) = pB g2) ∧ xs1.length = k3 ∧ k3 ≤ cp4 ∧ cp4 ≤ maxLen) (fun w hT => Row.factsR (hT.ok 0 _ rfl)) (fun hr6_ => ?_)
 obtain ⟨hr6_a, hr6_l, hr6_c, hr6_m⟩ := hr6_
 unfold maxLen at hr6_m
 refine drawn_next 1 [] (by kernel_rfl) ?_
 refine takes 1 [] [(10, 0)] 0 [10, 9, 8, 7, 4, 6, 3, 5, 2, 1, 0] [(2, .slice A1 k3 cp4)] (by kernel_rfl) (pok_then pok_body) (by kernel_rfl) rfl rfl (by kernel_rfl) (by kernel_rfl) ?_
 refine drawn_done (by kernel_rfl) ?_
 refine then_normal ?_
 refine cont_ret ?_
 refine ret_one (.inl rfl) rfl 0 (.slice A1 k3 cp4) (by kernel_rfl) (by kernel_rfl) (fun w hT => ?_)
 replace hT := hT.erase 2 (fun e h hw => by cases h; first | rfl | cases hw)
 replace hT := hT.erase 1 (fun e h hw => by cases h; first | rfl | cases hw)
 exact ⟨_, _, _, _, rfl, hT⟩

theorem outBox (ob m m1 : Nat) (A0v A1v : Option Addr) (k0v c0v k1v c1v : Nat) (w0 w1 fr : Int) (bk : Int) (W H : Int) (r n cap : Nat) (px : List Int) (w : World) (hT0 : Tab w w [.ro ob [.pointer (some ⟨m, 0, none⟩), .pointer (some ⟨m1, 0, none⟩), .slice A0v k0v c0v, .slice A1v k1v c1v, .int .i64 w0, .int .i64 w1, .int .i64 fr, .int .i64 bk] 98, .ro m [.int .i64 W, .int .i64 H, .slice (some ⟨r, 0, none⟩) n cap] 115, .gen (rdE (some ⟨r, 0, none⟩) r 0 n 1 (ivals .u32 px))]) (hcp : n ≤ cap) (hok : ImgOk W H n px) :
    Calls Try.prog 14 #[.pointer (some ⟨ob, 0, none⟩)] w fun e w' => e = .returned (.agg #[.int .i64 0, .int .i64 0, .int .i64 W, .int .i64 H]) ∧ Below w.heap.size w w' := by
 refine enter 9 [(0, .pointer (pB ob))] [.ro ob [.pointer (pB m), .pointer (pB m1), .slice A0v k0v c0v, .slice A1v k1v c1v, iq w0, iq w1, iq fr, iq bk] 98, .ro m [iq W, iq H, .slice (pB r) n cap] 115, .gen (rdE (pB r) r 0 n 1 (ivals .u32 px))] Try.func14 rfl Try.ntmps14 rfl (by kernel_rfl) hT0 ?_
 refine cont_seq ?_
 refine cont_region 1 rfl ?_
 refine batch1 [0] 1 0 (fun b1 => [(0, .pointer (pB ob)), (2, .pointer (pB b1))]) (fun b1 => [.cells b1 [iq 0, iq 0, iq 0, iq 0] 28 true, .ro ob [.pointer (pB m), .pointer (pB m1), .slice A0v k0v c0v, .slice A1v k1v c1v, iq w0, iq w1, iq fr, iq bk] 98, .ro m [iq W, iq H, .slice (pB r) n cap] 115, .gen (rdE (pB r) r 0 n 1 (ivals .u32 px))]) rfl rfl [0, 2] (fun _ => rfl) (fun b1 => by kernel_rfl) (fun b1 => by kernel_rfl) (fun b1 => ?_)
 refine cont_done ?_
 refine then_normal ?_
 refine cont_seq ?_
 refine cont_region 7 rfl ?_
 refine bS [0, 0, 0, 0, 1] 5 2 [(2, .pointer (pB b1)), (7, .pointer (pB m))] ?_
 refine pl_step 6 1 rfl rfl ?_
 refine call_pure (d := 8) (.agg #[iq 0, iq 0, iq W, iq H]) (by kernel_rfl) (fun w hT => imgBox m W H r n cap px  w ⟨hT.ok 2 _ rfl, hT.ok 3 _ rfl, by omega⟩ hok) ?_
 refine batch0 [0] 7 0 [(2, .pointer (pB b1))] [.cells b1 [iq 0, iq 0, iq W, iq H] 28 true, .ro ob [.pointer (pB m), .pointer (pB m1), .slice A0v k0v c0v, .slice A1v k1v c1v, iq w0, iq w1, iq fr, iq bk] 98, .ro m [iq W, iq H, .slice (pB r) n cap] 115, .gen (rdE (pB r) r 0 n 1 (ivals .u32 px))] rfl rfl (by kernel_rfl) (by kernel_rfl) ?_
 refine cont_done ?_
 refine then_normal ?_
 refine cont_ret ?_
 refine ret_one (.inl rfl) rfl 0 (.agg #[iq 0, iq 0, iq W, iq H]) (by kernel_rfl) (by kernel_rfl) (fun w hT => ?_)
 exact ⟨rfl, hT.post rfl⟩

theorem outDamage (ob m m1 : Nat) (A0v A1v : Option Addr) (k0v c0v k1v c1v : Nat) (w0 w1 fr : Int) (bk : Int) (W H : Int) (r n cap : Nat) (px : List Int) (g0v : Nat) (xs0 : List Rect) (g1v : Nat) (xs1 : List Rect) (Az : Option Addr) (gz oz nz capz : Nat) (xsz : List Rect) (w : World) (hT0 : Tab w w [.cells ob [.pointer (some ⟨m, 0, none⟩), .pointer (some ⟨m1, 0, none⟩), .slice A0v k0v c0v, .slice A1v k1v c1v, .int .i64 w0, .int .i64 w1, .int .i64 fr, .int .i64 bk] 98 false, .ro m [.int .i64 W, .int .i64 H, .slice (some ⟨r, 0, none⟩) n cap] 115, .gen (rdE (some ⟨r, 0, none⟩) r 0 n 1 (ivals .u32 px)), .gen (rdE (A0v) g0v 0 k0v 4 (rvals xs0)), .gen (rdE (A1v) g1v 0 k1v 4 (rvals xs1)), .gen (rdE (Az) gz oz nz 4 (rvals xsz))]) (hcp : n ≤ cap) (hok : ImgOk W H n px) (hk0 : k0v ≤ 64) (hk1 : k1v ≤ 64) (hnz : nz ≤ 14) :
    Calls Try.prog 34 #[.pointer (some ⟨ob, 0, none⟩), .slice Az nz capz] w fun e w' => ∃ (A_ : Option Addr) (g_ k_ cp_ : Nat) (A2_ : Option Addr) (g2_ k2_ cp2_ : Nat), e = .returned (.tuple #[]) ∧ Tab w w' [.gen (rowE (A_) g_ k_ cp_ 28 4 (rvals (keepL hullP (regM orB xs0 (regM andB (canR xsz) (canR [(⟨0, 0, W, H⟩ : Rect)]))) 64)) true), .gen (rowE (A2_) g2_ k2_ cp2_ 28 4 (rvals (keepL hullP (regM orB xs1 (regM andB (canR xsz) (canR [(⟨0, 0, W, H⟩ : Rect)]))) 64)) true), .cells ob [.pointer (some ⟨m, 0, none⟩), .pointer (some ⟨m1, 0, none⟩), .slice A_ k_ cp_, .slice A2_ k2_ cp2_, .int .i64 w0, .int .i64 w1, .int .i64 fr, .int .i64 bk] 98 false, .ro m [.int .i64 W, .int .i64 H, .slice (some ⟨r, 0, none⟩) n cap] 115, .gen (rdE (some ⟨r, 0, none⟩) r 0 n 1 (ivals .u32 px)), .gen (rdE (A0v) g0v 0 k0v 4 (rvals xs0)), .gen (rdE (A1v) g1v 0 k1v 4 (rvals xs1)), .gen (rdE (Az) gz oz nz 4 (rvals xsz))] := by
 obtain ⟨hra0, hrl0⟩ := Rd.factsR (hT0.ok 3 _ rfl)
 obtain ⟨hra1, hrl1⟩ := Rd.factsR (hT0.ok 4 _ rfl)
 obtain ⟨hraz, hrlz⟩ := Rd.factsR (hT0.ok 5 _ rfl)
 have hcz_ := canR_small (l := xsz) (by omega)
 have hcb_ := canR_small (l := [(⟨0, 0, W, H⟩ : Rect)]) (by simp)
 refine enter 32 [(0, .pointer (pB ob)), (1, .slice Az nz capz)] [.cells ob [.pointer (pB m), .pointer (pB m1), .slice A0v k0v c0v, .slice A1v k1v c1v, iq w0, iq w1, iq fr, iq bk] 98 false, .ro m [iq W, iq H, .slice (pB r) n cap] 115, .gen (rdE (pB r) r 0 n 1 (ivals .u32 px)), .gen (rdE (A0v) g0v 0 k0v 4 (rvals xs0)), .gen (rdE (A1v) g1v 0 k1v 4 (rvals xs1)), .gen (rdE (Az) gz oz nz 4 (rvals xsz))] Try.func34 rfl Try.ntmps34 rfl (by kernel_rfl) hT0 ?_
 refine cont_seq ?_
 refine cont_region 8 rfl ?_
 refine bS [0] 1 7 [(0, .pointer (pB ob)), (7, .slice Az nz capz)] ?_
 refine pl_step 2 6 rfl rfl ?_
 refine call_gen (d := 8) (α := Option Addr × Nat × Nat × Nat) (fun x_ => .slice x_.1 x_.2.2.1 x_.2.2.2) (fun x_ => [.gen (rowE (x_.1) x_.2.1 x_.2.2.1 x_.2.2.2 28 4 (rvals (canR xsz)) true), .cells ob [.pointer (pB m), .pointer (pB m1), .slice A0v k0v c0v, .slice A1v k1v c1v, iq w0, iq w1, iq fr, iq bk] 98 false, .ro m [iq W, iq H, .slice (pB r) n cap] 115, .gen (rdE (pB r) r 0 n 1 (ivals .u32 px)), .gen (rdE (A0v) g0v 0 k0v 4 (rvals xs0)), .gen (rdE (A1v) g1v 0 k1v 4 (rvals xs1)), .gen (rdE (Az) gz oz nz 4 (rvals xsz))]) (fun x_ => True) (by kernel_rfl) (fun w hT => (regOf Az gz oz nz capz xsz w (hT.viewRo (.cons (i := 5) rfl Vw.rd .nil) rfl) (by omega)).mono fun e w' ⟨A1, g2, k3, cp4, he_, ht_⟩ => ⟨(A1, g2, k3, cp4), he_, trivial, hT.news ht_ rfl⟩) ?_
 rintro ⟨A1, g2, k3, cp4⟩ hf5_
 refine cont_norm [(0, .pointer (pB ob)), (7, .slice Az nz capz), (8, .slice A1 k3 cp4)] [.gen (rowE (A1) g2 k3 cp4 28 4 (rvals (canR xsz)) true), .cells ob [.pointer (pB m), .pointer (pB m1), .slice A0v k0v c0v, .slice A1v k1v c1v, iq w0, iq w1, iq fr, iq bk] 98 false, .ro m [iq W, iq H, .slice (pB r) n cap] 115, .gen (rdE (pB r) r 0 n 1 (ivals .u32 px)), .gen (rdE (A0v) g0v 0 k0v 4 (rvals xs0)), .gen (rdE (A1v) g1v 0 k1v 4 (rvals xs1)), .gen (rdE (Az) gz oz nz 4 (rvals xsz))] (by kernel_rfl) rfl ?_
 refine cont_fact (F := (0 < k3 → (A1 : Option Addr) = pB g2) ∧ (canR xsz).length = k3 ∧ k3 ≤ cp4 ∧ cp4 ≤ maxLen) (fun w hT => Row.factsR (hT.ok 0 _ rfl)) (fun hr6_ => ?_)
 obtain ⟨hr6_a, hr6_l, hr6_c, hr6_m⟩ := hr6_
 unfold maxLen at hr6_m
 refine bS [0] 3 5 [(0, .pointer (pB ob)), (8, .slice A1 k3 cp4), (9, .pointer (pB ob))] ?_
 refine pl_step 4 4 rfl rfl ?_
 refine call_pure (d := 10) (.agg #[iq 0, iq 0, iq W, iq H]) (by kernel_rfl) (fun w hT => outBox ob m m1 A0v A1v k0v c0v k1v c1v w0 w1 fr bk W H r n cap px w (hT.viewRo (.cons (i := 1) rfl Vw.roc (.cons (i := 2) rfl Vw.ro (.cons (i := 3) rfl Vw.rd .nil))) rfl) (by omega) hok) ?_
 refine batch1 [0] 5 3 (fun b7 => [(0, .pointer (pB ob)), (8, .slice A1 k3 cp4), (11, .slice (pB b7) 1 1)]) (fun b7 => [.cells b7 [iq 0, iq 0, iq W, iq H] 28 true, .gen (rowE (A1) g2 k3 cp4 28 4 (rvals (canR xsz)) true), .cells ob [.pointer (pB m), .pointer (pB m1), .slice A0v k0v c0v, .slice A1v k1v c1v, iq w0, iq w1, iq fr, iq bk] 98 false, .ro m [iq W, iq H, .slice (pB r) n cap] 115, .gen (rdE (pB r) r 0 n 1 (ivals .u32 px)), .gen (rdE (A0v) g0v 0 k0v 4 (rvals xs0)), .gen (rdE (A1v) g1v 0 k1v 4 (rvals xs1)), .gen (rdE (Az) gz oz nz 4 (rvals xsz))]) rfl rfl [0, 8, 11] (fun _ => rfl) (fun b7 => by kernel_rfl) (fun b7 => by kernel_rfl) (fun b7 => ?_)
 refine pl_step 6 2 rfl rfl ?_
 refine cont_asRow 0 1 4 rfl (vals := rvals [(⟨0, 0, W, H⟩ : Rect)]) rfl rfl (by decide) ?_
 refine call_gen (d := 12) (α := Option Addr × Nat × Nat × Nat) (fun x_ => .slice x_.1 x_.2.2.1 x_.2.2.2) (fun x_ => [.gen (rowE (x_.1) x_.2.1 x_.2.2.1 x_.2.2.2 28 4 (rvals (canR [(⟨0, 0, W, H⟩ : Rect)])) true), .gen (rowE (pB b7) b7 1 1 28 4 (rvals [(⟨0, 0, W, H⟩ : Rect)]) true), .gen (rowE (A1) g2 k3 cp4 28 4 (rvals (canR xsz)) true), .cells ob [.pointer (pB m), .pointer (pB m1), .slice A0v k0v c0v, .slice A1v k1v c1v, iq w0, iq w1, iq fr, iq bk] 98 false, .ro m [iq W, iq H, .slice (pB r) n cap] 115, .gen (rdE (pB r) r 0 n 1 (ivals .u32 px)), .gen (rdE (A0v) g0v 0 k0v 4 (rvals xs0)), .gen (rdE (A1v) g1v 0 k1v 4 (rvals xs1)), .gen (rdE (Az) gz oz nz 4 (rvals xsz))]) (fun x_ => True) (by kernel_rfl) (fun w hT => (regOf (pB b7) b7 0 1 1 [(⟨0, 0, W, H⟩ : Rect)] w (hT.viewRo (.cons (i := 0) rfl Vw.rowRd .nil) rfl) (by omega)).mono fun e w' ⟨A8, g9, k10, cp11, he_, ht_⟩ => ⟨(A8, g9, k10, cp11), he_, trivial, hT.news ht_ rfl⟩) ?_
 rintro ⟨A8, g9, k10, cp11⟩ hf12_
 refine cont_norm [(0, .pointer (pB ob)), (8, .slice A1 k3 cp4), (11, .slice (pB b7) 1 1), (12, .slice A8 k10 cp11)] [.gen (rowE (A8) g9 k10 cp11 28 4 (rvals (canR [(⟨0, 0, W, H⟩ : Rect)])) true), .gen (rowE (pB b7) b7 1 1 28 4 (rvals [(⟨0, 0, W, H⟩ : Rect)]) true), .gen (rowE (A1) g2 k3 cp4 28 4 (rvals (canR xsz)) true), .cells ob [.pointer (pB m), .pointer (pB m1), .slice A0v k0v c0v, .slice A1v k1v c1v, iq w0, iq w1, iq fr, iq bk] 98 false, .ro m [iq W, iq H, .slice (pB r) n cap] 115, .gen (rdE (pB r) r 0 n 1 (ivals .u32 px)), .gen (rdE (A0v) g0v 0 k0v 4 (rvals xs0)), .gen (rdE (A1v) g1v 0 k1v 4 (rvals xs1)), .gen (rdE (Az) gz oz nz 4 (rvals xsz))] (by kernel_rfl) rfl ?_
 refine cont_fact (F := (0 < k10 → (A8 : Option Addr) = pB g9) ∧ (canR [(⟨0, 0, W, H⟩ : Rect)]).length = k10 ∧ k10 ≤ cp11 ∧ cp11 ≤ maxLen) (fun w hT => Row.factsR (hT.ok 0 _ rfl)) (fun hr13_ => ?_)
 obtain ⟨hr13_a, hr13_l, hr13_c, hr13_m⟩ := hr13_
 unfold maxLen at hr13_m
 refine pl_step 7 1 rfl rfl ?_
 refine call_gen (d := 13) (α := Option Addr × Nat × Nat × Nat) (fun x_ => .slice x_.1 x_.2.2.1 x_.2.2.2) (fun x_ => [.gen (rowE (x_.1) x_.2.1 x_.2.2.1 x_.2.2.2 28 4 (rvals (regM andB (canR xsz) (canR [(⟨0, 0, W, H⟩ : Rect)]))) true), .gen (rowE (A8) g9 k10 cp11 28 4 (rvals (canR [(⟨0, 0, W, H⟩ : Rect)])) true), .gen (rowE (pB b7) b7 1 1 28 4 (rvals [(⟨0, 0, W, H⟩ : Rect)]) true), .gen (rowE (A1) g2 k3 cp4 28 4 (rvals (canR xsz)) true), .cells ob [.pointer (pB m), .pointer (pB m1), .slice A0v k0v c0v, .slice A1v k1v c1v, iq w0, iq w1, iq fr, iq bk] 98 false, .ro m [iq W, iq H, .slice (pB r) n cap] 115, .gen (rdE (pB r) r 0 n 1 (ivals .u32 px)), .gen (rdE (A0v) g0v 0 k0v 4 (rvals xs0)), .gen (rdE (A1v) g1v 0 k1v 4 (rvals xs1)), .gen (rdE (Az) gz oz nz 4 (rvals xsz))]) (fun x_ => True) (by kernel_rfl) (fun w hT => (regCut A1 g2 0 k3 cp4 (canR xsz) A8 g9 0 k10 cp11 (canR [(⟨0, 0, W, H⟩ : Rect)]) w (hT.viewRo (.cons (i := 2) rfl Vw.rowRd (.cons (i := 0) rfl Vw.rowRd .nil)) rfl) (by omega)).mono fun e w' ⟨A14, g15, k16, cp17, he_, ht_⟩ => ⟨(A14, g15, k16, cp17), he_, trivial, hT.news ht_ rfl⟩) ?_
 rintro ⟨A14, g15, k16, cp17⟩ hf18_
 refine cont_norm [(0, .pointer (pB ob)), (8, .slice A1 k3 cp4), (11, .slice (pB b7) 1 1), (12, .slice A8 k10 cp11), (13, .slice A14 k16 cp17)] [.gen (rowE (A14) g15 k16 cp17 28 4 (rvals (regM andB (canR xsz) (canR [(⟨0, 0, W, H⟩ : Rect)]))) true), .gen (rowE (A8) g9 k10 cp11 28 4 (rvals (canR [(⟨0, 0, W, H⟩ : Rect)])) true), .gen (rowE (pB b7) b7 1 1 28 4 (rvals [(⟨0, 0, W, H⟩ : Rect)]) true), .gen (rowE (A1) g2 k3 cp4 28 4 (rvals (canR xsz)) true), .cells ob [.pointer (pB m), .pointer (pB m1), .slice A0v k0v c0v, .slice A1v k1v c1v, iq w0, iq w1, iq fr, iq bk] 98 false, .ro m [iq W, iq H, .slice (pB r) n cap] 115, .gen (rdE (pB r) r 0 n 1 (ivals .u32 px)), .gen (rdE (A0v) g0v 0 k0v 4 (rvals xs0)), .gen (rdE (A1v) g1v 0 k1v 4 (rvals xs1)), .gen (rdE (Az) gz oz nz 4 (rvals xsz))] (by kernel_rfl) rfl ?_
 refine cont_fact (F := (0 < k16 → (A14 : Option Addr) = pB g15) ∧ (regM andB (canR xsz) (canR [(⟨0, 0, W, H⟩ : Rect)])).length = k16 ∧ k16 ≤ cp17 ∧ cp17 ≤ maxLen) (fun w hT => Row.factsR (hT.ok 0 _ rfl)) (fun hr19_ => ?_)
 obtain ⟨hr19_a, hr19_l, hr19_c, hr19_m⟩ := hr19_
 unfold maxLen at hr19_m
 refine bS [0] 8 0 [(0, .pointer (pB ob)), (4, .slice A14 k16 cp17)] ?_
 refine cont_done ?_
 refine then_normal ?_
 refine cont_seq ?_
 refine cont_region 5 rfl ?_
 have hol_ := own_len (⟨0, 0, W, H⟩ : Rect) (l := xsz) (by omega)
 obtain ⟨OWN, hOWN⟩ : ∃ y_ : List Rect, y_ = (regM andB (canR xsz) (canR [(⟨0, 0, W, H⟩ : Rect)])) := ⟨_, rfl⟩
 refine cont_rowEqR 0 (regM andB (canR xsz) (canR [(⟨0, 0, W, H⟩ : Rect)])) (OWN) rfl hOWN.symm ?_
 rw [← hOWN] at hol_
 refine cont_fact (F := (0 < k16 → (A14 : Option Addr) = pB g15) ∧ OWN.length = k16 ∧ k16 ≤ cp17 ∧ cp17 ≤ maxLen) (fun w hT => Row.factsR (hT.ok 0 _ rfl)) (fun hr20_ => ?_)
 obtain ⟨hr20_a, hr20_l, hr20_c, hr20_m⟩ := hr20_
 unfold maxLen at hr20_m
 have hu0_ := regM_len orB xs0 OWN (n := 848) (by omega)
 have hu1_ := regM_len orB xs1 OWN (n := 848) (by omega)
 refine bS [0, 0, 0, 4, 0] 5 0 [(0, .pointer (pB ob)), (4, .slice A14 k16 cp17), (17, .agg #[.slice A0v k0v c0v, .slice A1v k1v c1v]), (18, iq 0)] ?_
 refine cont_done ?_
 refine then_normal ?_
 refine cont_block ?_
 refine cont_rounds 3 ?_
 refine cont_round 3 2 rfl ?_
 refine cont_seq ?_
 refine cont_region 1 rfl ?_
 refine bS [0] 1 0 [(0, .pointer (pB ob)), (4, .slice A14 k16 cp17), (17, .agg #[.slice A0v k0v c0v, .slice A1v k1v c1v]), (18, iq 0), (19, .bool true)] ?_
 refine cont_done ?_
 refine then_normal ?_
 refine cont_seq ?_
 refine cont_true rfl ?_
 refine cont_skip ?_
 refine then_normal ?_
 refine cont_seq ?_
 refine cont_block ?_
 refine cont_seq ?_
 refine cont_region 4 rfl ?_
 refine bS [0, 0, 0, 0] 4 0 [(0, .pointer (pB ob)), (4, .slice A14 k16 cp17), (5, iq 0), (6, .slice A0v k0v c0v), (17, .agg #[.slice A0v k0v c0v, .slice A1v k1v c1v]), (18, iq 0)] ?_
 refine cont_done ?_
 refine then_normal ?_
 refine drawn_enter 10 [4] rfl (by kernel_rfl) ?_
 refine takes 0 [4] [(0, 0), (1, 0), (2, 0), (3, 0), (6, 0), (7, 0)] 4 [7, 6, 3, 2, 1, 0] [(0, .pointer (pB ob)), (4, .slice A14 k16 cp17), (17, .agg #[.slice A0v k0v c0v, .slice A1v k1v c1v]), (18, iq 0), (23, iq 0), (24, .slice A0v k0v c0v), (25, .slice A14 k16 cp17), (29, .pointer (some ⟨ob, 2, none⟩))] (by kernel_rfl) (pok_blk (pok_then (pok_then (pok_blk pok_body)))) (by kernel_rfl) rfl rfl (by kernel_rfl) (by kernel_rfl) ?_
 refine drawn_one 4 3 rfl (by kernel_rfl) ?_
 refine call_gen (d := 26) (α := Option Addr × Nat × Nat × Nat) (fun x_ => .slice x_.1 x_.2.2.1 x_.2.2.2) (fun x_ => [.gen (rowE (x_.1) x_.2.1 x_.2.2.1 x_.2.2.2 28 4 (rvals (regM orB xs0 OWN)) true), .gen (rowE (A14) g15 k16 cp17 28 4 (rvals OWN) true), .gen (rowE (A8) g9 k10 cp11 28 4 (rvals (canR [(⟨0, 0, W, H⟩ : Rect)])) true), .gen (rowE (pB b7) b7 1 1 28 4 (rvals [(⟨0, 0, W, H⟩ : Rect)]) true), .gen (rowE (A1) g2 k3 cp4 28 4 (rvals (canR xsz)) true), .cells ob [.pointer (pB m), .pointer (pB m1), .slice A0v k0v c0v, .slice A1v k1v c1v, iq w0, iq w1, iq fr, iq bk] 98 false, .ro m [iq W, iq H, .slice (pB r) n cap] 115, .gen (rdE (pB r) r 0 n 1 (ivals .u32 px)), .gen (rdE (A0v) g0v 0 k0v 4 (rvals xs0)), .gen (rdE (A1v) g1v 0 k1v 4 (rvals xs1)), .gen (rdE (Az) gz oz nz 4 (rvals xsz))]) (fun x_ => True) (by kernel_rfl) (fun w hT => (regUnion A0v g0v 0 k0v c0v xs0 A14 g15 0 k16 cp17 OWN w (hT.viewRo (.cons (i := 7) rfl Vw.rd (.cons (i := 0) rfl Vw.rowRd .nil)) rfl) (by omega)).mono fun e w' ⟨A21, g22, k23, cp24, he_, ht_⟩ => ⟨(A21, g22, k23, cp24), he_, trivial, hT.news ht_ rfl⟩) ?_
 rintro ⟨A21, g22, k23, cp24⟩ hf25_
 refine cont_norm [(0, .pointer (pB ob)), (4, .slice A14 k16 cp17), (17, .agg #[.slice A0v k0v c0v, .slice A1v k1v c1v]), (18, iq 0), (23, iq 0), (24, .slice A0v k0v c0v), (25, .slice A14 k16 cp17), (26, .slice A21 k23 cp24), (29, .pointer (some ⟨ob, 2, none⟩))] [.gen (rowE (A21) g22 k23 cp24 28 4 (rvals (regM orB xs0 OWN)) true), .gen (rowE (A14) g15 k16 cp17 28 4 (rvals OWN) true), .gen (rowE (A8) g9 k10 cp11 28 4 (rvals (canR [(⟨0, 0, W, H⟩ : Rect)])) true), .gen (rowE (pB b7) b7 1 1 28 4 (rvals [(⟨0, 0, W, H⟩ : Rect)]) true), .gen (rowE (A1) g2 k3 cp4 28 4 (rvals (canR xsz)) true), .cells ob [.pointer (pB m), .pointer (pB m1), .slice A0v k0v c0v, .slice A1v k1v c1v, iq w0, iq w1, iq fr, iq bk] 98 false, .ro m [iq W, iq H, .slice (pB r) n cap] 115, .gen (rdE (pB r) r 0 n 1 (ivals .u32 px)), .gen (rdE (A0v) g0v 0 k0v 4 (rvals xs0)), .gen (rdE (A1v) g1v 0 k1v 4 (rvals xs1)), .gen (rdE (Az) gz oz nz 4 (rvals xsz))] (by kernel_rfl) rfl ?_
 refine cont_fact (F := (0 < k23 → (A21 : Option Addr) = pB g22) ∧ (regM orB xs0 OWN).length = k23 ∧ k23 ≤ cp24 ∧ cp24 ≤ maxLen) (fun w hT => Row.factsR (hT.ok 0 _ rfl)) (fun hr26_ => ?_)
 obtain ⟨hr26_a, hr26_l, hr26_c, hr26_m⟩ := hr26_
 unfold maxLen at hr26_m
 refine drawn_next 1 [4] (by kernel_rfl) ?_
 refine drawn_one 5 2 rfl (by kernel_rfl) ?_
 have hkl27_ := keepL_length hullP (regM orB xs0 OWN) 64
 refine call_gen (d := 27) (α := Option Addr × Nat × Nat × Nat) (fun x_ => .slice x_.1 x_.2.2.1 x_.2.2.2) (fun x_ => [.gen (rowE (x_.1) x_.2.1 x_.2.2.1 x_.2.2.2 28 4 (rvals (keepL hullP (regM orB xs0 OWN) 64)) true), .gen (rowE (A21) g22 k23 cp24 28 4 (rvals (regM orB xs0 OWN)) true), .gen (rowE (A14) g15 k16 cp17 28 4 (rvals OWN) true), .gen (rowE (A8) g9 k10 cp11 28 4 (rvals (canR [(⟨0, 0, W, H⟩ : Rect)])) true), .gen (rowE (pB b7) b7 1 1 28 4 (rvals [(⟨0, 0, W, H⟩ : Rect)]) true), .gen (rowE (A1) g2 k3 cp4 28 4 (rvals (canR xsz)) true), .cells ob [.pointer (pB m), .pointer (pB m1), .slice A0v k0v c0v, .slice A1v k1v c1v, iq w0, iq w1, iq fr, iq bk] 98 false, .ro m [iq W, iq H, .slice (pB r) n cap] 115, .gen (rdE (pB r) r 0 n 1 (ivals .u32 px)), .gen (rdE (A0v) g0v 0 k0v 4 (rvals xs0)), .gen (rdE (A1v) g1v 0 k1v 4 (rvals xs1)), .gen (rdE (Az) gz oz nz 4 (rvals xsz))]) (fun x_ => True) (by kernel_rfl) (fun w hT => (regKeep A21 g22 0 k23 cp24 (regM orB xs0 OWN) 64 w (hT.viewRo (.cons (i := 0) rfl Vw.rowRd .nil) rfl) (by omega)).mono fun e w' ⟨A28, g29, k30, cp31, he_, ht_⟩ => ⟨(A28, g29, k30, cp31), he_, trivial, hT.news ht_ rfl⟩) ?_
 rintro ⟨A28, g29, k30, cp31⟩ hf32_
 refine cont_norm [(0, .pointer (pB ob)), (4, .slice A14 k16 cp17), (17, .agg #[.slice A0v k0v c0v, .slice A1v k1v c1v]), (18, iq 0), (23, iq 0), (24, .slice A0v k0v c0v), (25, .slice A14 k16 cp17), (26, .slice A21 k23 cp24), (27, .slice A28 k30 cp31), (29, .pointer (some ⟨ob, 2, none⟩))] [.gen (rowE (A28) g29 k30 cp31 28 4 (rvals (keepL hullP (regM orB xs0 OWN) 64)) true), .gen (rowE (A21) g22 k23 cp24 28 4 (rvals (regM orB xs0 OWN)) true), .gen (rowE (A14) g15 k16 cp17 28 4 (rvals OWN) true), .gen (rowE (A8) g9 k10 cp11 28 4 (rvals (canR [(⟨0, 0, W, H⟩ : Rect)])) true), .gen (rowE (pB b7) b7 1 1 28 4 (rvals [(⟨0, 0, W, H⟩ : Rect)]) true), .gen (rowE (A1) g2 k3 cp4 28 4 (rvals (canR xsz)) true), .cells ob [.pointer (pB m), .pointer (pB m1), .slice A0v k0v c0v, .slice A1v k1v c1v, iq w0, iq w1, iq fr, iq bk] 98 false, .ro m [iq W, iq H, .slice (pB r) n cap] 115, .gen (rdE (pB r) r 0 n 1 (ivals .u32 px)), .gen (rdE (A0v) g0v 0 k0v 4 (rvals xs0)), .gen (rdE (A1v) g1v 0 k1v 4 (rvals xs1)), .gen (rdE (Az) gz oz nz 4 (rvals xsz))] (by kernel_rfl) rfl ?_
 refine cont_fact (F := (0 < k30 → (A28 : Option Addr) = pB g29) ∧ (keepL hullP (regM orB xs0 OWN) 64).length = k30 ∧ k30 ≤ cp31 ∧ cp31 ≤ maxLen) (fun w hT => Row.factsR (hT.ok 0 _ rfl)) (fun hr33_ => ?_)
 obtain ⟨hr33_a, hr33_l, hr33_c, hr33_m⟩ := hr33_
 unfold maxLen at hr33_m
 refine drawn_next 2 [4] (by kernel_rfl) ?_
 refine takes 2 [4] [(8, 0)] 1 [8, 5, 4, 7, 6, 3, 2, 1, 0] [(0, .pointer (pB ob)), (4, .slice A14 k16 cp17), (17, .agg #[.slice A0v k0v c0v, .slice A1v k1v c1v]), (18, iq 0), (27, .slice A28 k30 cp31), (30, .pointer (some ⟨ob, 2, none⟩))] (by kernel_rfl) (pok_blk (pok_then (pok_then (pok_blk pok_body)))) (by kernel_rfl) rfl rfl (by kernel_rfl) (by kernel_rfl) ?_
 refine drawn_one 9 0 rfl (by kernel_rfl) ?_
 refine one_step 6 [(0, .pointer (pB ob)), (4, .slice A14 k16 cp17), (17, .agg #[.slice A0v k0v c0v, .slice A1v k1v c1v]), (18, iq 0)] [.gen (rowE (A28) g29 k30 cp31 28 4 (rvals (keepL hullP (regM orB xs0 OWN) 64)) true), .gen (rowE (A21) g22 k23 cp24 28 4 (rvals (regM orB xs0 OWN)) true), .gen (rowE (A14) g15 k16 cp17 28 4 (rvals OWN) true), .gen (rowE (A8) g9 k10 cp11 28 4 (rvals (canR [(⟨0, 0, W, H⟩ : Rect)])) true), .gen (rowE (pB b7) b7 1 1 28 4 (rvals [(⟨0, 0, W, H⟩ : Rect)]) true), .gen (rowE (A1) g2 k3 cp4 28 4 (rvals (canR xsz)) true), .cells ob [.pointer (pB m), .pointer (pB m1), .slice A28 k30 cp31, .slice A1v k1v c1v, iq w0, iq w1, iq fr, iq bk] 98 false, .ro m [iq W, iq H, .slice (pB r) n cap] 115, .gen (rdE (pB r) r 0 n 1 (ivals .u32 px)), .gen (rdE (A0v) g0v 0 k0v 4 (rvals xs0)), .gen (rdE (A1v) g1v 0 k1v 4 (rvals xs1)), .gen (rdE (Az) gz oz nz 4 (rvals xsz))] (by kernel_rfl) (by kernel_rfl) ?_
 refine drawn_next 2 [4] (by kernel_rfl) ?_
 refine drawn_done (by kernel_rfl) ?_
 refine blk_normal ?_
 refine then_normal ?_
 refine cont_region 2 rfl ?_
 refine bS [0, 0] 2 0 [(0, .pointer (pB ob)), (4, .slice A14 k16 cp17), (17, .agg #[.slice A0v k0v c0v, .slice A1v k1v c1v]), (18, iq 1)] ?_
 refine cont_done ?_
 refine then_normal ?_
 refine cont_round 2 1 rfl ?_
 refine cont_seq ?_
 refine cont_region 1 rfl ?_
 refine bS [0] 1 0 [(0, .pointer (pB ob)), (4, .slice A14 k16 cp17), (17, .agg #[.slice A0v k0v c0v, .slice A1v k1v c1v]), (18, iq 1), (19, .bool true)] ?_
 refine cont_done ?_
 refine then_normal ?_
 refine cont_seq ?_
 refine cont_true rfl ?_
 refine cont_skip ?_
 refine then_normal ?_
 refine cont_seq ?_
 refine cont_block ?_
 refine cont_seq ?_
 refine cont_region 4 rfl ?_
 refine bS [0, 0, 0, 0] 4 0 [(0, .pointer (pB ob)), (4, .slice A14 k16 cp17), (5, iq 1), (6, .slice A1v k1v c1v), (17, .agg #[.slice A0v k0v c0v, .slice A1v k1v c1v]), (18, iq 1)] ?_
 refine cont_done ?_
 refine then_normal ?_
 refine drawn_enter 10 [6] rfl (by kernel_rfl) ?_
 refine takes 0 [6] [(0, 0), (1, 0), (2, 0), (3, 0), (6, 0), (7, 0)] 4 [7, 6, 3, 2, 1, 0] [(0, .pointer (pB ob)), (4, .slice A14 k16 cp17), (17, .agg #[.slice A0v k0v c0v, .slice A1v k1v c1v]), (18, iq 1), (23, iq 1), (24, .slice A1v k1v c1v), (25, .slice A14 k16 cp17), (29, .pointer (some ⟨ob, 2, none⟩))] (by kernel_rfl) (pok_blk (pok_then (pok_then (pok_blk pok_body)))) (by kernel_rfl) rfl rfl (by kernel_rfl) (by kernel_rfl) ?_
 refine drawn_one 4 3 rfl (by kernel_rfl) ?_
 refine call_gen (d := 26) (α := Option Addr × Nat × Nat × Nat) (fun x_ => .slice x_.1 x_.2.2.1 x_.2.2.2) (fun x_ => [.gen (rowE (x_.1) x_.2.1 x_.2.2.1 x_.2.2.2 28 4 (rvals (regM orB xs1 OWN)) true), .gen (rowE (A28) g29 k30 cp31 28 4 (rvals (keepL hullP (regM orB xs0 OWN) 64)) true), .gen (rowE (A21) g22 k23 cp24 28 4 (rvals (regM orB xs0 OWN)) true), .gen (rowE (A14) g15 k16 cp17 28 4 (rvals OWN) true), .gen (rowE (A8) g9 k10 cp11 28 4 (rvals (canR [(⟨0, 0, W, H⟩ : Rect)])) true), .gen (rowE (pB b7) b7 1 1 28 4 (rvals [(⟨0, 0, W, H⟩ : Rect)]) true), .gen (rowE (A1) g2 k3 cp4 28 4 (rvals (canR xsz)) true), .cells ob [.pointer (pB m), .pointer (pB m1), .slice A28 k30 cp31, .slice A1v k1v c1v, iq w0, iq w1, iq fr, iq bk] 98 false, .ro m [iq W, iq H, .slice (pB r) n cap] 115, .gen (rdE (pB r) r 0 n 1 (ivals .u32 px)), .gen (rdE (A0v) g0v 0 k0v 4 (rvals xs0)), .gen (rdE (A1v) g1v 0 k1v 4 (rvals xs1)), .gen (rdE (Az) gz oz nz 4 (rvals xsz))]) (fun x_ => True) (by kernel_rfl) (fun w hT => (regUnion A1v g1v 0 k1v c1v xs1 A14 g15 0 k16 cp17 OWN w (hT.viewRo (.cons (i := 10) rfl Vw.rd (.cons (i := 2) rfl Vw.rowRd .nil)) rfl) (by omega)).mono fun e w' ⟨A34, g35, k36, cp37, he_, ht_⟩ => ⟨(A34, g35, k36, cp37), he_, trivial, hT.news ht_ rfl⟩) ?_
 rintro ⟨A34, g35, k36, cp37⟩ hf38_
 refine cont_norm [(0, .pointer (pB ob)), (4, .slice A14 k16 cp17), (17, .agg #[.slice A0v k0v c0v, .slice A1v k1v c1v]), (18, iq 1), (23, iq 1), (24, .slice A1v k1v c1v), (25, .slice A14 k16 cp17), (26, .slice A34 k36 cp37), (29, .pointer (some ⟨ob, 2, none⟩))] [.gen (rowE (A34) g35 k36 cp37 28 4 (rvals (regM orB xs1 OWN)) true), .gen (rowE (A28) g29 k30 cp31 28 4 (rvals (keepL hullP (regM orB xs0 OWN) 64)) true), .gen (rowE (A21) g22 k23 cp24 28 4 (rvals (regM orB xs0 OWN)) true), .gen (rowE (A14) g15 k16 cp17 28 4 (rvals OWN) true), .gen (rowE (A8) g9 k10 cp11 28 4 (rvals (canR [(⟨0, 0, W, H⟩ : Rect)])) true), .gen (rowE (pB b7) b7 1 1 28 4 (rvals [(⟨0, 0, W, H⟩ : Rect)]) true), .gen (rowE (A1) g2 k3 cp4 28 4 (rvals (canR xsz)) true), .cells ob [.pointer (pB m), .pointer (pB m1), .slice A28 k30 cp31, .slice A1v k1v c1v, iq w0, iq w1, iq fr, iq bk] 98 false, .ro m [iq W, iq H, .slice (pB r) n cap] 115, .gen (rdE (pB r) r 0 n 1 (ivals .u32 px)), .gen (rdE (A0v) g0v 0 k0v 4 (rvals xs0)), .gen (rdE (A1v) g1v 0 k1v 4 (rvals xs1)), .gen (rdE (Az) gz oz nz 4 (rvals xsz))] (by kernel_rfl) rfl ?_
 refine cont_fact (F := (0 < k36 → (A34 : Option Addr) = pB g35) ∧ (regM orB xs1 OWN).length = k36 ∧ k36 ≤ cp37 ∧ cp37 ≤ maxLen) (fun w hT => Row.factsR (hT.ok 0 _ rfl)) (fun hr39_ => ?_)
 obtain ⟨hr39_a, hr39_l, hr39_c, hr39_m⟩ := hr39_
 unfold maxLen at hr39_m
 refine drawn_next 1 [6] (by kernel_rfl) ?_
 refine drawn_one 5 2 rfl (by kernel_rfl) ?_
 have hkl40_ := keepL_length hullP (regM orB xs1 OWN) 64
 refine call_gen (d := 27) (α := Option Addr × Nat × Nat × Nat) (fun x_ => .slice x_.1 x_.2.2.1 x_.2.2.2) (fun x_ => [.gen (rowE (x_.1) x_.2.1 x_.2.2.1 x_.2.2.2 28 4 (rvals (keepL hullP (regM orB xs1 OWN) 64)) true), .gen (rowE (A34) g35 k36 cp37 28 4 (rvals (regM orB xs1 OWN)) true), .gen (rowE (A28) g29 k30 cp31 28 4 (rvals (keepL hullP (regM orB xs0 OWN) 64)) true), .gen (rowE (A21) g22 k23 cp24 28 4 (rvals (regM orB xs0 OWN)) true), .gen (rowE (A14) g15 k16 cp17 28 4 (rvals OWN) true), .gen (rowE (A8) g9 k10 cp11 28 4 (rvals (canR [(⟨0, 0, W, H⟩ : Rect)])) true), .gen (rowE (pB b7) b7 1 1 28 4 (rvals [(⟨0, 0, W, H⟩ : Rect)]) true), .gen (rowE (A1) g2 k3 cp4 28 4 (rvals (canR xsz)) true), .cells ob [.pointer (pB m), .pointer (pB m1), .slice A28 k30 cp31, .slice A1v k1v c1v, iq w0, iq w1, iq fr, iq bk] 98 false, .ro m [iq W, iq H, .slice (pB r) n cap] 115, .gen (rdE (pB r) r 0 n 1 (ivals .u32 px)), .gen (rdE (A0v) g0v 0 k0v 4 (rvals xs0)), .gen (rdE (A1v) g1v 0 k1v 4 (rvals xs1)), .gen (rdE (Az) gz oz nz 4 (rvals xsz))]) (fun x_ => True) (by kernel_rfl) (fun w hT => (regKeep A34 g35 0 k36 cp37 (regM orB xs1 OWN) 64 w (hT.viewRo (.cons (i := 0) rfl Vw.rowRd .nil) rfl) (by omega)).mono fun e w' ⟨A41, g42, k43, cp44, he_, ht_⟩ => ⟨(A41, g42, k43, cp44), he_, trivial, hT.news ht_ rfl⟩) ?_
 rintro ⟨A41, g42, k43, cp44⟩ hf45_
 refine cont_norm [(0, .pointer (pB ob)), (4, .slice A14 k16 cp17), (17, .agg #[.slice A0v k0v c0v, .slice A1v k1v c1v]), (18, iq 1), (23, iq 1), (24, .slice A1v k1v c1v), (25, .slice A14 k16 cp17), (26, .slice A34 k36 cp37), (27, .slice A41 k43 cp44), (29, .pointer (some ⟨ob, 2, none⟩))] [.gen (rowE (A41) g42 k43 cp44 28 4 (rvals (keepL hullP (regM orB xs1 OWN) 64)) true), .gen (rowE (A34) g35 k36 cp37 28 4 (rvals (regM orB xs1 OWN)) true), .gen (rowE (A28) g29 k30 cp31 28 4 (rvals (keepL hullP (regM orB xs0 OWN) 64)) true), .gen (rowE (A21) g22 k23 cp24 28 4 (rvals (regM orB xs0 OWN)) true), .gen (rowE (A14) g15 k16 cp17 28 4 (rvals OWN) true), .gen (rowE (A8) g9 k10 cp11 28 4 (rvals (canR [(⟨0, 0, W, H⟩ : Rect)])) true), .gen (rowE (pB b7) b7 1 1 28 4 (rvals [(⟨0, 0, W, H⟩ : Rect)]) true), .gen (rowE (A1) g2 k3 cp4 28 4 (rvals (canR xsz)) true), .cells ob [.pointer (pB m), .pointer (pB m1), .slice A28 k30 cp31, .slice A1v k1v c1v, iq w0, iq w1, iq fr, iq bk] 98 false, .ro m [iq W, iq H, .slice (pB r) n cap] 115, .gen (rdE (pB r) r 0 n 1 (ivals .u32 px)), .gen (rdE (A0v) g0v 0 k0v 4 (rvals xs0)), .gen (rdE (A1v) g1v 0 k1v 4 (rvals xs1)), .gen (rdE (Az) gz oz nz 4 (rvals xsz))] (by kernel_rfl) rfl ?_
 refine cont_fact (F := (0 < k43 → (A41 : Option Addr) = pB g42) ∧ (keepL hullP (regM orB xs1 OWN) 64).length = k43 ∧ k43 ≤ cp44 ∧ cp44 ≤ maxLen) (fun w hT => Row.factsR (hT.ok 0 _ rfl)) (fun hr46_ => ?_)
 obtain ⟨hr46_a, hr46_l, hr46_c, hr46_m⟩ := hr46_
 unfold maxLen at hr46_m
 refine drawn_next 2 [6] (by kernel_rfl) ?_
 refine takes 2 [6] [(8, 0)] 1 [8, 5, 4, 7, 6, 3, 2, 1, 0] [(0, .pointer (pB ob)), (4, .slice A14 k16 cp17), (17, .agg #[.slice A0v k0v c0v, .slice A1v k1v c1v]), (18, iq 1), (27, .slice A41 k43 cp44), (30, .pointer (some ⟨ob, 3, none⟩))] (by kernel_rfl) (pok_blk (pok_then (pok_then (pok_blk pok_body)))) (by kernel_rfl) rfl rfl (by kernel_rfl) (by kernel_rfl) ?_
 refine drawn_one 9 0 rfl (by kernel_rfl) ?_
 refine one_step 8 [(0, .pointer (pB ob)), (4, .slice A14 k16 cp17), (17, .agg #[.slice A0v k0v c0v, .slice A1v k1v c1v]), (18, iq 1)] [.gen (rowE (A41) g42 k43 cp44 28 4 (rvals (keepL hullP (regM orB xs1 OWN) 64)) true), .gen (rowE (A34) g35 k36 cp37 28 4 (rvals (regM orB xs1 OWN)) true), .gen (rowE (A28) g29 k30 cp31 28 4 (rvals (keepL hullP (regM orB xs0 OWN) 64)) true), .gen (rowE (A21) g22 k23 cp24 28 4 (rvals (regM orB xs0 OWN)) true), .gen (rowE (A14) g15 k16 cp17 28 4 (rvals OWN) true), .gen (rowE (A8) g9 k10 cp11 28 4 (rvals (canR [(⟨0, 0, W, H⟩ : Rect)])) true), .gen (rowE (pB b7) b7 1 1 28 4 (rvals [(⟨0, 0, W, H⟩ : Rect)]) true), .gen (rowE (A1) g2 k3 cp4 28 4 (rvals (canR xsz)) true), .cells ob [.pointer (pB m), .pointer (pB m1), .slice A28 k30 cp31, .slice A41 k43 cp44, iq w0, iq w1, iq fr, iq bk] 98 false, .ro m [iq W, iq H, .slice (pB r) n cap] 115, .gen (rdE (pB r) r 0 n 1 (ivals .u32 px)), .gen (rdE (A0v) g0v 0 k0v 4 (rvals xs0)), .gen (rdE (A1v) g1v 0 k1v 4 (rvals xs1)), .gen (rdE (Az) gz oz nz 4 (rvals xsz))] (by kernel_rfl) (by kernel_rfl) ?_
 refine drawn_next 2 [6] (by kernel_rfl) ?_
 refine drawn_done (by kernel_rfl) ?_
 refine blk_normal ?_
 refine then_normal ?_
 refine cont_region 2 rfl ?_
 refine bS [0, 0] 2 0 [(0, .pointer (pB ob)), (4, .slice A14 k16 cp17), (17, .agg #[.slice A0v k0v c0v, .slice A1v k1v c1v]), (18, iq 2)] ?_
 refine cont_done ?_
 refine then_normal ?_
 refine cont_round 1 0 rfl ?_
 refine cont_seq ?_
 refine cont_region 1 rfl ?_
 refine bS [0] 1 0 [(0, .pointer (pB ob)), (4, .slice A14 k16 cp17), (17, .agg #[.slice A0v k0v c0v, .slice A1v k1v c1v]), (18, iq 2), (19, .bool false)] ?_
 refine cont_done ?_
 refine then_normal ?_
 refine cont_seq ?_
 refine cont_false rfl ?_
 refine cont_exit ?_
 refine then_exit ?_
 refine then_exit ?_
 refine blk_exit ?_
 refine ret_none (.inr rfl) rfl (fun w hT => ?_)
 rw [hOWN] at hT
 exact ⟨_, _, _, _, _, _, _, _, rfl, hT.pick [2, 0, 8, 9, 10, 11, 12, 13] (by decide) rfl rfl⟩

theorem outNew (W H : Int) (w : World) (hgood : 1 ≤ W ∧ W ≤ 256 ∧ 1 ≤ H ∧ H ≤ 256) :
    Calls Try.prog 12 #[.int .i64 W, .int .i64 H] w fun e w' => ∃ (b m r n m1 r1 n1 : Nat) (A : Option Addr) (g : Nat) (k : Nat) (cp : Nat) (B : Option Addr) (gB : Nat) (kB : Nat) (cB : Nat), e = .returned (.tuple #[.pointer (some ⟨b, 0, none⟩), .int .i64 0]) ∧ ((n : Int) = W * H ∧ (n1 : Int) = W * H) ∧ Tab w w' [.cells b [.pointer (some ⟨m, 0, none⟩), .pointer (some ⟨m1, 0, none⟩), .slice A k cp, .slice B kB cB, .int .i64 0, .int .i64 0, .int .i64 0, .int .i64 0] 98 true, .cells m [.int .i64 W, .int .i64 H, .slice (some ⟨r, 0, none⟩) n n] 115 true, .gen (rowE (some ⟨r, 0, none⟩) r n n 54 1 (ivals .u32 (List.replicate n 0)) true), .cells m1 [.int .i64 W, .int .i64 H, .slice (some ⟨r1, 0, none⟩) n1 n1] 115 true, .gen (rowE (some ⟨r1, 0, none⟩) r1 n1 n1 54 1 (ivals .u32 (List.replicate n1 0)) true), .gen (rowE (A) g k cp 28 4 (rvals (canR [(⟨0, 0, W, H⟩ : Rect)])) true), .gen (rowE (B) gB kB cB 28 4 (rvals (canR [(⟨0, 0, W, H⟩ : Rect)])) true)] := by
 refine enter 41 [(0, iq W), (1, iq H)] [] Try.func12 rfl Try.ntmps12 rfl (by kernel_rfl) (Tab.start w) ?_
 refine cont_seq ?_
 refine cont_region 2 rfl ?_
 refine bS [0, 0] 2 0 [(0, iq W), (1, iq H)] ?_
 refine cont_done ?_
 refine then_normal ?_
 refine cont_seq ?_
 refine cont_region 3 rfl ?_
 refine batch1 [0, 0, 0] 3 0 (fun b1 => [(0, iq W), (1, iq H), (6, .pointer (pB b1))]) (fun b1 => [.cells b1 [.pointer none, .pointer none, .slice none 0 0, .slice none 0 0, iq 0, iq 0, iq 0, iq 0] 98 true]) rfl rfl [0, 1, 6] (fun _ => rfl) (fun b1 => by kernel_rfl) (fun b1 => by kernel_rfl) (fun b1 => ?_)
 refine cont_done ?_
 refine then_normal ?_
 refine cont_seq ?_
 refine cont_seq ?_
 refine cont_region 1 rfl ?_
 refine bS [0] 1 0 [(0, iq W), (1, iq H), (6, .pointer (pB b1)), (12, iq 0)] ?_
 refine cont_done ?_
 refine then_normal ?_
 refine cont_block ?_
 refine cont_rounds 3 ?_
 refine cont_round 3 2 rfl ?_
 refine cont_seq ?_
 refine cont_region 1 rfl ?_
 refine bS [0] 1 0 [(0, iq W), (1, iq H), (6, .pointer (pB b1)), (12, iq 0), (13, .bool true)] ?_
 refine cont_done ?_
 refine then_normal ?_
 refine cont_seq ?_
 refine cont_true rfl ?_
 refine cont_skip ?_
 refine then_normal ?_
 refine cont_seq ?_
 refine cont_block ?_
 refine cont_seq ?_
 refine cont_region 2 rfl ?_
 refine bS [0, 0] 2 0 [(0, iq W), (1, iq H), (6, .pointer (pB b1)), (7, iq 0), (12, iq 0)] ?_
 refine cont_done ?_
 refine then_normal ?_
 refine cont_seq ?_
 refine cont_region 8 rfl ?_
 refine bS [0, 0] 2 6 [(0, iq W), (1, iq H), (6, .pointer (pB b1)), (7, iq 0), (12, iq 0), (16, iq W), (17, iq H)] ?_
 refine pl_step 3 5 rfl rfl ?_
 refine call_gen (d := 18) (α := Nat × Nat × Nat) (fun x_ => .tuple #[.pointer (pB x_.1), iq 0]) (fun x_ => [.cells x_.1 [iq W, iq H, .slice (pB x_.2.1) x_.2.2 x_.2.2] 115 true, .gen (rowE (pB x_.2.1) x_.2.1 x_.2.2 x_.2.2 54 1 (ivals .u32 (List.replicate x_.2.2 0)) true), .cells b1 [.pointer none, .pointer none, .slice none 0 0, .slice none 0 0, iq 0, iq 0, iq 0, iq 0] 98 true]) (fun x_ => (x_.2.2 : Int) = W * H) (by kernel_rfl) (fun w hT => (imgNew W H w hgood).mono fun e w' ⟨b_, r_, n_, he_, hn_, hi_⟩ => ⟨(b_, r_, n_), he_, hn_, hT.addImg hi_⟩) ?_
 rintro ⟨b2, r2, n2⟩ hn2
 replace hn2 : (n2 : Int) = W * H := hn2
 refine cont_norm [(0, iq W), (1, iq H), (6, .pointer (pB b1)), (7, iq 0), (12, iq 0), (16, iq W), (17, iq H), (18, .tuple #[.pointer (pB b2), iq 0])] [.cells b2 [iq W, iq H, .slice (pB r2) n2 n2] 115 true, .gen (rowE (pB r2) r2 n2 n2 54 1 (ivals .u32 (List.replicate n2 0)) true), .cells b1 [.pointer none, .pointer none, .slice none 0 0, .slice none 0 0, iq 0, iq 0, iq 0, iq 0] 98 true] (by kernel_rfl) rfl ?_
 refine bS [0, 0, 0, 0, 0] 8 0 [(0, iq W), (1, iq H), (6, .pointer (pB b1)), (7, iq 0), (8, .pointer (pB b2)), (9, iq 0), (12, iq 0)] ?_
 refine cont_done ?_
 refine then_normal ?_
 refine cont_seq ?_
 refine cont_seq ?_
 refine cont_region 2 rfl ?_
 refine bS [0, 0] 2 0 [(0, iq W), (1, iq H), (6, .pointer (pB b1)), (7, iq 0), (8, .pointer (pB b2)), (9, iq 0), (12, iq 0), (22, .bool false)] ?_
 refine cont_done ?_
 refine then_normal ?_
 refine cont_false rfl ?_
 refine cont_skip ?_
 refine then_normal ?_
 refine drawn_enter 17 [2] rfl (by kernel_rfl) ?_
 refine takes 0 [2] [(0, 0), (1, 0), (2, 0), (3, 0), (4, 0), (5, 0), (9, 0), (13, 0), (10, 0), (14, 0)] 7 [14, 10, 13, 9, 5, 4, 3, 2, 1, 0] [(0, iq W), (1, iq H), (6, .pointer (pB b1)), (12, iq 0), (25, iq 0), (27, iq 0), (28, .pointer (pB b2)), (29, .pointer (pB b2)), (34, .pointer (pB b1)), (37, .pointer (some ⟨b1, 2, none⟩))] (by kernel_rfl) (pok_blk (pok_then (pok_then (pok_blk (pok_then pok_body))))) (by kernel_rfl) rfl rfl (by kernel_rfl) (by kernel_rfl) ?_
 refine drawn_one 6 6 rfl (by kernel_rfl) ?_
 refine call_pure (d := 30) (.agg #[iq 0, iq 0, iq W, iq H]) (by kernel_rfl) (fun w hT => imgBox b2 W H r2 n2 n2 (List.replicate n2 0)  w ⟨hT.ok 0 _ rfl, Row.rd (hT.ok 1 _ rfl), Row.capLe (hT.ok 1 _ rfl)⟩ (imgOk_new hgood hn2)) ?_
 refine drawn_next 0 [2] (by kernel_rfl) ?_
 refine drawn_one 7 5 rfl (by kernel_rfl) ?_
 refine one_step1 0 (fun b3 => [(0, iq W), (1, iq H), (6, .pointer (pB b1)), (12, iq 0), (25, iq 0), (27, iq 0), (28, .pointer (pB b2)), (31, .slice (pB b3) 1 1), (34, .pointer (pB b1)), (37, .pointer (some ⟨b1, 2, none⟩))]) (fun b3 => [.cells b3 [iq 0, iq 0, iq W, iq H] 28 true, .cells b2 [iq W, iq H, .slice (pB r2) n2 n2] 115 true, .gen (rowE (pB r2) r2 n2 n2 54 1 (ivals .u32 (List.replicate n2 0)) true), .cells b1 [.pointer none, .pointer none, .slice none 0 0, .slice none 0 0, iq 0, iq 0, iq 0, iq 0] 98 true]) (fun b3 => by kernel_rfl) (fun b3 => by kernel_rfl) (fun b3 => ?_)
 refine drawn_next 1 [2] (by kernel_rfl) ?_
 refine drawn_one 8 4 rfl (by kernel_rfl) ?_
 refine cont_asRow 0 1 4 rfl (vals := rvals [(⟨0, 0, W, H⟩ : Rect)]) rfl rfl (by decide) ?_
 refine call_gen (d := 32) (α := Option Addr × Nat × Nat × Nat) (fun x_ => .slice x_.1 x_.2.2.1 x_.2.2.2) (fun x_ => [.gen (rowE (x_.1) x_.2.1 x_.2.2.1 x_.2.2.2 28 4 (rvals (canR [(⟨0, 0, W, H⟩ : Rect)])) true), .gen (rowE (pB b3) b3 1 1 28 4 (rvals [(⟨0, 0, W, H⟩ : Rect)]) true), .cells b2 [iq W, iq H, .slice (pB r2) n2 n2] 115 true, .gen (rowE (pB r2) r2 n2 n2 54 1 (ivals .u32 (List.replicate n2 0)) true), .cells b1 [.pointer none, .pointer none, .slice none 0 0, .slice none 0 0, iq 0, iq 0, iq 0, iq 0] 98 true]) (fun x_ => True) (by kernel_rfl) (fun w hT => (regOf (pB b3) b3 0 1 1 [(⟨0, 0, W, H⟩ : Rect)] w (hT.viewRo (.cons (i := 0) rfl Vw.rowRd .nil) rfl) (by omega)).mono fun e w' ⟨A4, g5, k6, cp7, he_, ht_⟩ => ⟨(A4, g5, k6, cp7), he_, trivial, hT.news ht_ rfl⟩) ?_
 rintro ⟨A4, g5, k6, cp7⟩ hf8_
 refine cont_norm [(0, iq W), (1, iq H), (6, .pointer (pB b1)), (12, iq 0), (25, iq 0), (27, iq 0), (28, .pointer (pB b2)), (31, .slice (pB b3) 1 1), (32, .slice A4 k6 cp7), (34, .pointer (pB b1)), (37, .pointer (some ⟨b1, 2, none⟩))] [.gen (rowE (A4) g5 k6 cp7 28 4 (rvals (canR [(⟨0, 0, W, H⟩ : Rect)])) true), .gen (rowE (pB b3) b3 1 1 28 4 (rvals [(⟨0, 0, W, H⟩ : Rect)]) true), .cells b2 [iq W, iq H, .slice (pB r2) n2 n2] 115 true, .gen (rowE (pB r2) r2 n2 n2 54 1 (ivals .u32 (List.replicate n2 0)) true), .cells b1 [.pointer none, .pointer none, .slice none 0 0, .slice none 0 0, iq 0, iq 0, iq 0, iq 0] 98 true] (by kernel_rfl) rfl ?_
 refine cont_fact (F := (0 < k6 → (A4 : Option Addr) = pB g5) ∧ (canR [(⟨0, 0, W, H⟩ : Rect)]).length = k6 ∧ k6 ≤ cp7 ∧ cp7 ≤ maxLen) (fun w hT => Row.factsR (hT.ok 0 _ rfl)) (fun hr9_ => ?_)
 obtain ⟨hr9_a, hr9_l, hr9_c, hr9_m⟩ := hr9_
 unfold maxLen at hr9_m
 refine drawn_next 2 [2] (by kernel_rfl) ?_
 refine takes 2 [2] [(11, 0)] 3 [11, 8, 7, 6, 14, 10, 13, 9, 5, 4, 3, 2, 1, 0] [(0, iq W), (1, iq H), (6, .pointer (pB b1)), (12, iq 0), (27, iq 0), (28, .pointer (pB b2)), (32, .slice A4 k6 cp7), (35, .pointer (pB b1)), (37, .pointer (some ⟨b1, 2, none⟩))] (by kernel_rfl) (pok_blk (pok_then (pok_then (pok_blk (pok_then pok_body))))) (by kernel_rfl) rfl rfl (by kernel_rfl) (by kernel_rfl) ?_
 refine drawn_one 12 2 rfl (by kernel_rfl) ?_
 refine one_step 4 [(0, iq W), (1, iq H), (6, .pointer (pB b1)), (12, iq 0), (27, iq 0), (32, .slice A4 k6 cp7), (37, .pointer (some ⟨b1, 2, none⟩))] [.gen (rowE (A4) g5 k6 cp7 28 4 (rvals (canR [(⟨0, 0, W, H⟩ : Rect)])) true), .gen (rowE (pB b3) b3 1 1 28 4 (rvals [(⟨0, 0, W, H⟩ : Rect)]) true), .cells b2 [iq W, iq H, .slice (pB r2) n2 n2] 115 true, .gen (rowE (pB r2) r2 n2 n2 54 1 (ivals .u32 (List.replicate n2 0)) true), .cells b1 [.pointer (pB b2), .pointer none, .slice none 0 0, .slice none 0 0, iq 0, iq 0, iq 0, iq 0] 98 true] (by kernel_rfl) (by kernel_rfl) ?_
 refine drawn_next 2 [2] (by kernel_rfl) ?_
 refine takes 2 [2] [(15, 0)] 1 [15, 12, 11, 8, 7, 6, 14, 10, 13, 9, 5, 4, 3, 2, 1, 0] [(0, iq W), (1, iq H), (6, .pointer (pB b1)), (12, iq 0), (32, .slice A4 k6 cp7), (38, .pointer (some ⟨b1, 2, none⟩))] (by kernel_rfl) (pok_blk (pok_then (pok_then (pok_blk (pok_then pok_body))))) (by kernel_rfl) rfl rfl (by kernel_rfl) (by kernel_rfl) ?_
 refine drawn_one 16 0 rfl (by kernel_rfl) ?_
 refine one_step 4 [(0, iq W), (1, iq H), (6, .pointer (pB b1)), (12, iq 0)] [.gen (rowE (A4) g5 k6 cp7 28 4 (rvals (canR [(⟨0, 0, W, H⟩ : Rect)])) true), .gen (rowE (pB b3) b3 1 1 28 4 (rvals [(⟨0, 0, W, H⟩ : Rect)]) true), .cells b2 [iq W, iq H, .slice (pB r2) n2 n2] 115 true, .gen (rowE (pB r2) r2 n2 n2 54 1 (ivals .u32 (List.replicate n2 0)) true), .cells b1 [.pointer (pB b2), .pointer none, .slice A4 k6 cp7, .slice none 0 0, iq 0, iq 0, iq 0, iq 0] 98 true] (by kernel_rfl) (by kernel_rfl) ?_
 refine drawn_next 2 [2] (by kernel_rfl) ?_
 refine drawn_done (by kernel_rfl) ?_
 refine blk_normal ?_
 refine then_normal ?_
 refine cont_region 2 rfl ?_
 refine bS [0, 0] 2 0 [(0, iq W), (1, iq H), (6, .pointer (pB b1)), (12, iq 1)] ?_
 refine cont_done ?_
 refine then_normal ?_
 refine cont_round 2 1 rfl ?_
 refine cont_seq ?_
 refine cont_region 1 rfl ?_
 refine bS [0] 1 0 [(0, iq W), (1, iq H), (6, .pointer (pB b1)), (12, iq 1), (13, .bool true)] ?_
 refine cont_done ?_
 refine then_normal ?_
 refine cont_seq ?_
 refine cont_true rfl ?_
 refine cont_skip ?_
 refine then_normal ?_
 refine cont_seq ?_
 refine cont_block ?_
 refine cont_seq ?_
 refine cont_region 2 rfl ?_
 refine bS [0, 0] 2 0 [(0, iq W), (1, iq H), (6, .pointer (pB b1)), (7, iq 1), (12, iq 1)] ?_
 refine cont_done ?_
 refine then_normal ?_
 refine cont_seq ?_
 refine cont_region 8 rfl ?_
 refine bS [0, 0] 2 6 [(0, iq W), (1, iq H), (6, .pointer (pB b1)), (7, iq 1), (12, iq 1), (16, iq W), (17, iq H)] ?_
 refine pl_step 3 5 rfl rfl ?_
 refine call_gen (d := 18) (α := Nat × Nat × Nat) (fun x_ => .tuple #[.pointer (pB x_.1), iq 0]) (fun x_ => [.cells x_.1 [iq W, iq H, .slice (pB x_.2.1) x_.2.2 x_.2.2] 115 true, .gen (rowE (pB x_.2.1) x_.2.1 x_.2.2 x_.2.2 54 1 (ivals .u32 (List.replicate x_.2.2 0)) true), .gen (rowE (A4) g5 k6 cp7 28 4 (rvals (canR [(⟨0, 0, W, H⟩ : Rect)])) true), .gen (rowE (pB b3) b3 1 1 28 4 (rvals [(⟨0, 0, W, H⟩ : Rect)]) true), .cells b2 [iq W, iq H, .slice (pB r2) n2 n2] 115 true, .gen (rowE (pB r2) r2 n2 n2 54 1 (ivals .u32 (List.replicate n2 0)) true), .cells b1 [.pointer (pB b2), .pointer none, .slice A4 k6 cp7, .slice none 0 0, iq 0, iq 0, iq 0, iq 0] 98 true]) (fun x_ => (x_.2.2 : Int) = W * H) (by kernel_rfl) (fun w hT => (imgNew W H w hgood).mono fun e w' ⟨b_, r_, n_, he_, hn_, hi_⟩ => ⟨(b_, r_, n_), he_, hn_, hT.addImg hi_⟩) ?_
 rintro ⟨b10, r10, n10⟩ hn10
 replace hn10 : (n10 : Int) = W * H := hn10
 refine cont_norm [(0, iq W), (1, iq H), (6, .pointer (pB b1)), (7, iq 1), (12, iq 1), (16, iq W), (17, iq H), (18, .tuple #[.pointer (pB b10), iq 0])] [.cells b10 [iq W, iq H, .slice (pB r10) n10 n10] 115 true, .gen (rowE (pB r10) r10 n10 n10 54 1 (ivals .u32 (List.replicate n10 0)) true), .gen (rowE (A4) g5 k6 cp7 28 4 (rvals (canR [(⟨0, 0, W, H⟩ : Rect)])) true), .gen (rowE (pB b3) b3 1 1 28 4 (rvals [(⟨0, 0, W, H⟩ : Rect)]) true), .cells b2 [iq W, iq H, .slice (pB r2) n2 n2] 115 true, .gen (rowE (pB r2) r2 n2 n2 54 1 (ivals .u32 (List.replicate n2 0)) true), .cells b1 [.pointer (pB b2), .pointer none, .slice A4 k6 cp7, .slice none 0 0, iq 0, iq 0, iq 0, iq 0] 98 true] (by kernel_rfl) rfl ?_
 refine bS [0, 0, 0, 0, 0] 8 0 [(0, iq W), (1, iq H), (6, .pointer (pB b1)), (7, iq 1), (8, .pointer (pB b10)), (9, iq 0), (12, iq 1)] ?_
 refine cont_done ?_
 refine then_normal ?_
 refine cont_seq ?_
 refine cont_seq ?_
 refine cont_region 2 rfl ?_
 refine bS [0, 0] 2 0 [(0, iq W), (1, iq H), (6, .pointer (pB b1)), (7, iq 1), (8, .pointer (pB b10)), (9, iq 0), (12, iq 1), (22, .bool false)] ?_
 refine cont_done ?_
 refine then_normal ?_
 refine cont_false rfl ?_
 refine cont_skip ?_
 refine then_normal ?_
 refine drawn_enter 17 [6] rfl (by kernel_rfl) ?_
 refine takes 0 [6] [(0, 0), (1, 0), (2, 0), (3, 0), (4, 0), (5, 0), (9, 0), (13, 0), (10, 0), (14, 0)] 7 [14, 10, 13, 9, 5, 4, 3, 2, 1, 0] [(0, iq W), (1, iq H), (6, .pointer (pB b1)), (12, iq 1), (25, iq 1), (27, iq 1), (28, .pointer (pB b10)), (29, .pointer (pB b10)), (34, .pointer (pB b1)), (37, .pointer (some ⟨b1, 2, none⟩))] (by kernel_rfl) (pok_blk (pok_then (pok_then (pok_blk (pok_then pok_body))))) (by kernel_rfl) rfl rfl (by kernel_rfl) (by kernel_rfl) ?_
 refine drawn_one 6 6 rfl (by kernel_rfl) ?_
 refine call_pure (d := 30) (.agg #[iq 0, iq 0, iq W, iq H]) (by kernel_rfl) (fun w hT => imgBox b10 W H r10 n10 n10 (List.replicate n10 0)  w ⟨hT.ok 0 _ rfl, Row.rd (hT.ok 1 _ rfl), Row.capLe (hT.ok 1 _ rfl)⟩ (imgOk_new hgood hn10)) ?_
 refine drawn_next 0 [6] (by kernel_rfl) ?_
 refine drawn_one 7 5 rfl (by kernel_rfl) ?_
 refine one_step1 0 (fun b11 => [(0, iq W), (1, iq H), (6, .pointer (pB b1)), (12, iq 1), (25, iq 1), (27, iq 1), (28, .pointer (pB b10)), (31, .slice (pB b11) 1 1), (34, .pointer (pB b1)), (37, .pointer (some ⟨b1, 2, none⟩))]) (fun b11 => [.cells b11 [iq 0, iq 0, iq W, iq H] 28 true, .cells b10 [iq W, iq H, .slice (pB r10) n10 n10] 115 true, .gen (rowE (pB r10) r10 n10 n10 54 1 (ivals .u32 (List.replicate n10 0)) true), .gen (rowE (A4) g5 k6 cp7 28 4 (rvals (canR [(⟨0, 0, W, H⟩ : Rect)])) true), .gen (rowE (pB b3) b3 1 1 28 4 (rvals [(⟨0, 0, W, H⟩ : Rect)]) true), .cells b2 [iq W, iq H, .slice (pB r2) n2 n2] 115 true, .gen (rowE (pB r2) r2 n2 n2 54 1 (ivals .u32 (List.replicate n2 0)) true), .cells b1 [.pointer (pB b2), .pointer none, .slice A4 k6 cp7, .slice none 0 0, iq 0, iq 0, iq 0, iq 0] 98 true]) (fun b11 => by kernel_rfl) (fun b11 => by kernel_rfl) (fun b11 => ?_)
 refine drawn_next 1 [6] (by kernel_rfl) ?_
 refine drawn_one 8 4 rfl (by kernel_rfl) ?_
 refine cont_asRow 0 1 4 rfl (vals := rvals [(⟨0, 0, W, H⟩ : Rect)]) rfl rfl (by decide) ?_
 refine call_gen (d := 32) (α := Option Addr × Nat × Nat × Nat) (fun x_ => .slice x_.1 x_.2.2.1 x_.2.2.2) (fun x_ => [.gen (rowE (x_.1) x_.2.1 x_.2.2.1 x_.2.2.2 28 4 (rvals (canR [(⟨0, 0, W, H⟩ : Rect)])) true), .gen (rowE (pB b11) b11 1 1 28 4 (rvals [(⟨0, 0, W, H⟩ : Rect)]) true), .cells b10 [iq W, iq H, .slice (pB r10) n10 n10] 115 true, .gen (rowE (pB r10) r10 n10 n10 54 1 (ivals .u32 (List.replicate n10 0)) true), .gen (rowE (A4) g5 k6 cp7 28 4 (rvals (canR [(⟨0, 0, W, H⟩ : Rect)])) true), .gen (rowE (pB b3) b3 1 1 28 4 (rvals [(⟨0, 0, W, H⟩ : Rect)]) true), .cells b2 [iq W, iq H, .slice (pB r2) n2 n2] 115 true, .gen (rowE (pB r2) r2 n2 n2 54 1 (ivals .u32 (List.replicate n2 0)) true), .cells b1 [.pointer (pB b2), .pointer none, .slice A4 k6 cp7, .slice none 0 0, iq 0, iq 0, iq 0, iq 0] 98 true]) (fun x_ => True) (by kernel_rfl) (fun w hT => (regOf (pB b11) b11 0 1 1 [(⟨0, 0, W, H⟩ : Rect)] w (hT.viewRo (.cons (i := 0) rfl Vw.rowRd .nil) rfl) (by omega)).mono fun e w' ⟨A12, g13, k14, cp15, he_, ht_⟩ => ⟨(A12, g13, k14, cp15), he_, trivial, hT.news ht_ rfl⟩) ?_
 rintro ⟨A12, g13, k14, cp15⟩ hf16_
 refine cont_norm [(0, iq W), (1, iq H), (6, .pointer (pB b1)), (12, iq 1), (25, iq 1), (27, iq 1), (28, .pointer (pB b10)), (31, .slice (pB b11) 1 1), (32, .slice A12 k14 cp15), (34, .pointer (pB b1)), (37, .pointer (some ⟨b1, 2, none⟩))] [.gen (rowE (A12) g13 k14 cp15 28 4 (rvals (canR [(⟨0, 0, W, H⟩ : Rect)])) true), .gen (rowE (pB b11) b11 1 1 28 4 (rvals [(⟨0, 0, W, H⟩ : Rect)]) true), .cells b10 [iq W, iq H, .slice (pB r10) n10 n10] 115 true, .gen (rowE (pB r10) r10 n10 n10 54 1 (ivals .u32 (List.replicate n10 0)) true), .gen (rowE (A4) g5 k6 cp7 28 4 (rvals (canR [(⟨0, 0, W, H⟩ : Rect)])) true), .gen (rowE (pB b3) b3 1 1 28 4 (rvals [(⟨0, 0, W, H⟩ : Rect)]) true), .cells b2 [iq W, iq H, .slice (pB r2) n2 n2] 115 true, .gen (rowE (pB r2) r2 n2 n2 54 1 (ivals .u32 (List.replicate n2 0)) true), .cells b1 [.pointer (pB b2), .pointer none, .slice A4 k6 cp7, .slice none 0 0, iq 0, iq 0, iq 0, iq 0] 98 true] (by kernel_rfl) rfl ?_
 refine cont_fact (F := (0 < k14 → (A12 : Option Addr) = pB g13) ∧ (canR [(⟨0, 0, W, H⟩ : Rect)]).length = k14 ∧ k14 ≤ cp15 ∧ cp15 ≤ maxLen) (fun w hT => Row.factsR (hT.ok 0 _ rfl)) (fun hr17_ => ?_)
 obtain ⟨hr17_a, hr17_l, hr17_c, hr17_m⟩ := hr17_
 unfold maxLen at hr17_m
 refine drawn_next 2 [6] (by kernel_rfl) ?_
 refine takes 2 [6] [(11, 0)] 3 [11, 8, 7, 6, 14, 10, 13, 9, 5, 4, 3, 2, 1, 0] [(0, iq W), (1, iq H), (6, .pointer (pB b1)), (12, iq 1), (27, iq 1), (28, .pointer (pB b10)), (32, .slice A12 k14 cp15), (35, .pointer (some ⟨b1, 1, none⟩)), (37, .pointer (some ⟨b1, 2, none⟩))] (by kernel_rfl) (pok_blk (pok_then (pok_then (pok_blk (pok_then pok_body))))) (by kernel_rfl) rfl rfl (by kernel_rfl) (by kernel_rfl) ?_
 refine drawn_one 12 2 rfl (by kernel_rfl) ?_
 refine one_step 8 [(0, iq W), (1, iq H), (6, .pointer (pB b1)), (12, iq 1), (27, iq 1), (32, .slice A12 k14 cp15), (37, .pointer (some ⟨b1, 2, none⟩))] [.gen (rowE (A12) g13 k14 cp15 28 4 (rvals (canR [(⟨0, 0, W, H⟩ : Rect)])) true), .gen (rowE (pB b11) b11 1 1 28 4 (rvals [(⟨0, 0, W, H⟩ : Rect)]) true), .cells b10 [iq W, iq H, .slice (pB r10) n10 n10] 115 true, .gen (rowE (pB r10) r10 n10 n10 54 1 (ivals .u32 (List.replicate n10 0)) true), .gen (rowE (A4) g5 k6 cp7 28 4 (rvals (canR [(⟨0, 0, W, H⟩ : Rect)])) true), .gen (rowE (pB b3) b3 1 1 28 4 (rvals [(⟨0, 0, W, H⟩ : Rect)]) true), .cells b2 [iq W, iq H, .slice (pB r2) n2 n2] 115 true, .gen (rowE (pB r2) r2 n2 n2 54 1 (ivals .u32 (List.replicate n2 0)) true), .cells b1 [.pointer (pB b2), .pointer (pB b10), .slice A4 k6 cp7, .slice none 0 0, iq 0, iq 0, iq 0, iq 0] 98 true] (by kernel_rfl) (by kernel_rfl) ?_
 refine drawn_next 2 [6] (by kernel_rfl) ?_
 refine takes 2 [6] [(15, 0)] 1 [15, 12, 11, 8, 7, 6, 14, 10, 13, 9, 5, 4, 3, 2, 1, 0] [(0, iq W), (1, iq H), (6, .pointer (pB b1)), (12, iq 1), (32, .slice A12 k14 cp15), (38, .pointer (some ⟨b1, 3, none⟩))] (by kernel_rfl) (pok_blk (pok_then (pok_then (pok_blk (pok_then pok_body))))) (by kernel_rfl) rfl rfl (by kernel_rfl) (by kernel_rfl) ?_
 refine drawn_one 16 0 rfl (by kernel_rfl) ?_
 refine one_step 8 [(0, iq W), (1, iq H), (6, .pointer (pB b1)), (12, iq 1)] [.gen (rowE (A12) g13 k14 cp15 28 4 (rvals (canR [(⟨0, 0, W, H⟩ : Rect)])) true), .gen (rowE (pB b11) b11 1 1 28 4 (rvals [(⟨0, 0, W, H⟩ : Rect)]) true), .cells b10 [iq W, iq H, .slice (pB r10) n10 n10] 115 true, .gen (rowE (pB r10) r10 n10 n10 54 1 (ivals .u32 (List.replicate n10 0)) true), .gen (rowE (A4) g5 k6 cp7 28 4 (rvals (canR [(⟨0, 0, W, H⟩ : Rect)])) true), .gen (rowE (pB b3) b3 1 1 28 4 (rvals [(⟨0, 0, W, H⟩ : Rect)]) true), .cells b2 [iq W, iq H, .slice (pB r2) n2 n2] 115 true, .gen (rowE (pB r2) r2 n2 n2 54 1 (ivals .u32 (List.replicate n2 0)) true), .cells b1 [.pointer (pB b2), .pointer (pB b10), .slice A4 k6 cp7, .slice A12 k14 cp15, iq 0, iq 0, iq 0, iq 0] 98 true] (by kernel_rfl) (by kernel_rfl) ?_
 refine drawn_next 2 [6] (by kernel_rfl) ?_
 refine drawn_done (by kernel_rfl) ?_
 refine blk_normal ?_
 refine then_normal ?_
 refine cont_region 2 rfl ?_
 refine bS [0, 0] 2 0 [(0, iq W), (1, iq H), (6, .pointer (pB b1)), (12, iq 2)] ?_
 refine cont_done ?_
 refine then_normal ?_
 refine cont_round 1 0 rfl ?_
 refine cont_seq ?_
 refine cont_region 1 rfl ?_
 refine bS [0] 1 0 [(0, iq W), (1, iq H), (6, .pointer (pB b1)), (12, iq 2), (13, .bool false)] ?_
 refine cont_done ?_
 refine then_normal ?_
 refine cont_seq ?_
 refine cont_false rfl ?_
 refine cont_exit ?_
 refine then_exit ?_
 refine then_exit ?_
 refine blk_exit ?_
 refine then_normal ?_
 refine cont_seq ?_
 refine cont_region 3 rfl ?_
 refine cont_pick [8, 6, 7, 2, 3, 4, 0] [.cells b1 [.pointer (pB b2), .pointer (pB b10), .slice A4 k6 cp7, .slice A12 k14 cp15, iq 0, iq 0, iq 0, iq 0] 98 true, .cells b2 [iq W, iq H, .slice (pB r2) n2 n2] 115 true, .gen (rowE (pB r2) r2 n2 n2 54 1 (ivals .u32 (List.replicate n2 0)) true), .cells b10 [iq W, iq H, .slice (pB r10) n10 n10] 115 true, .gen (rowE (pB r10) r10 n10 n10 54 1 (ivals .u32 (List.replicate n10 0)) true), .gen (rowE (A4) g5 k6 cp7 28 4 (rvals (canR [(⟨0, 0, W, H⟩ : Rect)])) true), .gen (rowE (A12) g13 k14 cp15 28 4 (rvals (canR [(⟨0, 0, W, H⟩ : Rect)])) true)] (by decide) rfl rfl ?_
 refine cont_norm [(0, iq W), (1, iq H), (6, .pointer (pB b1)), (12, iq 2), (13, .bool false)] [.cells b1 [.pointer (pB b2), .pointer (pB b10), .slice A4 k6 cp7, .slice A12 k14 cp15, iq 0, iq 0, iq 0, iq 0] 98 true, .cells b2 [iq W, iq H, .slice (pB r2) n2 n2] 115 true, .gen (rowE (pB r2) r2 n2 n2 54 1 (ivals .u32 (List.replicate n2 0)) true), .cells b10 [iq W, iq H, .slice (pB r10) n10 n10] 115 true, .gen (rowE (pB r10) r10 n10 n10 54 1 (ivals .u32 (List.replicate n10 0)) true), .gen (rowE (A4) g5 k6 cp7 28 4 (rvals (canR [(⟨0, 0, W, H⟩ : Rect)])) true), .gen (rowE (A12) g13 k14 cp15 28 4 (rvals (canR [(⟨0, 0, W, H⟩ : Rect)])) true)] (by kernel_rfl) rfl ?_
 refine bS [0, 0, 0] 3 0 [(4, .pointer (pB b1)), (5, iq 0)] ?_
 refine cont_done ?_
 refine then_normal ?_
 refine cont_ret ?_
 refine ret_two (.inl rfl) rfl 0 0 (.pointer (pB b1)) (iq 0) (by kernel_rfl) (by kernel_rfl) (by kernel_rfl) (by kernel_rfl) (fun w hT => ?_)
 exact ⟨_, _, _, _, _, _, _, _, _, _, _, _, _, _, _, rfl, ⟨by assumption, by assumption⟩, hT⟩

end Go.Proofs.Ytgmonhehilcegaa

