/- Contracts of functions of the given program, printed by a program of this project. -/
import Derived.Test.YtekgdfaggagfmaaPeId
import Derived.Test.YtekgdfaggagfmaaPeBs
import Derived.Test.YtekgdfaggagfmaaProg
set_option linter.unusedVariables false
set_option linter.unusedSimpArgs false
namespace Go.Proofs.Ytekgdfaggagfmaa
open Go Go.RowKit
set_option maxRecDepth 100000
set_option maxHeartbeats 8000000

theorem idsNew (m : Int) (w : World) :
    Calls Try.prog 8 #[.int .i64 m] w fun e w' => ∃ b bm, e = .returned (.pointer (some ⟨b, 0, none⟩)) ∧ Tab w w' [.cells b [.int .i64 (mn (mx m 1) 32), .map (some bm)] 54 true, .gen (mapE bm (imsV []) true)] := by
 refine enter 9 [(0, iq m)] [] Try.func8 rfl Try.ntmps8 rfl (by kernel_rfl) (Tab.start w) ?_
 refine cont_seq ?_
 refine cont_region 1 rfl ?_
 refine bS [0] 1 0 [(0, iq m)] ?_
 refine cont_done ?_
 refine then_normal ?_
 refine cont_seq ?_
 refine cont_region 7 rfl ?_
 refine bS [0, 0, 0] 3 4 [(5, iq (mn (mx m 1) 32))] ?_
 refine pl_step 4 3 rfl rfl ?_
 refine sem_stepW 6 (Instr.makeMap 52 none) (fun mp1 => .map (some mp1)) (fun mp1 => [.gen (mapE mp1 (imsV []) true)]) (fun _ => True) (by kernel_rfl) (fun w hT => run_makeMap' hT 52) (fun mp1 _ => ?_)
 refine batch1 [0, 0, 0] 7 0 (fun b2 => [(2, .pointer (pB b2))]) (fun b2 => [.cells b2 [iq (mn (mx m 1) 32), .map (some mp1)] 54 true, .gen (mapE mp1 (imsV []) true)]) rfl rfl [2] (fun _ => rfl) (fun b2 => by kernel_rfl) (fun b2 => by kernel_rfl) (fun b2 => ?_)
 refine cont_done ?_
 refine then_normal ?_
 refine cont_ret ?_
 refine ret_one (.inl rfl) rfl 0 (.pointer (pB b2)) (by kernel_rfl) (by kernel_rfl) (fun w hT => ?_)
 exact ⟨_, _, rfl, hT⟩

theorem idsKind (h bm : Nat) (most : Int) (l : IL) (x : Int) (w : World) (hT0 : Tab w w [.ro h [.int .i64 most, .map (some bm)] 54, .gen (mapR bm (imsV l))]) (hok : IdsOk most l) :
    Calls Try.prog 15 #[.pointer (some ⟨h, 0, none⟩), .int .i64 x] w fun e w' => e = .returned (.int .i64 (kindL l x)) ∧ Below w.heap.size w w' := by
 refine enter 11 [(0, .pointer (pB h)), (1, iq x)] [.ro h [iq most, .map (some bm)] 54, .gen (mapR bm (imsV l))] Try.func15 rfl Try.ntmps15 rfl (by kernel_rfl) hT0 ?_
 refine cont_seq ?_
 refine cont_region 1 rfl ?_
 refine bS [0] 1 0 [(0, .pointer (pB h)), (1, iq x)] ?_
 refine cont_done ?_
 refine then_normal ?_
 refine cont_seq ?_
 refine cont_region 7 rfl ?_
 refine bS [0, 0, 0, 0, 0] 5 2 [(8, .map (some bm)), (9, iq x)] ?_
 refine pl_step 6 1 rfl rfl ?_
 refine sem_step 10 (Instr.lookup 52 (.map (some bm)) (iq x) false) (iq (kindL l x)) (by kernel_rfl) (fun w hT => run_lookupI (kt := 3) (et := 3) (kf := .i64) (hT.ok 1 _ rfl) (by kernel_rfl) (by kernel_rfl) (by kernel_rfl) x) ?_
 refine bS [0] 7 0 [(4, iq (kindL l x))] ?_
 refine cont_done ?_
 refine then_normal ?_
 refine cont_ret ?_
 refine ret_one (.inl rfl) rfl 0 (iq (kindL l x)) (by kernel_rfl) (by kernel_rfl) (fun w hT => ?_)
 exact ⟨rfl, hT.post rfl⟩

theorem idsLen (h bm : Nat) (most : Int) (l : IL) (w : World) (hT0 : Tab w w [.ro h [.int .i64 most, .map (some bm)] 54, .gen (mapR bm (imsV l))]) (hok : IdsOk most l) :
    Calls Try.prog 10 #[.pointer (some ⟨h, 0, none⟩)] w fun e w' => e = .returned (.int .i64 (l.length : Int)) ∧ Below w.heap.size w w' := by
 refine enter 8 [(0, .pointer (pB h))] [.ro h [iq most, .map (some bm)] 54, .gen (mapR bm (imsV l))] Try.func10 rfl Try.ntmps10 rfl (by kernel_rfl) hT0 ?_
 refine cont_seq ?_
 refine cont_region 1 rfl ?_
 refine bS [0] 1 0 [(0, .pointer (pB h))] ?_
 refine cont_done ?_
 refine then_normal ?_
 refine cont_seq ?_
 refine cont_region 6 rfl ?_
 refine bS [0, 0, 0, 0] 4 2 [(6, .map (some bm))] ?_
 refine pl_step 5 1 rfl rfl ?_
 refine sem_step 7 (Builtin.len_ #[52] 3 #[.map (some bm)]) (iq (l.length : Int)) (by kernel_rfl) (fun w hT => run_lenI (kt := 3) (et := 3) (hT.ok 1 _ rfl) rfl (by kernel_rfl)) ?_
 refine bS [0] 6 0 [(2, iq (l.length : Int))] ?_
 refine cont_done ?_
 refine then_normal ?_
 refine cont_ret ?_
 refine ret_one (.inl rfl) rfl 0 (iq (l.length : Int)) (by kernel_rfl) (by kernel_rfl) (fun w hT => ?_)
 exact ⟨rfl, hT.post rfl⟩

theorem idsFree (h bm : Nat) (most : Int) (l : IL) (w : World) (hT0 : Tab w w [.ro h [.int .i64 most, .map (some bm)] 54, .gen (mapR bm (imsV l))]) (hok : IdsOk most l) :
    Calls Try.prog 12 #[.pointer (some ⟨h, 0, none⟩)] w fun e w' => e = .returned (.int .i64 (most - (l.length : Int))) ∧ Below w.heap.size w w' := by
 have h1 := hok.lo
 have h2 := hok.hi
 have h3 := hok.le
 refine enter 13 [(0, .pointer (pB h))] [.ro h [iq most, .map (some bm)] 54, .gen (mapR bm (imsV l))] Try.func12 rfl Try.ntmps12 rfl (by kernel_rfl) hT0 ?_
 refine cont_seq ?_
 refine cont_region 1 rfl ?_
 refine bS [0] 1 0 [(0, .pointer (pB h))] ?_
 refine cont_done ?_
 refine then_normal ?_
 refine cont_seq ?_
 refine drawn_enter 11 [] rfl (by kernel_rfl) ?_
 refine takes 0 [] [(0, 0), (4, 0), (1, 0), (5, 0), (2, 0), (6, 0), (3, 0), (7, 0)] 3 [7, 3, 6, 2, 5, 1, 4, 0] [(6, iq most), (10, .map (some bm))] (by kernel_rfl) (pok_then pok_body) (by kernel_rfl) rfl rfl (by kernel_rfl) (by kernel_rfl) ?_
 refine sem_take 0 [] 8 2 11 (Builtin.len_ #[52] 3 #[.map (some bm)]) (iq (l.length : Int)) (by kernel_rfl) (pok_then pok_body) (by kernel_rfl) rfl (by kernel_rfl) (by kernel_rfl) (fun w hT => run_lenI (kt := 3) (et := 3) (hT 1 _ rfl) rfl (by kernel_rfl)) ?_
 refine takes 0 [] [(9, 0)] 1 [9, 8, 7, 3, 6, 2, 5, 1, 4, 0] [(12, iq (IntKind.i64.wrap (most - (l.length : Int))))] (by kernel_rfl) (pok_then pok_body) (by kernel_rfl) rfl rfl (by kernel_rfl) (by kernel_rfl) ?_
 refine cont_recast 12 (iq (IntKind.i64.wrap (most - (l.length : Int)))) (iq (most - (l.length : Int))) rfl (wrapI (by omega) (by omega)) ?_
 refine takes 0 [] [(10, 0)] 0 [10, 9, 8, 7, 3, 6, 2, 5, 1, 4, 0] [(2, iq (most - (l.length : Int)))] (by kernel_rfl) (pok_then pok_body) (by kernel_rfl) rfl rfl (by kernel_rfl) (by kernel_rfl) ?_
 refine drawn_done (by kernel_rfl) ?_
 refine then_normal ?_
 refine cont_ret ?_
 refine ret_one (.inl rfl) rfl 0 (iq (most - (l.length : Int))) (by kernel_rfl) (by kernel_rfl) (fun w hT => ?_)
 exact ⟨rfl, hT.post rfl⟩

theorem idsAdd (h bm : Nat) (most : Int) (l : IL) (x k : Int) (w : World) (hT0 : Tab w w [.ro h [.int .i64 most, .map (some bm)] 54, .gen (mapE bm (imsV l) false)]) (hok : IdsOk most l) :
    Calls Try.prog 9 #[.pointer (some ⟨h, 0, none⟩), .int .i64 x, .int .i64 k] w fun e w' => e = .returned (.int .i64 (addE most l x k)) ∧ Tab w w' [.ro h [.int .i64 most, .map (some bm)] 54, .gen (mapE bm (imsV (addL most l x k)) false)] := by
 refine enter 37 [(0, .pointer (pB h)), (1, iq x), (2, iq k)] [.ro h [iq most, .map (some bm)] 54, .gen (mapE bm (imsV l) false)] Try.func9 rfl Try.ntmps9 rfl (by kernel_rfl) hT0 ?_
 refine cont_seq ?_
 refine cont_region 1 rfl ?_
 refine bS [0] 1 0 [(0, .pointer (pB h)), (1, iq x), (2, iq k)] ?_
 refine cont_done ?_
 refine then_normal ?_
 refine cont_seq ?_
 refine cont_block ?_
 refine cont_seq ?_
 refine cont_region 15 rfl ?_
 refine bS [0, 0, 0] 3 12 [(0, .pointer (pB h)), (1, iq x), (2, iq k), (10, .bool (decide (x < 1)))] ?_
 refine cont_split 10 (decide (x < 1)) rfl (fun c1_ => ?_) (fun c1_ => ?_)
 ·
  replace c1_ := of_decide_eq_true c1_
  refine bS [0, 0, 0, 0, 0, 0, 0, 0, 0, 0, 0, 0] 15 0 [(0, .pointer (pB h)), (1, iq x), (2, iq k), (7, .bool true)] ?_
  refine cont_done ?_
  refine then_normal ?_
  refine cont_true rfl ?_
  refine cont_seq ?_
  refine cont_region 1 rfl ?_
  refine bS [0] 1 0 [(6, iq 1)] ?_
  refine cont_done ?_
  refine then_normal ?_
  refine cont_ret ?_
  refine blk_ret ?_
  refine then_ret ?_
  refine ret_one (.inl rfl) rfl 0 (iq 1) (by kernel_rfl) (by kernel_rfl) (fun w hT => ?_)
  refine ⟨ret_int (by simp [addE, *]), ?_⟩
  rw [show addL most l x k = l from by simp [addL, addE, *]]
  exact hT
 replace c1_ := of_decide_eq_false c1_
 refine bS [0, 0, 0, 0] 7 8 [(0, .pointer (pB h)), (1, iq x), (2, iq k), (14, .bool (decide (x > 4294967295)))] ?_
 refine cont_split 14 (decide (x > 4294967295)) rfl (fun c2_ => ?_) (fun c2_ => ?_)
 ·
  replace c2_ := of_decide_eq_true c2_
  refine bS [0, 0, 0, 0, 0, 0, 0, 0] 15 0 [(0, .pointer (pB h)), (1, iq x), (2, iq k), (7, .bool true)] ?_
  refine cont_done ?_
  refine then_normal ?_
  refine cont_true rfl ?_
  refine cont_seq ?_
  refine cont_region 1 rfl ?_
  refine bS [0] 1 0 [(6, iq 1)] ?_
  refine cont_done ?_
  refine then_normal ?_
  refine cont_ret ?_
  refine blk_ret ?_
  refine then_ret ?_
  refine ret_one (.inl rfl) rfl 0 (iq 1) (by kernel_rfl) (by kernel_rfl) (fun w hT => ?_)
  refine ⟨ret_int (by simp [addE, *]), ?_⟩
  rw [show addL most l x k = l from by simp [addL, addE, *]]
  exact hT
 replace c2_ := of_decide_eq_false c2_
 refine bS [0, 0, 0, 0] 11 4 [(0, .pointer (pB h)), (1, iq x), (2, iq k), (18, .bool (decide (k < 1)))] ?_
 refine cont_split 18 (decide (k < 1)) rfl (fun c3_ => ?_) (fun c3_ => ?_)
 ·
  replace c3_ := of_decide_eq_true c3_
  refine bS [0, 0, 0, 0] 15 0 [(0, .pointer (pB h)), (1, iq x), (2, iq k), (7, .bool true)] ?_
  refine cont_done ?_
  refine then_normal ?_
  refine cont_true rfl ?_
  refine cont_seq ?_
  refine cont_region 1 rfl ?_
  refine bS [0] 1 0 [(6, iq 1)] ?_
  refine cont_done ?_
  refine then_normal ?_
  refine cont_ret ?_
  refine blk_ret ?_
  refine then_ret ?_
  refine ret_one (.inl rfl) rfl 0 (iq 1) (by kernel_rfl) (by kernel_rfl) (fun w hT => ?_)
  refine ⟨ret_int (by simp [addE, *]), ?_⟩
  rw [show addL most l x k = l from by simp [addL, addE, *]]
  exact hT
 replace c3_ := of_decide_eq_false c3_
 refine bS [0, 0, 0, 0] 15 0 [(0, .pointer (pB h)), (1, iq x), (2, iq k), (7, .bool (decide (k > 8)))] ?_
 refine cont_done ?_
 refine then_normal ?_
 refine cont_split 7 (decide (k > 8)) rfl (fun c4_ => ?_) (fun c4_ => ?_)
 ·
  replace c4_ := of_decide_eq_true c4_
  refine cont_true rfl ?_
  refine cont_seq ?_
  refine cont_region 1 rfl ?_
  refine bS [0] 1 0 [(6, iq 1)] ?_
  refine cont_done ?_
  refine then_normal ?_
  refine cont_ret ?_
  refine blk_ret ?_
  refine then_ret ?_
  refine ret_one (.inl rfl) rfl 0 (iq 1) (by kernel_rfl) (by kernel_rfl) (fun w hT => ?_)
  refine ⟨ret_int (by simp [addE, *]), ?_⟩
  rw [show addL most l x k = l from by simp [addL, addE, *]]
  exact hT
 replace c4_ := of_decide_eq_false c4_
 refine cont_false rfl ?_
 refine cont_seq ?_
 refine cont_region 5 rfl ?_
 refine bS [0, 0] 2 3 [(0, .pointer (pB h)), (1, iq x), (2, iq k), (23, .pointer (pB h)), (24, iq x)] ?_
 refine pl_step 3 2 rfl rfl ?_
 refine call_pure (d := 25) (iq (kindL l x)) (by kernel_rfl) (fun w hT => idsKind h bm most l x w (hT.viewRo (.cons (i := 0) rfl Vw.ro (.cons (i := 1) rfl Vw.mapRE .nil)) rfl) hok) ?_
 refine bS [0, 0] 5 0 [(0, .pointer (pB h)), (1, iq x), (2, iq k), (22, .bool ((kindL l x) != 0))] ?_
 refine cont_done ?_
 refine then_normal ?_
 refine cont_split 22 ((kindL l x) != 0) rfl (fun c5_ => ?_) (fun c5_ => ?_)
 ·
  replace c5_ := ne_of_bne c5_
  refine cont_true rfl ?_
  refine cont_seq ?_
  refine cont_region 1 rfl ?_
  refine bS [0] 1 0 [(6, iq 6)] ?_
  refine cont_done ?_
  refine then_normal ?_
  refine cont_ret ?_
  refine blk_ret ?_
  refine then_ret ?_
  refine ret_one (.inl rfl) rfl 0 (iq 6) (by kernel_rfl) (by kernel_rfl) (fun w hT => ?_)
  refine ⟨ret_int (by simp [addE, *]), ?_⟩
  rw [show addL most l x k = l from by simp [addL, addE, *]]
  exact hT
 replace c5_ := eq_of_bne_false c5_
 refine cont_false rfl ?_
 refine cont_seq ?_
 refine cont_region 4 rfl ?_
 refine bS [0] 1 3 [(0, .pointer (pB h)), (1, iq x), (2, iq k), (28, .pointer (pB h))] ?_
 refine pl_step 2 2 rfl rfl ?_
 refine call_pure (d := 29) (iq (most - (l.length : Int))) (by kernel_rfl) (fun w hT => idsFree h bm most l w (hT.viewRo (.cons (i := 0) rfl Vw.ro (.cons (i := 1) rfl Vw.mapRE .nil)) rfl) hok) ?_
 refine bS [0, 0] 4 0 [(0, .pointer (pB h)), (1, iq x), (2, iq k), (27, .bool ((most - (l.length : Int)) == 0))] ?_
 refine cont_done ?_
 refine then_normal ?_
 refine cont_split 27 ((most - (l.length : Int)) == 0) rfl (fun c6_ => ?_) (fun c6_ => ?_)
 ·
  replace c6_ := eq_of_beqt c6_
  refine cont_true rfl ?_
  refine cont_seq ?_
  refine cont_region 1 rfl ?_
  refine bS [0] 1 0 [(6, iq 10)] ?_
  refine cont_done ?_
  refine then_normal ?_
  refine cont_ret ?_
  refine blk_ret ?_
  refine then_ret ?_
  refine ret_one (.inl rfl) rfl 0 (iq 10) (by kernel_rfl) (by kernel_rfl) (fun w hT => ?_)
  refine ⟨ret_int (by simp [addE, *]), ?_⟩
  rw [show addL most l x k = l from by simp [addL, addE, *]]
  exact hT
 replace c6_ := ne_of_beqf c6_
 refine cont_false rfl ?_
 refine cont_skip ?_
 refine blk_normal ?_
 refine then_normal ?_
 refine cont_seq ?_
 refine cont_region 7 rfl ?_
 refine bS [0, 0, 0, 0, 0, 0] 6 1 [(34, .map (some bm)), (35, iq x), (36, iq k)] ?_
 refine pl_step 7 0 rfl rfl ?_
 refine sem_stepU (Instr.mapUpdate 52 (.map (some bm)) (iq x) (iq k)) (fun _ => [.ro h [iq most, .map (some bm)] 54, .gen (mapE bm (imsV (iput l x k)) false)]) (fun _ => True) (by kernel_rfl) (fun w hT => run_updateI (kt := 3) (et := 3) (kf := .i64) hT (i := 1) rfl (by kernel_rfl) (by kernel_rfl) x k) (fun _ _ => ?_)
 refine cont_done ?_
 refine then_normal ?_
 refine cont_seq ?_
 refine cont_region 1 rfl ?_
 refine bS [0] 1 0 [(6, iq 0)] ?_
 refine cont_done ?_
 refine then_normal ?_
 refine cont_ret ?_
 refine ret_one (.inl rfl) rfl 0 (iq 0) (by kernel_rfl) (by kernel_rfl) (fun w hT => ?_)
 refine ⟨ret_int (by simp [addE, *]), ?_⟩
 rw [show addL most l x k = iput l x k from by simp [addL, addE, *]]
 exact hT

theorem idsFind (h bm : Nat) (most : Int) (l : IL) (x k : Int) (w : World) (hT0 : Tab w w [.ro h [.int .i64 most, .map (some bm)] 54, .gen (mapR bm (imsV l))]) (hok : IdsOk most l) :
    Calls Try.prog 14 #[.pointer (some ⟨h, 0, none⟩), .int .i64 x, .int .i64 k] w fun e w' => e = .returned (.int .i64 (findE l x k)) ∧ Below w.heap.size w w' := by
 refine enter 15 [(0, .pointer (pB h)), (1, iq x), (2, iq k)] [.ro h [iq most, .map (some bm)] 54, .gen (mapR bm (imsV l))] Try.func14 rfl Try.ntmps14 rfl (by kernel_rfl) hT0 ?_
 refine cont_seq ?_
 refine cont_region 1 rfl ?_
 refine bS [0] 1 0 [(0, .pointer (pB h)), (1, iq x), (2, iq k)] ?_
 refine cont_done ?_
 refine then_normal ?_
 refine cont_seq ?_
 refine cont_seq ?_
 refine cont_region 3 rfl ?_
 refine bS [0, 0] 2 1 [(2, iq k), (7, .pointer (pB h)), (8, iq x)] ?_
 refine pl_step 3 0 rfl rfl ?_
 refine call_pure (d := 9) (iq (kindL l x)) (by kernel_rfl) (fun w hT => idsKind h bm most l x w (hT.viewRo (.cons (i := 0) rfl Vw.ro (.cons (i := 1) rfl Vw.mapR .nil)) rfl) hok) ?_
 refine cont_done ?_
 refine then_normal ?_
 refine cont_block ?_
 refine cont_seq ?_
 refine cont_region 2 rfl ?_
 refine bS [0, 0] 2 0 [(2, iq k), (9, iq (kindL l x)), (10, .bool ((kindL l x) == 0))] ?_
 refine cont_done ?_
 refine then_normal ?_
 refine cont_split 10 ((kindL l x) == 0) rfl (fun c1_ => ?_) (fun c1_ => ?_)
 ·
  replace c1_ := eq_of_beqt c1_
  refine cont_true rfl ?_
  refine cont_seq ?_
  refine cont_region 1 rfl ?_
  refine bS [0] 1 0 [(6, iq 5)] ?_
  refine cont_done ?_
  refine then_normal ?_
  refine cont_ret ?_
  refine blk_ret ?_
  refine then_ret ?_
  refine ret_one (.inl rfl) rfl 0 (iq 5) (by kernel_rfl) (by kernel_rfl) (fun w hT => ?_)
  exact ⟨ret_int (by unfold findE; (repeat' split) <;> first | rfl | omega), hT.post rfl⟩
 replace c1_ := ne_of_beqf c1_
 refine cont_false rfl ?_
 refine cont_seq ?_
 refine cont_region 3 rfl ?_
 refine bS [0, 0, 0] 3 0 [(12, .bool ((kindL l x) == k))] ?_
 refine cont_done ?_
 refine then_normal ?_
 refine cont_split 12 ((kindL l x) == k) rfl (fun c2_ => ?_) (fun c2_ => ?_)
 ·
  replace c2_ := eq_of_beqt c2_
  refine cont_true rfl ?_
  refine cont_seq ?_
  refine cont_region 1 rfl ?_
  refine bS [0] 1 0 [(6, iq 0)] ?_
  refine cont_done ?_
  refine then_normal ?_
  refine cont_ret ?_
  refine blk_ret ?_
  refine then_ret ?_
  refine ret_one (.inl rfl) rfl 0 (iq 0) (by kernel_rfl) (by kernel_rfl) (fun w hT => ?_)
  exact ⟨ret_int (by unfold findE; (repeat' split) <;> first | rfl | omega), hT.post rfl⟩
 replace c2_ := ne_of_beqf c2_
 refine cont_false rfl ?_
 refine cont_skip ?_
 refine blk_normal ?_
 refine then_normal ?_
 refine cont_seq ?_
 refine cont_region 1 rfl ?_
 refine bS [0] 1 0 [(6, iq 9)] ?_
 refine cont_done ?_
 refine then_normal ?_
 refine cont_ret ?_
 refine ret_one (.inl rfl) rfl 0 (iq 9) (by kernel_rfl) (by kernel_rfl) (fun w hT => ?_)
 exact ⟨ret_int (by unfold findE; (repeat' split) <;> first | rfl | omega), hT.post rfl⟩

theorem idsDrop (h bm : Nat) (most : Int) (l : IL) (x : Int) (w : World) (hT0 : Tab w w [.ro h [.int .i64 most, .map (some bm)] 54, .gen (mapE bm (imsV l) false)]) (hok : IdsOk most l) :
    Calls Try.prog 13 #[.pointer (some ⟨h, 0, none⟩), .int .i64 x] w fun e w' => e = .returned (.bool (kindL l x != 0)) ∧ Tab w w' [.ro h [.int .i64 most, .map (some bm)] 54, .gen (mapE bm (imsV (idel l x)) false)] := by
 refine enter 16 [(0, .pointer (pB h)), (1, iq x)] [.ro h [iq most, .map (some bm)] 54, .gen (mapE bm (imsV l) false)] Try.func13 rfl Try.ntmps13 rfl (by kernel_rfl) hT0 ?_
 refine cont_seq ?_
 refine cont_region 1 rfl ?_
 refine bS [0] 1 0 [(0, .pointer (pB h)), (1, iq x)] ?_
 refine cont_done ?_
 refine then_normal ?_
 refine cont_seq ?_
 refine cont_region 5 rfl ?_
 refine bS [0, 0] 2 3 [(0, .pointer (pB h)), (1, iq x), (6, .pointer (pB h)), (7, iq x)] ?_
 refine pl_step 3 2 rfl rfl ?_
 refine call_pure (d := 8) (iq (kindL l x)) (by kernel_rfl) (fun w hT => idsKind h bm most l x w (hT.viewRo (.cons (i := 0) rfl Vw.ro (.cons (i := 1) rfl Vw.mapRE .nil)) rfl) hok) ?_
 refine bS [0, 0] 5 0 [(0, .pointer (pB h)), (1, iq x), (5, .bool ((kindL l x) != 0))] ?_
 refine cont_done ?_
 refine then_normal ?_
 refine cont_seq ?_
 refine cont_region 6 rfl ?_
 refine bS [0, 0, 0, 0, 0] 5 1 [(5, .bool ((kindL l x) != 0)), (13, .map (some bm)), (14, iq x)] ?_
 refine pl_step 6 0 rfl rfl ?_
 refine sem_stepN (Builtin.delete_ #[52, 3] 0 #[.map (some bm), iq x]) (fun _ => [.ro h [iq most, .map (some bm)] 54, .gen (mapE bm (imsV (idel l x)) false)]) (fun _ => True) (by kernel_rfl) (fun w hT => run_deleteI (kt := 3) (et := 3) (kf := .i64) hT (i := 1) rfl rfl (by kernel_rfl) (by kernel_rfl) x) (fun _ _ => ?_)
 refine cont_done ?_
 refine then_normal ?_
 refine cont_seq ?_
 refine cont_region 2 rfl ?_
 refine bS [0, 0] 2 0 [(4, .bool ((kindL l x) != 0))] ?_
 refine cont_done ?_
 refine then_normal ?_
 refine cont_ret ?_
 refine ret_one (.inl rfl) rfl 0 (.bool ((kindL l x) != 0)) (by kernel_rfl) (by kernel_rfl) (fun w hT => ?_)
 exact ⟨rfl, hT⟩

end Go.Proofs.Ytekgdfaggagfmaa

