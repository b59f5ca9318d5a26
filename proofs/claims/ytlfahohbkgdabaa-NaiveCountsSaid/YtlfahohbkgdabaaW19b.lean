/- Contracts of functions of the given program, printed by a program of this project. -/
import Derived.Test.YtlfahohbkgdabaaL19c
import Derived.Test.YtlfahohbkgdabaaProg
set_option linter.unusedVariables false
set_option linter.unusedSimpArgs false
namespace Go.Proofs.Ytlfahohbkgdabaa
open Go Go.RowKit
set_option maxRecDepth 100000
set_option maxHeartbeats 8000000

theorem payPixel0 (c : Int) (w : World) :
    Calls Try.prog 51 #[.int .u32 c, .slice none 0 0] w fun e w' => e = .returned (.int .u32 c) ∧ Below w.heap.size w w' := by
 refine enter 18 [(0, .int .u32 c), (1, .slice none 0 0)] [] Try.func51 rfl Try.ntmps51 rfl (by kernel_rfl) (Tab.start w) ?_
 refine cont_seq ?_
 refine cont_region 1 rfl ?_
 refine bS [0] 1 0 [(0, .int .u32 c), (1, .slice none 0 0)] ?_
 refine cont_done ?_
 refine then_normal ?_
 refine cont_seq ?_
 refine cont_seq ?_
 refine cont_region 3 rfl ?_
 refine bS [0, 0, 0] 3 0 [(0, .int .u32 c), (7, .slice none 0 0), (8, iq 0), (9, iq 0)] ?_
 refine cont_done ?_
 refine then_normal ?_
 refine cont_block ?_
 refine cont_rounds 1 ?_
 refine cont_round 1 0 rfl ?_
 refine cont_seq ?_
 refine cont_region 1 rfl ?_
 refine bS [0] 1 0 [(0, .int .u32 c), (7, .slice none 0 0), (8, iq 0), (9, iq 0), (10, .bool false)] ?_
 refine cont_done ?_
 refine then_normal ?_
 refine cont_seq ?_
 refine cont_false rfl ?_
 refine cont_exit ?_
 refine then_exit ?_
 refine then_exit ?_
 refine blk_exit ?_
 refine then_normal ?_
 refine cont_seq ?_
 refine cont_region 2 rfl ?_
 refine bS [0, 0] 2 0 [(4, .int .u32 c)] ?_
 refine cont_done ?_
 refine then_normal ?_
 refine cont_ret ?_
 refine ret_one (.inl rfl) rfl 0 (.int .u32 c) (by kernel_rfl) (by kernel_rfl) (fun w hT => ?_)
 exact ⟨rfl, hT.post rfl⟩

theorem naivePixel0 (w : World) :
    Calls Try.prog 14 #[.agg #[.int .i64 0, .slice none 0 0], .int .i64 3, .int .i64 3, .int .u32 4278190081] w fun e w' => e = .returned (.int .u32 4278190081) ∧ Below w.heap.size w w' := by
 refine enter 39 [(0, .agg #[iq 0, .slice none 0 0]), (1, iq 3), (2, iq 3), (3, .int .u32 4278190081)] [] Try.func14 rfl Try.ntmps14 rfl (by kernel_rfl) (Tab.start w) ?_
 refine cont_seq ?_
 refine cont_region 2 rfl ?_
 refine batch1 [0, 0] 2 0 (fun b1 => [(1, iq 3), (2, iq 3), (3, .int .u32 4278190081), (4, .pointer (pB b1))]) (fun b1 => [.cells b1 [iq 0, .slice none 0 0] 29 true]) rfl rfl [1, 2, 3, 4] (fun _ => rfl) (fun b1 => by kernel_rfl) (fun b1 => by kernel_rfl) (fun b1 => ?_)
 refine cont_done ?_
 refine then_normal ?_
 refine cont_seq ?_
 refine cont_region 1 rfl ?_
 refine bS [0] 1 0 [(1, iq 3), (2, iq 3), (3, .int .u32 4278190081), (4, .pointer (pB b1)), (9, .slice none 0 0)] ?_
 refine cont_done ?_
 refine then_normal ?_
 refine cont_seq ?_
 refine cont_seq ?_
 refine cont_region 4 rfl ?_
 refine bS [0, 0, 0, 0] 4 0 [(1, iq 3), (2, iq 3), (3, .int .u32 4278190081), (9, .slice none 0 0), (15, .slice none 0 0), (16, iq 0), (17, iq 0)] ?_
 refine cont_forget 0 rfl ?_
 refine cont_done ?_
 refine then_normal ?_
 refine cont_block ?_
 refine cont_rounds 1 ?_
 refine cont_round 1 0 rfl ?_
 refine cont_seq ?_
 refine cont_region 1 rfl ?_
 refine bS [0] 1 0 [(1, iq 3), (2, iq 3), (3, .int .u32 4278190081), (9, .slice none 0 0), (15, .slice none 0 0), (16, iq 0), (17, iq 0), (18, .bool false)] ?_
 refine cont_done ?_
 refine then_normal ?_
 refine cont_seq ?_
 refine cont_false rfl ?_
 refine cont_exit ?_
 refine then_exit ?_
 refine then_exit ?_
 refine blk_exit ?_
 refine then_normal ?_
 refine cont_seq ?_
 refine cont_region 4 rfl ?_
 refine bS [0, 0] 2 2 [(36, .int .u32 4278190081), (37, .slice none 0 0)] ?_
 refine pl_step 3 1 rfl rfl ?_
 refine call_pure (d := 38) (.int .u32 4278190081) (by kernel_rfl) (fun w hT => payPixel0 4278190081 w) ?_
 refine bS [0] 4 0 [(8, .int .u32 4278190081)] ?_
 refine cont_done ?_
 refine then_normal ?_
 refine cont_ret ?_
 refine ret_one (.inl rfl) rfl 0 (.int .u32 4278190081) (by kernel_rfl) (by kernel_rfl) (fun w hT => ?_)
 exact ⟨rfl, hT.post rfl⟩

theorem lives19 (w : World) :
    Calls Try.prog 16 #[] w fun e w' => e = .returned (.bool true) ∧ Below w.heap.size w w' := by
 refine enter 4 [] [] Try.func16 rfl Try.ntmps16 rfl (by kernel_rfl) (Tab.start w) ?_
 refine cont_seq ?_
 refine cont_region 1 rfl ?_
 refine bS [0] 1 0 [] ?_
 refine cont_done ?_
 refine then_normal ?_
 refine cont_seq ?_
 refine cont_region 4 rfl ?_
 refine bS [0] 1 3 [(1, .agg #[iq 0, .slice none 0 0])] ?_
 refine pl_step 2 2 rfl rfl ?_
 refine call_pure (d := 2) (.int .u32 4278190081) (by kernel_rfl) (fun w hT => naivePixel0 w) ?_
 refine bS [0, 0] 4 0 [(0, .bool true)] ?_
 refine cont_done ?_
 refine then_normal ?_
 refine cont_ret ?_
 refine ret_one (.inl rfl) rfl 0 (.bool true) (by kernel_rfl) (by kernel_rfl) (fun w hT => ?_)
 exact ⟨ret_bool (by decide +kernel), hT.post rfl⟩

theorem walkNaiveCounts (w_ h_ : Int) (A1 : Option Addr) (g1 o1 n1 cap1 : Nat) (xs1 : List Int) (cc : Int) (w : World) (hw : -9223372036854775808 ≤ w_ ∧ w_ ≤ 9223372036854775807) (hh : -9223372036854775808 ≤ h_ ∧ h_ ≤ 9223372036854775807) (hr1 : Rd w A1 g1 o1 n1 1 (ivals .u32 xs1)) (hl1 : xs1.length = n1) (hc1 : n1 ≤ cap1) (hm1 : cap1 ≤ maxLen) (hx1 : ∀ x ∈ xs1, 0 ≤ x ∧ x < 4294967296) (hcc : 0 ≤ cc ∧ cc < 4294967296) :
    Calls Try.prog 4 #[.int .i64 w_, .int .i64 h_, .slice A1 n1 cap1, .int .u32 cc] w fun e w' => e = .returned (.bool true) ∧ Below w.heap.size w w' := by
  unfold maxLen at hm1
  refine enter 61 [(0, .int .i64 w_), (1, .int .i64 h_), (2, .slice A1 n1 cap1), (3, .int .u32 cc)] [.gen (rdE (A1) g1 o1 n1 1 (ivals .u32 xs1))] Try.func4 rfl Try.ntmps4 rfl (by kernel_rfl) hr1.tab ?_
  refine cont_seq ?_
  refine cont_region 1 rfl ?_
  refine bS [0] 1 0 [(0, .int .i64 w_), (1, .int .i64 h_), (2, .slice A1 n1 cap1), (3, .int .u32 cc)] ?_
  refine cont_done ?_
  refine then_normal ?_
  refine cont_seq ?_
  refine cont_region 6 rfl ?_
  refine bS [0, 0, 0] 3 3 [(3, .int .u32 cc), (15, .int .i64 w_), (16, .int .i64 h_), (17, .slice A1 n1 cap1)] ?_
  refine pl_step 4 2 rfl rfl ?_
  refine call_gen (d := 18) (α := Nat × Nat) (fun x_ => .agg #[.int .i64 (1 + aroundI w_ 16), .int .i64 (1 + aroundI h_ 16), .slice (some ⟨x_.1, 0, none⟩) x_.2 x_.2]) (fun x_ => [.gen (rowE (some ⟨x_.1, 0, none⟩) x_.1 x_.2 x_.2 24 1 (ivals .u32 (goodP x_.2 xs1 x_.2)) true), .gen (rdE (A1) g1 o1 n1 1 (ivals .u32 xs1))]) (fun x_ => (x_.2 : Int) = (1 + aroundI w_ 16) * (1 + aroundI h_ 16)) (by kernel_rfl) (fun w hT => (refGood4 A1 g1 o1 n1 cap1 xs1 w_ h_ w (hT.viewRo (.cons (i := 0) rfl Vw.rd .nil) rfl) ⟨hw, hh, hl1, hc1, hm1, hx1, hr1.at_⟩).mono fun e w' ⟨r1, n2, he_, hf_, ht_⟩ => ⟨(r1, n2), he_, hf_, hT.news ht_ rfl⟩) ?_
  rintro ⟨r1, n2⟩ hf3_
  replace hf3_ : (n2 : Int) = (1 + aroundI w_ 16) * (1 + aroundI h_ 16) := hf3_
  refine cont_norm [(3, .int .u32 cc), (15, .int .i64 w_), (16, .int .i64 h_), (17, .slice A1 n1 cap1), (18, .agg #[.int .i64 (1 + aroundI w_ 16), .int .i64 (1 + aroundI h_ 16), .slice (some ⟨r1, 0, none⟩) n2 n2])] [.gen (rowE (some ⟨r1, 0, none⟩) r1 n2 n2 24 1 (ivals .u32 (goodP n2 xs1 n2)) true), .gen (rdE (A1) g1 o1 n1 1 (ivals .u32 xs1))] (by kernel_rfl) rfl ?_
  have hq5_ := aroundI_range w_ (m := 16) (by omega)
  have hq6_ := aroundI_range h_ (m := 16) (by omega)
  have hM4_m : AllMay (goodP n2 xs1 n2) := goodP_may _ hx1
  have hM4_ : ImgOk (1 + aroundI w_ 16) (1 + aroundI h_ 16) n2 (goodP n2 xs1 n2) := imgOk_of (by omega) hf3_ (by simp [goodP_length]) hM4_m
  have hM4_w1 := hM4_.w1
  have hM4_h1 := hM4_.h1
  have hM4_le := hM4_.le
  have hM4_num := hM4_.num
  have hM4_len := hM4_.len
  refine batch1 [0, 0] 6 0 (fun b7 => [(3, .int .u32 cc), (9, .pointer (some ⟨b7, 0, none⟩))]) (fun b7 => [.cells b7 [.int .i64 (1 + aroundI w_ 16), .int .i64 (1 + aroundI h_ 16), .slice (some ⟨r1, 0, none⟩) n2 n2] 41 true, .gen (rowE (some ⟨r1, 0, none⟩) r1 n2 n2 24 1 (ivals .u32 (goodP n2 xs1 n2)) true), .gen (rdE (A1) g1 o1 n1 1 (ivals .u32 xs1))]) rfl rfl [3, 9] (fun _ => rfl) (fun b7 => by kernel_rfl) (fun b7 => by kernel_rfl) (fun b7 => ?_)
  refine cont_done ?_
  refine then_normal ?_
  refine cont_seq ?_
  refine cont_region 3 rfl ?_
  refine bS [0] 1 2 [(3, .int .u32 cc), (9, .pointer (some ⟨b7, 0, none⟩)), (19, .agg #[.int .i64 (1 + aroundI w_ 16), .int .i64 (1 + aroundI h_ 16), .slice (some ⟨r1, 0, none⟩) n2 n2])] ?_
  refine pl_step 2 1 rfl rfl ?_
  refine call_gen (d := 20) (α := Nat × Nat) (fun x_ => .pointer (some ⟨x_.1, 0, none⟩)) (fun x_ => [.cells x_.1 [.int .i64 (1 + aroundI w_ 16), .int .i64 (1 + aroundI h_ 16), .slice (some ⟨x_.2, 0, none⟩) n2 n2] 118 true, .gen (rowE (some ⟨x_.2, 0, none⟩) x_.2 n2 n2 24 1 (ivals .u32 (goodP n2 xs1 n2)) true), .cells b7 [.int .i64 (1 + aroundI w_ 16), .int .i64 (1 + aroundI h_ 16), .slice (some ⟨r1, 0, none⟩) n2 n2] 41 true, .gen (rowE (some ⟨r1, 0, none⟩) r1 n2 n2 24 1 (ivals .u32 (goodP n2 xs1 n2)) true), .gen (rdE (A1) g1 o1 n1 1 (ivals .u32 xs1))]) (fun _ => True) (by kernel_rfl) (fun w hT => (bld (1 + aroundI w_ 16) (1 + aroundI h_ 16) r1 n2 n2 (goodP n2 xs1 n2) w (hT.view (.cons (i := 1) rfl Vw.rowRd .nil) (by decide)) hM4_ hM4_m).mono fun e w' ⟨b_, q_, he_, hi_⟩ => ⟨(b_, q_), he_, trivial, hT.addImg hi_⟩) ?_
  rintro ⟨bl8, bq8⟩ -
  refine cont_norm [(3, .int .u32 cc), (9, .pointer (some ⟨b7, 0, none⟩)), (19, .agg #[.int .i64 (1 + aroundI w_ 16), .int .i64 (1 + aroundI h_ 16), .slice (some ⟨r1, 0, none⟩) n2 n2]), (20, .pointer (some ⟨bl8, 0, none⟩))] [.cells bl8 [.int .i64 (1 + aroundI w_ 16), .int .i64 (1 + aroundI h_ 16), .slice (some ⟨bq8, 0, none⟩) n2 n2] 118 true, .gen (rowE (some ⟨bq8, 0, none⟩) bq8 n2 n2 24 1 (ivals .u32 (goodP n2 xs1 n2)) true), .cells b7 [.int .i64 (1 + aroundI w_ 16), .int .i64 (1 + aroundI h_ 16), .slice (some ⟨r1, 0, none⟩) n2 n2] 41 true, .gen (rowE (some ⟨r1, 0, none⟩) r1 n2 n2 24 1 (ivals .u32 (goodP n2 xs1 n2)) true), .gen (rdE (A1) g1 o1 n1 1 (ivals .u32 xs1))] (by kernel_rfl) rfl ?_
  refine bS [0] 3 0 [(3, .int .u32 cc), (9, .pointer (some ⟨b7, 0, none⟩)), (10, .pointer (some ⟨bl8, 0, none⟩))] ?_
  refine cont_done ?_
  refine then_normal ?_
  refine cont_seq ?_
  refine cont_seq ?_
  refine cont_region 2 rfl ?_
  refine bS [0, 0] 2 0 [(3, .int .u32 cc), (9, .pointer (some ⟨b7, 0, none⟩)), (10, .pointer (some ⟨bl8, 0, none⟩)), (22, .bool false)] ?_
  refine cont_done ?_
  refine then_normal ?_
  refine cont_false rfl ?_
  refine cont_skip ?_
  refine then_normal ?_
  refine cont_seq ?_
  refine cont_region 3 rfl ?_
  refine bS [0] 1 2 [(3, .int .u32 cc), (9, .pointer (some ⟨b7, 0, none⟩)), (23, .pointer (some ⟨bl8, 0, none⟩))] ?_
  refine pl_step 2 1 rfl rfl ?_
  refine call_gen (d := 24) (α := Nat × IL) (fun x_ => .map (some x_.1)) (fun x_ => [.gen (mapEU x_.1 (imsV x_.2) true), .cells bl8 [.int .i64 (1 + aroundI w_ 16), .int .i64 (1 + aroundI h_ 16), .slice (some ⟨bq8, 0, none⟩) n2 n2] 118 true, .gen (rowE (some ⟨bq8, 0, none⟩) bq8 n2 n2 24 1 (ivals .u32 (goodP n2 xs1 n2)) true), .cells b7 [.int .i64 (1 + aroundI w_ 16), .int .i64 (1 + aroundI h_ 16), .slice (some ⟨r1, 0, none⟩) n2 n2] 41 true, .gen (rowE (some ⟨r1, 0, none⟩) r1 n2 n2 24 1 (ivals .u32 (goodP n2 xs1 n2)) true), .gen (rdE (A1) g1 o1 n1 1 (ivals .u32 xs1))]) (fun x_ => CntM x_.2 (goodP n2 xs1 n2)) (by kernel_rfl) (fun w hT => (naiveColors bl8 (1 + aroundI w_ 16) (1 + aroundI h_ 16) bq8 n2 n2 (goodP n2 xs1 n2) w (hT.viewRo (.cons (i := 0) rfl Vw.roc (.cons (i := 1) rfl Vw.rowRd .nil)) rfl) (Row.capLe (hT.ok 1 _ rfl)) hM4_).mono fun e w' ⟨mp9, l10, he_, hf_, ht_⟩ => ⟨(mp9, l10), he_, hf_, hT.news ht_ rfl⟩) ?_
  rintro ⟨mp9, l10⟩ hf11_
  replace hf11_ : CntM l10 (goodP n2 xs1 n2) := hf11_
  refine cont_norm [(3, .int .u32 cc), (9, .pointer (some ⟨b7, 0, none⟩)), (23, .pointer (some ⟨bl8, 0, none⟩)), (24, .map (some mp9))] [.gen (mapEU mp9 (imsV l10) true), .cells bl8 [.int .i64 (1 + aroundI w_ 16), .int .i64 (1 + aroundI h_ 16), .slice (some ⟨bq8, 0, none⟩) n2 n2] 118 true, .gen (rowE (some ⟨bq8, 0, none⟩) bq8 n2 n2 24 1 (ivals .u32 (goodP n2 xs1 n2)) true), .cells b7 [.int .i64 (1 + aroundI w_ 16), .int .i64 (1 + aroundI h_ 16), .slice (some ⟨r1, 0, none⟩) n2 n2] 41 true, .gen (rowE (some ⟨r1, 0, none⟩) r1 n2 n2 24 1 (ivals .u32 (goodP n2 xs1 n2)) true), .gen (rdE (A1) g1 o1 n1 1 (ivals .u32 xs1))] (by kernel_rfl) rfl ?_
  have hcmL := hf11_
  refine bS [0] 3 0 [(3, .int .u32 cc), (9, .pointer (some ⟨b7, 0, none⟩)), (11, .map (some mp9))] ?_
  refine cont_forget 1 rfl ?_
  refine cont_done ?_
  refine then_normal ?_
  refine cont_seq ?_
  refine cont_region 1 rfl ?_
  refine bS [0] 1 0 [(3, .int .u32 cc), (9, .pointer (some ⟨b7, 0, none⟩)), (11, .map (some mp9)), (12, .int .i64 0)] ?_
  refine cont_done ?_
  refine then_normal ?_
  refine cont_seq ?_
  refine cont_seq ?_
  refine cont_region 2 rfl ?_
  refine cont_weaken 0 (.gen (mapRU mp9 (imsV l10))) rfl rfl Vw.mapREU rfl ?_
  refine cont_norm [(3, .int .u32 cc), (9, .pointer (some ⟨b7, 0, none⟩)), (11, .map (some mp9)), (12, .int .i64 0)] [.gen (mapRU mp9 (imsV l10)), .gen (rowE (some ⟨bq8, 0, none⟩) bq8 n2 n2 24 1 (ivals .u32 (goodP n2 xs1 n2)) true), .cells b7 [.int .i64 (1 + aroundI w_ 16), .int .i64 (1 + aroundI h_ 16), .slice (some ⟨r1, 0, none⟩) n2 n2] 41 true, .gen (rowE (some ⟨r1, 0, none⟩) r1 n2 n2 24 1 (ivals .u32 (goodP n2 xs1 n2)) true), .gen (rdE (A1) g1 o1 n1 1 (ivals .u32 xs1))] (by kernel_rfl) rfl ?_
  refine bS [0] 1 1 [(3, .int .u32 cc), (9, .pointer (some ⟨b7, 0, none⟩)), (11, .map (some mp9)), (12, .int .i64 0), (25, .map (some mp9))] ?_
  refine pl_step 2 0 rfl rfl ?_
  refine cont_openMapU 0 (l := l10) rfl (fun es12 ck12 hMF12 => ?_)
  refine cont_norm [(3, .int .u32 cc), (9, .pointer (some ⟨b7, 0, none⟩)), (11, .map (some mp9)), (12, .int .i64 0), (25, .map (some mp9))] [roObjE mp9 (.map es12 ck12), .gen (rowE (some ⟨bq8, 0, none⟩) bq8 n2 n2 24 1 (ivals .u32 (goodP n2 xs1 n2)) true), .cells b7 [.int .i64 (1 + aroundI w_ 16), .int .i64 (1 + aroundI h_ 16), .slice (some ⟨r1, 0, none⟩) n2 n2] 41 true, .gen (rowE (some ⟨r1, 0, none⟩) r1 n2 n2 24 1 (ivals .u32 (goodP n2 xs1 n2)) true), .gen (rdE (A1) g1 o1 n1 1 (ivals .u32 xs1))] (by kernel_rfl) rfl ?_
  refine sem_rangeU 26 (m := 0) (t := 45) (k := 24) (e := 3) (by kernel_rfl) (by kernel_rfl) rfl (fun ri12 => ?_)
  refine cont_done ?_
  refine then_normal ?_
  refine cont_block ?_
  refine cont_recast 12 (.int .i64 0) (.int .i64 (sumL [])) rfl (congrArg (Value.int .i64) rfl) ?_
  refine cont_loop (α := Array Nat × IL) (fun x_ : Array Nat × IL => IterPU es12 l10 x_.1 x_.2) (fun x_ : Array Nat × IL => [(3, .int .u32 cc), (9, .pointer (some ⟨b7, 0, none⟩)), (11, .map (some mp9)), (12, .int .i64 (sumL x_.2)), (26, .pointer (some ⟨ri12, 0, none⟩))]) (fun x_ : Array Nat × IL => [objE ri12 (.mapIter (some mp9) ck12 x_.1 ck12), roObjE mp9 (.map es12 ck12), .gen (rowE (some ⟨bq8, 0, none⟩) bq8 n2 n2 24 1 (ivals .u32 (goodP n2 xs1 n2)) true), .cells b7 [.int .i64 (1 + aroundI w_ 16), .int .i64 (1 + aroundI h_ 16), .slice (some ⟨r1, 0, none⟩) n2 n2] 41 true, .gen (rowE (some ⟨r1, 0, none⟩) r1 n2 n2 24 1 (ivals .u32 (goodP n2 xs1 n2)) true), .gen (rdE (A1) g1 o1 n1 1 (ivals .u32 xs1))]) (fun x_ : Array Nat × IL => l10.length - x_.2.length) (#[], []) (show IterPU es12 l10 (#[]) ([]) from (IterPU.start hMF12)) (by kernel_rfl) (by kernel_rfl) ?_
  rintro ⟨sn, dn⟩ hinv13_
  replace hinv13_ : IterPU es12 l10 sn dn := hinv13_
  refine cont_norm [(3, .int .u32 cc), (9, .pointer (some ⟨b7, 0, none⟩)), (11, .map (some mp9)), (12, .int .i64 (sumL dn)), (26, .pointer (some ⟨ri12, 0, none⟩))] [objE ri12 (.mapIter (some mp9) ck12 sn ck12), roObjE mp9 (.map es12 ck12), .gen (rowE (some ⟨bq8, 0, none⟩) bq8 n2 n2 24 1 (ivals .u32 (goodP n2 xs1 n2)) true), .cells b7 [.int .i64 (1 + aroundI w_ 16), .int .i64 (1 + aroundI h_ 16), .slice (some ⟨r1, 0, none⟩) n2 n2] 41 true, .gen (rowE (some ⟨r1, 0, none⟩) r1 n2 n2 24 1 (ivals .u32 (goodP n2 xs1 n2)) true), .gen (rdE (A1) g1 o1 n1 1 (ivals .u32 xs1))] (by kernel_rfl) rfl ?_
  have hIP := hinv13_
  have hsb := hIP.sum hcmL
  have hsn : ∀ x v : Int, sumL (dn ++ [(x, v)]) = sumL dn + v := fun x v => sumL_snoc dn x v
  refine cont_seq ?_
  refine cont_region 2 rfl ?_
  refine pl_step 1 1 rfl rfl ?_
  refine sem_nextU 27 (j := 0) (m := 1) (ty := 0) (by kernel_rfl) rfl rfl hMF12 hIP (fun hpm => ?_) (fun xk_ vk_ sn2 hxm hIP2 hls => ?_)
  ·
    refine bS [0] 2 0 [(3, .int .u32 cc), (9, .pointer (some ⟨b7, 0, none⟩)), (11, .map (some mp9)), (12, .int .i64 (sumL dn)), (26, .pointer (some ⟨ri12, 0, none⟩)), (28, .bool false)] ?_
    refine cont_done ?_
    refine then_normal ?_
    refine cont_seq ?_
    refine cont_false rfl ?_
    refine cont_exit ?_
    refine then_exit ?_
    refine then_exit ?_
    refine blk_exit ?_
    refine then_normal ?_
    refine cont_seq ?_
    refine cont_closeMapU 1 (l := l10) rfl hMF12 ?_
    refine cont_norm [(3, .int .u32 cc), (9, .pointer (some ⟨b7, 0, none⟩)), (11, .map (some mp9)), (12, .int .i64 (sumL dn)), (26, .pointer (some ⟨ri12, 0, none⟩)), (28, .bool false)] [objE ri12 (.mapIter (some mp9) ck12 sn ck12), .gen (mapRU mp9 (imsV l10)), .gen (rowE (some ⟨bq8, 0, none⟩) bq8 n2 n2 24 1 (ivals .u32 (goodP n2 xs1 n2)) true), .cells b7 [.int .i64 (1 + aroundI w_ 16), .int .i64 (1 + aroundI h_ 16), .slice (some ⟨r1, 0, none⟩) n2 n2] 41 true, .gen (rowE (some ⟨r1, 0, none⟩) r1 n2 n2 24 1 (ivals .u32 (goodP n2 xs1 n2)) true), .gen (rdE (A1) g1 o1 n1 1 (ivals .u32 xs1))] (by kernel_rfl) rfl ?_
    have hsd := (sumL_perm hpm).trans hcmL.sum
    refine drawn_enter 18 [] rfl (by kernel_rfl) ?_
    refine takes 0 [] [(0, 0), (1, 0), (2, 3), (3, 0), (4, 0), (5, 0)] 12 [5, 4, 3, 2, 1, 0] [(3, .int .u32 cc), (9, .pointer (some ⟨b7, 0, none⟩)), (11, .map (some mp9)), (49, .bool ((sumL dn) == (n2 : Int)))] (by kernel_rfl) (pok_then pok_body) (by kernel_rfl) rfl rfl (by kernel_rfl) (by kernel_rfl) ?_
    refine cont_recast 49 (.bool ((sumL dn) == (n2 : Int))) (.bool true) rfl (congrArg Value.bool (by rw [hsd]; exact beq_iff_eq.2 (by omega))) ?_
    refine takes 0 [] [(6, 0), (7, 0), (9, 3), (10, 0)] 8 [10, 9, 7, 6, 5, 4, 3, 2, 1, 0] [(49, .bool true), (50, .map (some mp9)), (51, .int .u32 cc), (53, .agg #[.int .i64 (1 + aroundI w_ 16), .int .i64 (1 + aroundI h_ 16), .slice (some ⟨r1, 0, none⟩) n2 n2]), (54, .int .u32 cc)] (by kernel_rfl) (pok_then pok_body) (by kernel_rfl) rfl rfl (by kernel_rfl) (by kernel_rfl) ?_
    refine drawn_two 8 11 7 rfl (by kernel_rfl) ?_ ?_
    ·
      refine sem_step 52 (Instr.lookup 45 (.map (some mp9)) (.int .u32 cc) false) (.int .i64 (kindL l10 cc)) (by kernel_rfl) (fun w hT => run_lookupIU (kt := 24) (et := 3) (kf := .u32) (hT.ok 1 _ rfl) (by kernel_rfl) (by kernel_rfl) (by kernel_rfl) cc) ?_
      refine drawn_next 0 [] (by kernel_rfl) ?_
      refine drawn_one 11 6 rfl (by kernel_rfl) ?_
      refine call_pure (d := 55) (.int .i64 (cntI (goodP n2 xs1 n2) cc)) (by kernel_rfl) (fun w hT => refCount19 (1 + aroundI w_ 16) (1 + aroundI h_ 16) r1 n2 n2 (goodP n2 xs1 n2) cc w (hT.viewRo (.cons (i := 4) rfl Vw.rowRd .nil) rfl) hM4_) ?_
      refine drawn_next 0 [] (by kernel_rfl) ?_
      refine takes 0 [] [(12, 0), (13, 0), (14, 0)] 3 [14, 13, 12, 11, 8, 10, 9, 7, 6, 5, 4, 3, 2, 1, 0] [(58, .bool ((kindL l10 cc) == (cntI (goodP n2 xs1 n2) cc)))] (by kernel_rfl) (pok_then pok_body) (by kernel_rfl) rfl rfl (by kernel_rfl) (by kernel_rfl) ?_
      refine cont_recast 58 (.bool ((kindL l10 cc) == (cntI (goodP n2 xs1 n2) cc))) (.bool true) rfl (congrArg Value.bool (by rw [hcmL.get]; exact beq_self_eq_true _)) ?_
      refine drawn_one 15 2 rfl (by kernel_rfl) ?_
      refine call_pure (d := 59) (.bool true) (by kernel_rfl) (fun w hT => lives19  w) ?_
      refine drawn_next 0 [] (by kernel_rfl) ?_
      refine takes 0 [] [(16, 0), (17, 0)] 0 [17, 16, 15, 14, 13, 12, 11, 8, 10, 9, 7, 6, 5, 4, 3, 2, 1, 0] [(8, .bool true)] (by kernel_rfl) (pok_then pok_body) (by kernel_rfl) rfl rfl (by kernel_rfl) (by kernel_rfl) ?_
      refine drawn_done (by kernel_rfl) ?_
      refine then_normal ?_
      refine cont_ret ?_
      refine ret_one (.inl rfl) rfl 0 (.bool true) (by kernel_rfl) (by kernel_rfl) (fun w hT => ?_)
      exact ⟨rfl, hT.post rfl⟩
    refine call_pure (d := 55) (.int .i64 (cntI (goodP n2 xs1 n2) cc)) (by kernel_rfl) (fun w hT => refCount19 (1 + aroundI w_ 16) (1 + aroundI h_ 16) r1 n2 n2 (goodP n2 xs1 n2) cc w (hT.viewRo (.cons (i := 4) rfl Vw.rowRd .nil) rfl) hM4_) ?_
    refine drawn_next 0 [] (by kernel_rfl) ?_
    refine drawn_one 8 6 rfl (by kernel_rfl) ?_
    refine sem_step 52 (Instr.lookup 45 (.map (some mp9)) (.int .u32 cc) false) (.int .i64 (kindL l10 cc)) (by kernel_rfl) (fun w hT => run_lookupIU (kt := 24) (et := 3) (kf := .u32) (hT.ok 1 _ rfl) (by kernel_rfl) (by kernel_rfl) (by kernel_rfl) cc) ?_
    refine drawn_next 0 [] (by kernel_rfl) ?_
    refine takes 0 [] [(12, 0), (13, 0), (14, 0)] 3 [14, 13, 12, 8, 11, 10, 9, 7, 6, 5, 4, 3, 2, 1, 0] [(58, .bool ((kindL l10 cc) == (cntI (goodP n2 xs1 n2) cc)))] (by kernel_rfl) (pok_then pok_body) (by kernel_rfl) rfl rfl (by kernel_rfl) (by kernel_rfl) ?_
    refine cont_recast 58 (.bool ((kindL l10 cc) == (cntI (goodP n2 xs1 n2) cc))) (.bool true) rfl (congrArg Value.bool (by rw [hcmL.get]; exact beq_self_eq_true _)) ?_
    refine drawn_one 15 2 rfl (by kernel_rfl) ?_
    refine call_pure (d := 59) (.bool true) (by kernel_rfl) (fun w hT => lives19  w) ?_
    refine drawn_next 0 [] (by kernel_rfl) ?_
    refine takes 0 [] [(16, 0), (17, 0)] 0 [17, 16, 15, 14, 13, 12, 8, 11, 10, 9, 7, 6, 5, 4, 3, 2, 1, 0] [(8, .bool true)] (by kernel_rfl) (pok_then pok_body) (by kernel_rfl) rfl rfl (by kernel_rfl) (by kernel_rfl) ?_
    refine drawn_done (by kernel_rfl) ?_
    refine then_normal ?_
    refine cont_ret ?_
    refine ret_one (.inl rfl) rfl 0 (.bool true) (by kernel_rfl) (by kernel_rfl) (fun w hT => ?_)
    exact ⟨rfl, hT.post rfl⟩
  ·
    refine cont_norm [(3, .int .u32 cc), (9, .pointer (some ⟨b7, 0, none⟩)), (11, .map (some mp9)), (12, .int .i64 (sumL dn)), (26, .pointer (some ⟨ri12, 0, none⟩)), (27, .tuple #[.bool true, .int .u32 xk_, .int .i64 vk_])] [objE ri12 (.mapIter (some mp9) ck12 sn2 ck12), roObjE mp9 (.map es12 ck12), .gen (rowE (some ⟨bq8, 0, none⟩) bq8 n2 n2 24 1 (ivals .u32 (goodP n2 xs1 n2)) true), .cells b7 [.int .i64 (1 + aroundI w_ 16), .int .i64 (1 + aroundI h_ 16), .slice (some ⟨r1, 0, none⟩) n2 n2] 41 true, .gen (rowE (some ⟨r1, 0, none⟩) r1 n2 n2 24 1 (ivals .u32 (goodP n2 xs1 n2)) true), .gen (rdE (A1) g1 o1 n1 1 (ivals .u32 xs1))] (by kernel_rfl) rfl ?_
    refine bS [0] 2 0 [(3, .int .u32 cc), (9, .pointer (some ⟨b7, 0, none⟩)), (11, .map (some mp9)), (12, .int .i64 (sumL dn)), (26, .pointer (some ⟨ri12, 0, none⟩)), (28, .bool true)] ?_
    refine cont_done ?_
    refine then_normal ?_
    refine cont_seq ?_
    refine cont_true rfl ?_
    refine cont_skip ?_
    refine then_normal ?_
    refine cont_block ?_
    refine cont_seq ?_
    refine cont_region 5 rfl ?_
    refine pl_step 1 4 rfl rfl ?_
    refine sem_step 29 (Instr.entry (.pointer (some ⟨ri12, 0, none⟩))) (.tuple #[.int .u32 xk_, .int .i64 vk_]) (by kernel_rfl) (fun w hT => run_entryLU (hT.ok 0 _ rfl) (hT.ok 1 _ rfl) hMF12 hls) ?_
    refine bS [0, 0, 0, 0] 5 0 [(3, .int .u32 cc), (9, .pointer (some ⟨b7, 0, none⟩)), (11, .map (some mp9)), (12, .int .i64 (sumL dn)), (13, .int .u32 xk_), (14, .int .i64 vk_), (26, .pointer (some ⟨ri12, 0, none⟩))] ?_
    refine cont_done ?_
    refine then_normal ?_
    refine cont_seq ?_
    refine cont_seq ?_
    refine cont_region 9 rfl ?_
    obtain ⟨hvp, hvc⟩ := hcmL.mem hxm
    have hsb2 := hIP2.sum hcmL
    rw [hsn] at hsb2
    refine bS [0, 0, 0] 3 6 [(3, .int .u32 cc), (9, .pointer (some ⟨b7, 0, none⟩)), (11, .map (some mp9)), (12, .int .i64 (sumL dn)), (13, .int .u32 xk_), (14, .int .i64 vk_), (26, .pointer (some ⟨ri12, 0, none⟩)), (34, .bool (decide (vk_ < 1)))] ?_
    refine cont_recast 34 (.bool (decide (vk_ < 1))) (.bool false) rfl (congrArg Value.bool (decide_eq_false (by omega))) ?_
    refine bS [0, 3, 0] 6 3 [(3, .int .u32 cc), (9, .pointer (some ⟨b7, 0, none⟩)), (11, .map (some mp9)), (12, .int .i64 (sumL dn)), (14, .int .i64 vk_), (26, .pointer (some ⟨ri12, 0, none⟩)), (34, .bool false), (35, .int .i64 vk_), (36, .agg #[.int .i64 (1 + aroundI w_ 16), .int .i64 (1 + aroundI h_ 16), .slice (some ⟨r1, 0, none⟩) n2 n2]), (37, .int .u32 xk_)] ?_
    refine pl_step 7 2 rfl rfl ?_
    refine call_pure (d := 38) (.int .i64 (cntI (goodP n2 xs1 n2) xk_)) (by kernel_rfl) (fun w hT => refCount19 (1 + aroundI w_ 16) (1 + aroundI h_ 16) r1 n2 n2 (goodP n2 xs1 n2) xk_ w (hT.viewRo (.cons (i := 4) rfl Vw.rowRd .nil) rfl) hM4_) ?_
    refine bS [0, 0] 9 0 [(3, .int .u32 cc), (9, .pointer (some ⟨b7, 0, none⟩)), (11, .map (some mp9)), (12, .int .i64 (sumL dn)), (14, .int .i64 vk_), (26, .pointer (some ⟨ri12, 0, none⟩)), (35, .int .i64 vk_), (36, .agg #[.int .i64 (1 + aroundI w_ 16), .int .i64 (1 + aroundI h_ 16), .slice (some ⟨r1, 0, none⟩) n2 n2]), (37, .int .u32 xk_), (38, .int .i64 (cntI (goodP n2 xs1 n2) xk_)), (39, .bool (vk_ != (cntI (goodP n2 xs1 n2) xk_))), (40, .bool (vk_ != (cntI (goodP n2 xs1 n2) xk_)))] ?_
    refine cont_done ?_
    refine then_normal ?_
    refine cont_recast 40 (.bool (vk_ != (cntI (goodP n2 xs1 n2) xk_))) (.bool false) rfl (congrArg Value.bool (by rw [hvc]; exact bne_self_eq_false _)) ?_
    refine cont_recast 39 (.bool (vk_ != (cntI (goodP n2 xs1 n2) xk_))) (.bool false) rfl (congrArg Value.bool (by rw [hvc]; exact bne_self_eq_false _)) ?_
    refine cont_false rfl ?_
    refine cont_skip ?_
    refine then_normal ?_
    refine cont_region 4 rfl ?_
    refine bS [0, 0, 0] 3 1 [(3, .int .u32 cc), (9, .pointer (some ⟨b7, 0, none⟩)), (11, .map (some mp9)), (26, .pointer (some ⟨ri12, 0, none⟩)), (35, .int .i64 vk_), (36, .agg #[.int .i64 (1 + aroundI w_ 16), .int .i64 (1 + aroundI h_ 16), .slice (some ⟨r1, 0, none⟩) n2 n2]), (37, .int .u32 xk_), (38, .int .i64 (cntI (goodP n2 xs1 n2) xk_)), (39, .bool false), (43, .int .i64 (IntKind.i64.wrap ((sumL dn) + vk_)))] ?_
    refine cont_recast 43 (.int .i64 (IntKind.i64.wrap ((sumL dn) + vk_))) (.int .i64 ((sumL dn) + vk_)) rfl (wrapI (by omega) (by omega)) ?_
    refine bS [0] 4 0 [(3, .int .u32 cc), (9, .pointer (some ⟨b7, 0, none⟩)), (11, .map (some mp9)), (12, .int .i64 ((sumL dn) + vk_)), (26, .pointer (some ⟨ri12, 0, none⟩)), (35, .int .i64 vk_), (36, .agg #[.int .i64 (1 + aroundI w_ 16), .int .i64 (1 + aroundI h_ 16), .slice (some ⟨r1, 0, none⟩) n2 n2]), (37, .int .u32 xk_), (38, .int .i64 (cntI (goodP n2 xs1 n2) xk_)), (39, .bool false)] ?_
    refine cont_done ?_
    refine blk_normal ?_
    refine then_normal ?_
    refine cont_recast 12 (.int .i64 ((sumL dn) + vk_)) (.int .i64 (sumL (dn ++ [(xk_, vk_)]))) rfl (congrArg (Value.int .i64) ((sumL_snoc _ _ _).symm)) ?_
    refine cont_again (sn2, dn ++ [(xk_, vk_)]) (show IterPU es12 l10 (sn2) (dn ++ [(xk_, vk_)]) from hIP2) (show l10.length - (dn ++ [(xk_, vk_)]).length < l10.length - dn.length from by have h_ := hIP2.len; rw [List.length_append, List.length_singleton] at h_ ⊢; omega) (by kernel_rfl) (by kernel_rfl)

end Go.Proofs.Ytlfahohbkgdabaa
