/- Contracts of functions of the given program, printed by a program of this project. -/
import Derived.Test.YtommojgfkkoghaaPfL4d
import Derived.Test.YtommojgfkkoghaaProg
set_option linter.unusedVariables false
set_option linter.unusedSimpArgs false
namespace Go.Proofs.Ytommojgfkkoghaa
open Go Go.RowKit
set_option maxRecDepth 100000
set_option maxHeartbeats 8000000

theorem lives4 (w : World) :
    Calls Try.prog 13 #[] w fun e w' => e = .returned (.bool true) ∧ Below w.heap.size w w' := by
 refine enter 17 [] [] Try.func13 rfl Try.ntmps13 rfl (by kernel_rfl) (Tab.start w) ?_
 refine cont_seq ?_
 refine cont_region 1 rfl ?_
 refine bS [0] 1 0 [] ?_
 refine cont_done ?_
 refine then_normal ?_
 refine cont_seq ?_
 refine cont_region 6 rfl ?_
 refine pl_step 1 5 rfl rfl ?_
 refine call_gen (d := 4) (α := Nat × Nat × Nat) (fun x_ => .tuple #[.pointer (pB x_.1), iq 0]) (fun x_ => [.cells x_.1 [iq 3, iq 3, .slice (pB x_.2.1) x_.2.2 x_.2.2] 84 true, .gen (rowE (pB x_.2.1) x_.2.1 x_.2.2 x_.2.2 28 1 (ivals .u32 (List.replicate x_.2.2 0)) true)]) (fun x_ => (x_.2.2 : Int) = 3 * 3) (by kernel_rfl) (fun w hT => (imgNew 3 3 w (by decide)).mono fun e w' ⟨b_, r_, n_, he_, hn_, hi_⟩ => ⟨(b_, r_, n_), he_, hn_, hT.addImg hi_⟩) ?_
 rintro ⟨b1, r1, n1⟩ hn1
 replace hn1 : (n1 : Int) = 3 * 3 := hn1
 refine cont_norm [(4, .tuple #[.pointer (pB b1), iq 0])] _ (by kernel_rfl) rfl ?_
 refine bS [0, 0, 0, 0, 0] 6 0 [(1, .pointer (pB b1)), (2, iq 0)] ?_
 refine cont_done ?_
 refine then_normal ?_
 refine cont_seq ?_
 refine cont_seq ?_
 refine cont_region 6 rfl ?_
 refine bS [0, 0, 0, 0, 0, 0] 6 0 [(1, .pointer (pB b1)), (12, .bool false)] ?_
 refine cont_done ?_
 refine then_normal ?_
 refine cont_false rfl ?_
 refine cont_skip ?_
 refine then_normal ?_
 refine cont_seq ?_
 refine cont_region 5 rfl ?_
 refine bS [0, 0] 2 3 [(13, .pointer (pB b1)), (14, .agg #[iq 1, iq 1, iq 9, iq 9])] ?_
 refine pl_step 3 2 rfl rfl ?_
 refine call_gen (d := 15) (α := Unit) (fun _ => iq (fillN 3 3 1 1 9 9 4278190080)) (fun _ => [.cells b1 [iq 3, iq 3, .slice (pB r1) n1 n1] 84 true, .gen (rowE (pB r1) r1 n1 n1 28 1 (ivals .u32 (fillA 3 3 (List.replicate n1 0) 1 1 9 9 4278190080)) true)]) (fun _ => True) (by kernel_rfl) (fun w hT => (imgFill b1 3 3 r1 n1 n1 (List.replicate n1 0) 1 1 9 9 4278190080 w ⟨hT.ok 0 _ rfl, hT.ok 1 _ rfl, fun hne => hT.disj 0 1 _ _ (by omega) rfl rfl (.inr rfl) _ rfl ⟨hne, by simp⟩⟩ (imgOk_new (by decide) hn1) ⟨by omega, by omega⟩).mono fun e w' ⟨he_, hk_, hr_⟩ => ⟨(), he_, trivial, hT.keepBut hk_ (i := 1) rfl hr_⟩) (fun _ _ => ?_)
 refine bS [0, 0] 5 0 [(0, .bool ((fillN 3 3 1 1 9 9 4278190080) == 4))] ?_
 refine cont_forget 0 rfl ?_
 refine cont_done ?_
 refine then_normal ?_
 refine cont_ret ?_
 refine ret_one (.inl rfl) rfl 0 (.bool ((fillN 3 3 1 1 9 9 4278190080) == 4)) (by kernel_rfl) (by kernel_rfl) (fun w hT => ?_)
 exact ⟨ret_bool (by decide +kernel), hT.post rfl⟩

theorem walkImageRows (w_ h_ : Int) (A1 : Option Addr) (g1 o1 n1 cap1 : Nat) (xs1 : List Int) (w : World) (hw : -9223372036854775808 ≤ w_ ∧ w_ ≤ 9223372036854775807) (hh : -9223372036854775808 ≤ h_ ∧ h_ ≤ 9223372036854775807) (hr1 : Rd w A1 g1 o1 n1 1 (ivals .u32 xs1)) (hl1 : xs1.length = n1) (hc1 : n1 ≤ cap1) (hm1 : cap1 ≤ maxLen) (hx1 : ∀ x ∈ xs1, 0 ≤ x ∧ x < 4294967296) :
    Calls Try.prog 5 #[.int .i64 w_, .int .i64 h_, .slice A1 n1 cap1] w fun e w' => e = .returned (.bool true) ∧ Below w.heap.size w w' := by
  unfold maxLen at hm1
  refine enterM 83 [(0, .int .i64 w_), (1, .int .i64 h_), (2, .slice A1 n1 cap1)] [.gen (rdE (A1) g1 o1 n1 1 (ivals .u32 xs1))] Try.func5 rfl Try.ntmps5 rfl (by kernel_rfl) hr1.tab ?_
  refine cont_seq ?_
  refine cont_region 1 rfl ?_
  refine batch1 [0] 1 0 (fun b1 => [(0, .int .i64 w_), (1, .int .i64 h_), (2, .slice A1 n1 cap1), (6, .pointer (some ⟨b1, 0, none⟩))]) (fun b1 => [.cells b1 [.bool false] 4 true, .gen (rdE (A1) g1 o1 n1 1 (ivals .u32 xs1))]) rfl rfl [0, 1, 2, 6] (fun _ => rfl) (fun b1 => by kernel_rfl) (fun b1 => by kernel_rfl) (fun b1 => ?_)
  refine cont_done ?_
  refine then_normal ?_
  refine cont_seq ?_
  refine cont_region 6 rfl ?_
  refine bS [0, 0, 0] 3 3 [(6, .pointer (some ⟨b1, 0, none⟩)), (14, .int .i64 w_), (15, .int .i64 h_), (16, .slice A1 n1 cap1)] ?_
  refine pl_step 4 2 rfl rfl ?_
  refine call_gen (d := 17) (α := Nat × Nat) (fun x_ => .agg #[.int .i64 (1 + aroundI w_ 16), .int .i64 (1 + aroundI h_ 16), .slice (some ⟨x_.1, 0, none⟩) x_.2 x_.2]) (fun x_ => [.gen (rowE (some ⟨x_.1, 0, none⟩) x_.1 x_.2 x_.2 28 1 (ivals .u32 (goodP x_.2 xs1 x_.2)) true), .cells b1 [.bool false] 4 true, .gen (rdE (A1) g1 o1 n1 1 (ivals .u32 xs1))]) (fun x_ => (x_.2 : Int) = (1 + aroundI w_ 16) * (1 + aroundI h_ 16)) (by kernel_rfl) (fun w hT => (refGood4 A1 g1 o1 n1 cap1 xs1 w_ h_ w (hT.viewRo (.cons (i := 1) rfl Vw.rd .nil) rfl) ⟨hw, hh, hl1, hc1, hm1, hx1, hr1.at_⟩).mono fun e w' ⟨r2, n3, he_, hf_, ht_⟩ => ⟨(r2, n3), he_, hf_, hT.news ht_ rfl⟩) ?_
  rintro ⟨r2, n3⟩ hf4_
  replace hf4_ : (n3 : Int) = (1 + aroundI w_ 16) * (1 + aroundI h_ 16) := hf4_
  refine cont_norm [(6, .pointer (some ⟨b1, 0, none⟩)), (14, .int .i64 w_), (15, .int .i64 h_), (16, .slice A1 n1 cap1), (17, .agg #[.int .i64 (1 + aroundI w_ 16), .int .i64 (1 + aroundI h_ 16), .slice (some ⟨r2, 0, none⟩) n3 n3])] [.gen (rowE (some ⟨r2, 0, none⟩) r2 n3 n3 28 1 (ivals .u32 (goodP n3 xs1 n3)) true), .cells b1 [.bool false] 4 true, .gen (rdE (A1) g1 o1 n1 1 (ivals .u32 xs1))] (by kernel_rfl) rfl ?_
  have hq6_ := aroundI_range w_ (m := 16) (by omega)
  have hq7_ := aroundI_range h_ (m := 16) (by omega)
  have hM5_m : AllMay (goodP n3 xs1 n3) := goodP_may _ hx1
  have hM5_ : ImgOk (1 + aroundI w_ 16) (1 + aroundI h_ 16) n3 (goodP n3 xs1 n3) := imgOk_of (by omega) hf4_ (by simp [goodP_length]) hM5_m
  have hM5_w1 := hM5_.w1
  have hM5_h1 := hM5_.h1
  have hM5_le := hM5_.le
  have hM5_num := hM5_.num
  have hM5_len := hM5_.len
  refine batch1 [0, 0] 6 0 (fun b8 => [(6, .pointer (some ⟨b1, 0, none⟩)), (7, .pointer (some ⟨b8, 0, none⟩))]) (fun b8 => [.cells b8 [.int .i64 (1 + aroundI w_ 16), .int .i64 (1 + aroundI h_ 16), .slice (some ⟨r2, 0, none⟩) n3 n3] 37 true, .gen (rowE (some ⟨r2, 0, none⟩) r2 n3 n3 28 1 (ivals .u32 (goodP n3 xs1 n3)) true), .cells b1 [.bool false] 4 true, .gen (rdE (A1) g1 o1 n1 1 (ivals .u32 xs1))]) rfl rfl [6, 7] (fun _ => rfl) (fun b8 => by kernel_rfl) (fun b8 => by kernel_rfl) (fun b8 => ?_)
  refine cont_done ?_
  refine then_normal ?_
  refine cont_seq ?_
  refine cont_region 3 rfl ?_
  refine bS [0] 1 2 [(6, .pointer (some ⟨b1, 0, none⟩)), (7, .pointer (some ⟨b8, 0, none⟩)), (18, .agg #[.int .i64 (1 + aroundI w_ 16), .int .i64 (1 + aroundI h_ 16), .slice (some ⟨r2, 0, none⟩) n3 n3])] ?_
  refine pl_step 2 1 rfl rfl ?_
  refine call_gen (d := 19) (α := Nat × Nat) (fun x_ => .pointer (some ⟨x_.1, 0, none⟩)) (fun x_ => [.cells x_.1 [.int .i64 (1 + aroundI w_ 16), .int .i64 (1 + aroundI h_ 16), .slice (some ⟨x_.2, 0, none⟩) n3 n3] 84 true, .gen (rowE (some ⟨x_.2, 0, none⟩) x_.2 n3 n3 28 1 (ivals .u32 (goodP n3 xs1 n3)) true), .cells b8 [.int .i64 (1 + aroundI w_ 16), .int .i64 (1 + aroundI h_ 16), .slice (some ⟨r2, 0, none⟩) n3 n3] 37 true, .gen (rowE (some ⟨r2, 0, none⟩) r2 n3 n3 28 1 (ivals .u32 (goodP n3 xs1 n3)) true), .cells b1 [.bool false] 4 true, .gen (rdE (A1) g1 o1 n1 1 (ivals .u32 xs1))]) (fun _ => True) (by kernel_rfl) (fun w hT => (bld (1 + aroundI w_ 16) (1 + aroundI h_ 16) r2 n3 n3 (goodP n3 xs1 n3) w (hT.view (.cons (i := 1) rfl Vw.rowRd .nil) (by decide)) hM5_ hM5_m).mono fun e w' ⟨b_, q_, he_, hi_⟩ => ⟨(b_, q_), he_, trivial, hT.addImg hi_⟩) ?_
  rintro ⟨bl9, bq9⟩ -
  refine cont_norm [(6, .pointer (some ⟨b1, 0, none⟩)), (7, .pointer (some ⟨b8, 0, none⟩)), (18, .agg #[.int .i64 (1 + aroundI w_ 16), .int .i64 (1 + aroundI h_ 16), .slice (some ⟨r2, 0, none⟩) n3 n3]), (19, .pointer (some ⟨bl9, 0, none⟩))] [.cells bl9 [.int .i64 (1 + aroundI w_ 16), .int .i64 (1 + aroundI h_ 16), .slice (some ⟨bq9, 0, none⟩) n3 n3] 84 true, .gen (rowE (some ⟨bq9, 0, none⟩) bq9 n3 n3 28 1 (ivals .u32 (goodP n3 xs1 n3)) true), .cells b8 [.int .i64 (1 + aroundI w_ 16), .int .i64 (1 + aroundI h_ 16), .slice (some ⟨r2, 0, none⟩) n3 n3] 37 true, .gen (rowE (some ⟨r2, 0, none⟩) r2 n3 n3 28 1 (ivals .u32 (goodP n3 xs1 n3)) true), .cells b1 [.bool false] 4 true, .gen (rdE (A1) g1 o1 n1 1 (ivals .u32 xs1))] (by kernel_rfl) rfl ?_
  refine bS [0] 3 0 [(6, .pointer (some ⟨b1, 0, none⟩)), (7, .pointer (some ⟨b8, 0, none⟩)), (8, .pointer (some ⟨bl9, 0, none⟩))] ?_
  refine cont_done ?_
  refine then_normal ?_
  refine cont_seq ?_
  refine cont_seq ?_
  refine cont_region 2 rfl ?_
  refine bS [0, 0] 2 0 [(6, .pointer (some ⟨b1, 0, none⟩)), (7, .pointer (some ⟨b8, 0, none⟩)), (8, .pointer (some ⟨bl9, 0, none⟩)), (21, .bool false)] ?_
  refine cont_done ?_
  refine then_normal ?_
  refine cont_false rfl ?_
  refine cont_skip ?_
  refine then_normal ?_
  refine cont_seq ?_
  refine cont_region 3 rfl ?_
  refine bS [0] 1 2 [(6, .pointer (some ⟨b1, 0, none⟩)), (7, .pointer (some ⟨b8, 0, none⟩)), (8, .pointer (some ⟨bl9, 0, none⟩)), (22, .pointer (some ⟨bl9, 0, none⟩))] ?_
  refine pl_step 2 1 rfl rfl ?_
  refine call_gen (d := 23) (α := Nat) (fun x_ => .func (.func 49) #[] #[.pointer (some ⟨x_, 0, none⟩)]) (fun x_ => [.cells x_ [.pointer (some ⟨bl9, 0, none⟩)] 22 true, .cells bl9 [.int .i64 (1 + aroundI w_ 16), .int .i64 (1 + aroundI h_ 16), .slice (some ⟨bq9, 0, none⟩) n3 n3] 84 true, .gen (rowE (some ⟨bq9, 0, none⟩) bq9 n3 n3 28 1 (ivals .u32 (goodP n3 xs1 n3)) true), .cells b8 [.int .i64 (1 + aroundI w_ 16), .int .i64 (1 + aroundI h_ 16), .slice (some ⟨r2, 0, none⟩) n3 n3] 37 true, .gen (rowE (some ⟨r2, 0, none⟩) r2 n3 n3 28 1 (ivals .u32 (goodP n3 xs1 n3)) true), .cells b1 [.bool false] 4 true, .gen (rdE (A1) g1 o1 n1 1 (ivals .u32 xs1))]) (fun x_ => True) (by kernel_rfl) (fun w hT => (imgRows bl9 w).mono fun e w' ⟨kb10, he_, ht_⟩ => ⟨kb10, he_, trivial, hT.news ht_ rfl⟩) ?_
  rintro kb10 hf11_
  refine cont_norm [(6, .pointer (some ⟨b1, 0, none⟩)), (7, .pointer (some ⟨b8, 0, none⟩)), (8, .pointer (some ⟨bl9, 0, none⟩)), (22, .pointer (some ⟨bl9, 0, none⟩)), (23, .func (.func 49) #[] #[.pointer (some ⟨kb10, 0, none⟩)])] [.cells kb10 [.pointer (some ⟨bl9, 0, none⟩)] 22 true, .cells bl9 [.int .i64 (1 + aroundI w_ 16), .int .i64 (1 + aroundI h_ 16), .slice (some ⟨bq9, 0, none⟩) n3 n3] 84 true, .gen (rowE (some ⟨bq9, 0, none⟩) bq9 n3 n3 28 1 (ivals .u32 (goodP n3 xs1 n3)) true), .cells b8 [.int .i64 (1 + aroundI w_ 16), .int .i64 (1 + aroundI h_ 16), .slice (some ⟨r2, 0, none⟩) n3 n3] 37 true, .gen (rowE (some ⟨r2, 0, none⟩) r2 n3 n3 28 1 (ivals .u32 (goodP n3 xs1 n3)) true), .cells b1 [.bool false] 4 true, .gen (rdE (A1) g1 o1 n1 1 (ivals .u32 xs1))] (by kernel_rfl) rfl ?_
  refine bS [0] 3 0 [(6, .pointer (some ⟨b1, 0, none⟩)), (7, .pointer (some ⟨b8, 0, none⟩)), (8, .pointer (some ⟨bl9, 0, none⟩)), (9, .func (.func 49) #[] #[.pointer (some ⟨kb10, 0, none⟩)])] ?_
  refine cont_done ?_
  refine then_normal ?_
  refine cont_seq ?_
  refine cont_seq ?_
  refine cont_region 2 rfl ?_
  refine bS [0, 0] 2 0 [(6, .pointer (some ⟨b1, 0, none⟩)), (7, .pointer (some ⟨b8, 0, none⟩)), (8, .pointer (some ⟨bl9, 0, none⟩)), (9, .func (.func 49) #[] #[.pointer (some ⟨kb10, 0, none⟩)]), (25, .bool false)] ?_
  refine cont_done ?_
  refine then_normal ?_
  refine cont_false rfl ?_
  refine cont_skip ?_
  refine then_normal ?_
  refine cont_seq ?_
  refine cont_region 2 rfl ?_
  refine batch1 [0, 0] 2 0 (fun b12 => [(6, .pointer (some ⟨b1, 0, none⟩)), (7, .pointer (some ⟨b8, 0, none⟩)), (8, .pointer (some ⟨bl9, 0, none⟩)), (9, .func (.func 49) #[] #[.pointer (some ⟨kb10, 0, none⟩)]), (10, .pointer (some ⟨b12, 0, none⟩))]) (fun b12 => [.cells b12 [.int .i64 0] 3 true, .cells kb10 [.pointer (some ⟨bl9, 0, none⟩)] 22 true, .cells bl9 [.int .i64 (1 + aroundI w_ 16), .int .i64 (1 + aroundI h_ 16), .slice (some ⟨bq9, 0, none⟩) n3 n3] 84 true, .gen (rowE (some ⟨bq9, 0, none⟩) bq9 n3 n3 28 1 (ivals .u32 (goodP n3 xs1 n3)) true), .cells b8 [.int .i64 (1 + aroundI w_ 16), .int .i64 (1 + aroundI h_ 16), .slice (some ⟨r2, 0, none⟩) n3 n3] 37 true, .gen (rowE (some ⟨r2, 0, none⟩) r2 n3 n3 28 1 (ivals .u32 (goodP n3 xs1 n3)) true), .cells b1 [.bool false] 4 true, .gen (rdE (A1) g1 o1 n1 1 (ivals .u32 xs1))]) rfl rfl [6, 7, 8, 9, 10] (fun _ => rfl) (fun b12 => by kernel_rfl) (fun b12 => by kernel_rfl) (fun b12 => ?_)
  refine cont_done ?_
  refine then_normal ?_
  refine cont_seq ?_
  refine cont_seq ?_
  refine cont_region 1 rfl ?_
  refine bS [0] 1 0 [(6, .pointer (some ⟨b1, 0, none⟩)), (7, .pointer (some ⟨b8, 0, none⟩)), (8, .pointer (some ⟨bl9, 0, none⟩)), (10, .pointer (some ⟨b12, 0, none⟩)), (26, .func (.func 49) #[] #[.pointer (some ⟨kb10, 0, none⟩)])] ?_
  refine cont_done ?_
  refine then_normal ?_
  refine cont_block ?_
  refine cont_fact (F := (0 < n3 → (some ⟨bq9, 0, none⟩ : Option Addr) = some ⟨bq9, 0, none⟩) ∧ (goodP n3 xs1 n3).length = n3 ∧ n3 ≤ n3 ∧ n3 ≤ maxLen) (fun w hT => Row.facts (hT.ok 3 _ rfl)) (fun hr13_ => ?_)
  obtain ⟨hr13_a, hr13_l, hr13_c, hr13_m⟩ := hr13_
  unfold maxLen at hr13_m
  obtain ⟨Wn, hWn⟩ : ∃ k_ : Nat, (k_ : Int) = (1 + aroundI w_ 16) := ⟨Int.toNat ((1 + aroundI w_ 16)), by omega⟩
  obtain ⟨Hn, hHn⟩ : ∃ k_ : Nat, (k_ : Int) = (1 + aroundI h_ 16) := ⟨Int.toNat ((1 + aroundI h_ 16)), by omega⟩
  have hokr := hM5_
  have hnr := hokr.num
  have hlr := hokr.len
  have hwr := hokr.w1
  have hwr2 := hokr.w2
  have hhr := hokr.h1
  have hhr2 := hokr.h2
  have hlr2 := hokr.le
  refine cont_weaken 1 (.ro kb10 [.pointer (some ⟨bl9, 0, none⟩)] 22) rfl rfl Vw.roc rfl ?_
  refine cont_norm [(6, .pointer (some ⟨b1, 0, none⟩)), (7, .pointer (some ⟨b8, 0, none⟩)), (8, .pointer (some ⟨bl9, 0, none⟩)), (10, .pointer (some ⟨b12, 0, none⟩)), (26, .func (.func 49) #[] #[.pointer (some ⟨kb10, 0, none⟩)])] [.cells b12 [.int .i64 0] 3 true, .ro kb10 [.pointer (some ⟨bl9, 0, none⟩)] 22, .cells bl9 [.int .i64 (1 + aroundI w_ 16), .int .i64 (1 + aroundI h_ 16), .slice (some ⟨bq9, 0, none⟩) n3 n3] 84 true, .gen (rowE (some ⟨bq9, 0, none⟩) bq9 n3 n3 28 1 (ivals .u32 (goodP n3 xs1 n3)) true), .cells b8 [.int .i64 (1 + aroundI w_ 16), .int .i64 (1 + aroundI h_ 16), .slice (some ⟨r2, 0, none⟩) n3 n3] 37 true, .gen (rowE (some ⟨r2, 0, none⟩) r2 n3 n3 28 1 (ivals .u32 (goodP n3 xs1 n3)) true), .cells b1 [.bool false] 4 true, .gen (rdE (A1) g1 o1 n1 1 (ivals .u32 xs1))] (by kernel_rfl) rfl ?_
  refine cont_weaken 2 (.ro bl9 [.int .i64 (1 + aroundI w_ 16), .int .i64 (1 + aroundI h_ 16), .slice (some ⟨bq9, 0, none⟩) n3 n3] 84) rfl rfl Vw.roc rfl ?_
  refine cont_norm [(6, .pointer (some ⟨b1, 0, none⟩)), (7, .pointer (some ⟨b8, 0, none⟩)), (8, .pointer (some ⟨bl9, 0, none⟩)), (10, .pointer (some ⟨b12, 0, none⟩)), (26, .func (.func 49) #[] #[.pointer (some ⟨kb10, 0, none⟩)])] [.cells b12 [.int .i64 0] 3 true, .ro kb10 [.pointer (some ⟨bl9, 0, none⟩)] 22, .ro bl9 [.int .i64 (1 + aroundI w_ 16), .int .i64 (1 + aroundI h_ 16), .slice (some ⟨bq9, 0, none⟩) n3 n3] 84, .gen (rowE (some ⟨bq9, 0, none⟩) bq9 n3 n3 28 1 (ivals .u32 (goodP n3 xs1 n3)) true), .cells b8 [.int .i64 (1 + aroundI w_ 16), .int .i64 (1 + aroundI h_ 16), .slice (some ⟨r2, 0, none⟩) n3 n3] 37 true, .gen (rowE (some ⟨r2, 0, none⟩) r2 n3 n3 28 1 (ivals .u32 (goodP n3 xs1 n3)) true), .cells b1 [.bool false] 4 true, .gen (rdE (A1) g1 o1 n1 1 (ivals .u32 xs1))] (by kernel_rfl) rfl ?_
  refine cont_weaken 3 (.gen (rdE (some ⟨bq9, 0, none⟩) bq9 0 n3 1 (ivals .u32 (goodP n3 xs1 n3)))) rfl rfl Vw.rowRd rfl ?_
  refine cont_norm [(6, .pointer (some ⟨b1, 0, none⟩)), (7, .pointer (some ⟨b8, 0, none⟩)), (8, .pointer (some ⟨bl9, 0, none⟩)), (10, .pointer (some ⟨b12, 0, none⟩)), (26, .func (.func 49) #[] #[.pointer (some ⟨kb10, 0, none⟩)])] [.cells b12 [.int .i64 0] 3 true, .ro kb10 [.pointer (some ⟨bl9, 0, none⟩)] 22, .ro bl9 [.int .i64 (1 + aroundI w_ 16), .int .i64 (1 + aroundI h_ 16), .slice (some ⟨bq9, 0, none⟩) n3 n3] 84, .gen (rdE (some ⟨bq9, 0, none⟩) bq9 0 n3 1 (ivals .u32 (goodP n3 xs1 n3))), .cells b8 [.int .i64 (1 + aroundI w_ 16), .int .i64 (1 + aroundI h_ 16), .slice (some ⟨r2, 0, none⟩) n3 n3] 37 true, .gen (rowE (some ⟨r2, 0, none⟩) r2 n3 n3 28 1 (ivals .u32 (goodP n3 xs1 n3)) true), .cells b1 [.bool false] 4 true, .gen (rdE (A1) g1 o1 n1 1 (ivals .u32 xs1))] (by kernel_rfl) rfl ?_
  refine cont_pick [1, 2, 3, 0, 4, 5, 6, 7] [.ro kb10 [.pointer (some ⟨bl9, 0, none⟩)] 22, .ro bl9 [.int .i64 (1 + aroundI w_ 16), .int .i64 (1 + aroundI h_ 16), .slice (some ⟨bq9, 0, none⟩) n3 n3] 84, .gen (rdE (some ⟨bq9, 0, none⟩) bq9 0 n3 1 (ivals .u32 (goodP n3 xs1 n3))), .cells b12 [.int .i64 0] 3 true, .cells b8 [.int .i64 (1 + aroundI w_ 16), .int .i64 (1 + aroundI h_ 16), .slice (some ⟨r2, 0, none⟩) n3 n3] 37 true, .gen (rowE (some ⟨r2, 0, none⟩) r2 n3 n3 28 1 (ivals .u32 (goodP n3 xs1 n3)) true), .cells b1 [.bool false] 4 true, .gen (rdE (A1) g1 o1 n1 1 (ivals .u32 xs1))] (by decide) rfl rfl ?_
  refine cont_norm [(6, .pointer (some ⟨b1, 0, none⟩)), (7, .pointer (some ⟨b8, 0, none⟩)), (8, .pointer (some ⟨bl9, 0, none⟩)), (10, .pointer (some ⟨b12, 0, none⟩)), (26, .func (.func 49) #[] #[.pointer (some ⟨kb10, 0, none⟩)])] [.ro kb10 [.pointer (some ⟨bl9, 0, none⟩)] 22, .ro bl9 [.int .i64 (1 + aroundI w_ 16), .int .i64 (1 + aroundI h_ 16), .slice (some ⟨bq9, 0, none⟩) n3 n3] 84, .gen (rdE (some ⟨bq9, 0, none⟩) bq9 0 n3 1 (ivals .u32 (goodP n3 xs1 n3))), .cells b12 [.int .i64 ((0 : Nat) : Int)] 3 true, .cells b8 [.int .i64 (1 + aroundI w_ 16), .int .i64 (1 + aroundI h_ 16), .slice (some ⟨r2, 0, none⟩) n3 n3] 37 true, .gen (rowE (some ⟨r2, 0, none⟩) r2 n3 n3 28 1 (ivals .u32 (goodP n3 xs1 n3)) true), .cells b1 [.bool false] 4 true, .gen (rdE (A1) g1 o1 n1 1 (ivals .u32 xs1))] (by kernel_rfl) (congrArg (fun c_ : List Value => ([.ro kb10 [.pointer (some ⟨bl9, 0, none⟩)] 22, .ro bl9 [.int .i64 (1 + aroundI w_ 16), .int .i64 (1 + aroundI h_ 16), .slice (some ⟨bq9, 0, none⟩) n3 n3] 84, .gen (rdE (some ⟨bq9, 0, none⟩) bq9 0 n3 1 (ivals .u32 (goodP n3 xs1 n3))), .cells b12 c_ 3 true, .cells b8 [.int .i64 (1 + aroundI w_ 16), .int .i64 (1 + aroundI h_ 16), .slice (some ⟨r2, 0, none⟩) n3 n3] 37 true, .gen (rowE (some ⟨r2, 0, none⟩) r2 n3 n3 28 1 (ivals .u32 (goodP n3 xs1 n3)) true), .cells b1 [.bool false] 4 true, .gen (rdE (A1) g1 o1 n1 1 (ivals .u32 xs1))] : List Ent)) (by simp)) ?_
  refine cont_rangeFunc (X := Int × Nat × Nat) (β := Nat) (γ := Unit) (gf := 49) (lb := #[.pointer (some ⟨kb10, 0, none⟩)]) (fun z_ : Int × Nat × Nat => #[.int .i64 z_.1, .slice (some ⟨z_.2.1, 0, none⟩) Wn z_.2.2]) [.ro kb10 [.pointer (some ⟨bl9, 0, none⟩)] 22, .ro bl9 [.int .i64 (1 + aroundI w_ 16), .int .i64 (1 + aroundI h_ 16), .slice (some ⟨bq9, 0, none⟩) n3 n3] 84, .gen (rdE (some ⟨bq9, 0, none⟩) bq9 0 n3 1 (ivals .u32 (goodP n3 xs1 n3)))] (fun z_ : Int × Nat × Nat => [.gen (rowE (some ⟨z_.2.1, 0, none⟩) z_.2.1 Wn z_.2.2 28 1 (ivals .u32 (rowL Wn (goodP n3 xs1 n3) z_.1)) true)]) (fun xs_ => RowsP Hn xs_ ∧ xs_.length = Hn) (fun xs_ => RowsP Hn xs_) (fun (pre : List (Int × Nat × Nat)) (x_ : Nat) => x_ = pre.length) (fun x_ : Nat => [.cells b12 [.int .i64 ((x_ : Nat) : Int)] 3 true, .cells b8 [.int .i64 (1 + aroundI w_ 16), .int .i64 (1 + aroundI h_ 16), .slice (some ⟨r2, 0, none⟩) n3 n3] 37 true, .gen (rowE (some ⟨r2, 0, none⟩) r2 n3 n3 28 1 (ivals .u32 (goodP n3 xs1 n3)) true), .cells b1 [.bool false] 4 true, .gen (rdE (A1) g1 o1 n1 1 (ivals .u32 xs1))]) (fun (_ : Code) (_ : Unit) => False) (fun x_ : Unit => []) 0 rfl (fun _ _ => rfl) (fun _ => rfl) (by kernel_rfl) (rowsIter kb10 bl9 (1 + aroundI w_ 16) (1 + aroundI h_ 16) bq9 n3 n3 (goodP n3 xs1 n3) Wn Hn hWn hHn (by omega) hokr _) rfl rfl ?_ ?_ ?_ ?_
  ·
    rintro l_ z14_ e14_ e14b_ e14q_ pre ⟨y, g, cx⟩ k B_ hinv15_ hsp_ hB_
    replace hinv15_ : k = pre.length := hinv15_
    replace hsp_ : RowsP Hn (pre ++ [(y, g, cx)]) := hsp_
    refine cont_norm [(6, .pointer (some ⟨b1, 0, none⟩)), (7, .pointer (some ⟨b8, 0, none⟩)), (10, .pointer (some ⟨b12, 0, none⟩)), (27, .int .i64 y), (28, .slice (some ⟨g, 0, none⟩) Wn cx)] [.gen (rowE (some ⟨g, 0, none⟩) g Wn cx 28 1 (ivals .u32 (rowL Wn (goodP n3 xs1 n3) y)) true), z14_, e14_, e14q_, .ro kb10 [.pointer (some ⟨bl9, 0, none⟩)] 22, .ro bl9 [.int .i64 (1 + aroundI w_ 16), .int .i64 (1 + aroundI h_ 16), .slice (some ⟨bq9, 0, none⟩) n3 n3] 84, .gen (rdE (some ⟨bq9, 0, none⟩) bq9 0 n3 1 (ivals .u32 (goodP n3 xs1 n3))), .cells b12 [.int .i64 ((k : Nat) : Int)] 3 true, .cells b8 [.int .i64 (1 + aroundI w_ 16), .int .i64 (1 + aroundI h_ 16), .slice (some ⟨r2, 0, none⟩) n3 n3] 37 true, .gen (rowE (some ⟨r2, 0, none⟩) r2 n3 n3 28 1 (ivals .u32 (goodP n3 xs1 n3)) true), .cells b1 [.bool false] 4 true, .gen (rdE (A1) g1 o1 n1 1 (ivals .u32 xs1))] (by kernel_rfl) rfl ?_
    refine mcont_seq ?_
    refine mcont_region 1 rfl (by kernel_rfl) ?_
    refine bS [0] 1 0 [(6, .pointer (some ⟨b1, 0, none⟩)), (7, .pointer (some ⟨b8, 0, none⟩)), (10, .pointer (some ⟨b12, 0, none⟩)), (11, .int .i64 y), (28, .slice (some ⟨g, 0, none⟩) Wn cx)] ?_
    refine cont_done ?_
    refine then_normal ?_
    refine mcont_region 1 rfl (by kernel_rfl) ?_
    refine bS [0] 1 0 [(6, .pointer (some ⟨b1, 0, none⟩)), (7, .pointer (some ⟨b8, 0, none⟩)), (10, .pointer (some ⟨b12, 0, none⟩)), (11, .int .i64 y), (12, .slice (some ⟨g, 0, none⟩) Wn cx)] ?_
    refine cont_done ?_
    refine then_normal ?_
    refine hB_ [(6, .pointer (some ⟨b1, 0, none⟩)), (7, .pointer (some ⟨b8, 0, none⟩)), (10, .pointer (some ⟨b12, 0, none⟩)), (11, .int .i64 y), (12, .slice (some ⟨g, 0, none⟩) Wn cx)] [.gen (rowE (some ⟨g, 0, none⟩) g Wn cx 28 1 (ivals .u32 (rowL Wn (goodP n3 xs1 n3) y)) true), z14_] [e14q_, .ro kb10 [.pointer (some ⟨bl9, 0, none⟩)] 22, .ro bl9 [.int .i64 (1 + aroundI w_ 16), .int .i64 (1 + aroundI h_ 16), .slice (some ⟨bq9, 0, none⟩) n3 n3] 84, .gen (rdE (some ⟨bq9, 0, none⟩) bq9 0 n3 1 (ivals .u32 (goodP n3 xs1 n3))), .cells b12 [.int .i64 ((k : Nat) : Int)] 3 true, .cells b8 [.int .i64 (1 + aroundI w_ 16), .int .i64 (1 + aroundI h_ 16), .slice (some ⟨r2, 0, none⟩) n3 n3] 37 true, .gen (rowE (some ⟨r2, 0, none⟩) r2 n3 n3 28 1 (ivals .u32 (goodP n3 xs1 n3)) true), .cells b1 [.bool false] 4 true, .gen (rdE (A1) g1 o1 n1 1 (ivals .u32 xs1))] ?_
    refine cont_norm [(6, .pointer (some ⟨b1, 0, none⟩)), (7, .pointer (some ⟨b8, 0, none⟩)), (10, .pointer (some ⟨b12, 0, none⟩)), (11, .int .i64 y), (12, .slice (some ⟨g, 0, none⟩) Wn cx)] [.gen (rowE (some ⟨g, 0, none⟩) g Wn cx 28 1 (ivals .u32 (rowL Wn (goodP n3 xs1 n3) y)) true), z14_, e14b_, e14q_, .ro kb10 [.pointer (some ⟨bl9, 0, none⟩)] 22, .ro bl9 [.int .i64 (1 + aroundI w_ 16), .int .i64 (1 + aroundI h_ 16), .slice (some ⟨bq9, 0, none⟩) n3 n3] 84, .gen (rdE (some ⟨bq9, 0, none⟩) bq9 0 n3 1 (ivals .u32 (goodP n3 xs1 n3))), .cells b12 [.int .i64 ((k : Nat) : Int)] 3 true, .cells b8 [.int .i64 (1 + aroundI w_ 16), .int .i64 (1 + aroundI h_ 16), .slice (some ⟨r2, 0, none⟩) n3 n3] 37 true, .gen (rowE (some ⟨r2, 0, none⟩) r2 n3 n3 28 1 (ivals .u32 (goodP n3 xs1 n3)) true), .cells b1 [.bool false] 4 true, .gen (rdE (A1) g1 o1 n1 1 (ivals .u32 xs1))] (by kernel_rfl) rfl ?_
    have hkp := hinv15_
    obtain ⟨hyp, hlt_⟩ := hsp_.last
    simp only at hyp
    rw [← hkp] at hyp hlt_
    have hbdr := row_bd (k := k) hnr hwr (by omega)
    rw [← hyp] at hbdr
    obtain ⟨hbd1, hbd2⟩ := hbdr
    have hrll := rowL_len (k := k) hWn hnr hwr hlr (by omega)
    rw [← hyp] at hrll
    refine mcont_block ?_
    refine mcont_seq ?_
    refine mcont_seq ?_
    refine mcont_region 16 rfl (by kernel_rfl) ?_
    refine bS [0, 7, 0, 0] 4 12 [(6, .pointer (some ⟨b1, 0, none⟩)), (7, .pointer (some ⟨b8, 0, none⟩)), (10, .pointer (some ⟨b12, 0, none⟩)), (11, .int .i64 y), (12, .slice (some ⟨g, 0, none⟩) Wn cx), (32, .bool (y != ((k : Nat) : Int)))] ?_
    refine cont_recast 32 (.bool (y != ((k : Nat) : Int))) (.bool false) rfl (congrArg Value.bool (by rw [show y = ((k : Nat) : Int) by omega]; exact bne_self_eq_false _)) ?_
    refine bS [0, 0, 8, 0, 0, 0] 10 6 [(6, .pointer (some ⟨b1, 0, none⟩)), (7, .pointer (some ⟨b8, 0, none⟩)), (10, .pointer (some ⟨b12, 0, none⟩)), (11, .int .i64 y), (12, .slice (some ⟨g, 0, none⟩) Wn cx), (38, .bool (decide (y ≥ (1 + aroundI h_ 16))))] ?_
    refine cont_recast 38 (.bool (decide (y ≥ (1 + aroundI h_ 16)))) (.bool false) rfl (congrArg Value.bool (decide_eq_false (by omega))) ?_
    refine bS [0, 0, 0, 8, 0, 0] 16 0 [(6, .pointer (some ⟨b1, 0, none⟩)), (7, .pointer (some ⟨b8, 0, none⟩)), (10, .pointer (some ⟨b12, 0, none⟩)), (11, .int .i64 y), (12, .slice (some ⟨g, 0, none⟩) Wn cx), (44, .bool ((Wn : Int) != (1 + aroundI w_ 16)))] ?_
    refine cont_done ?_
    refine then_normal ?_
    refine cont_recast 44 (.bool ((Wn : Int) != (1 + aroundI w_ 16))) (.bool false) rfl (congrArg Value.bool (by rw [show (Wn : Int) = (1 + aroundI w_ 16) by omega]; exact bne_self_eq_false _)) ?_
    refine mcont_false rfl ?_
    refine mcont_skip ?_
    refine then_normal ?_
    refine mcont_seq ?_
    refine mcont_seq ?_
    refine mcont_region 1 rfl (by kernel_rfl) ?_
    refine bS [0] 1 0 [(6, .pointer (some ⟨b1, 0, none⟩)), (7, .pointer (some ⟨b8, 0, none⟩)), (10, .pointer (some ⟨b12, 0, none⟩)), (11, .int .i64 y), (12, .slice (some ⟨g, 0, none⟩) Wn cx), (13, .int .i64 0)] ?_
    refine cont_done ?_
    refine then_normal ?_
    refine mcont_block ?_
    refine mcont_loop (α := Nat × List Int) (fun x_ : Nat × List Int => x_.1 ≤ Wn ∧ ∀ i, x_.1 ≤ i → x_.2.getD i 0 = (rowL Wn (goodP n3 xs1 n3) y).getD i 0) (fun x_ : Nat × List Int => [(6, .pointer (some ⟨b1, 0, none⟩)), (7, .pointer (some ⟨b8, 0, none⟩)), (10, .pointer (some ⟨b12, 0, none⟩)), (11, .int .i64 y), (12, .slice (some ⟨g, 0, none⟩) Wn cx), (13, .int .i64 ((x_.1 : Nat) : Int))]) (fun x_ : Nat × List Int => [.gen (rowE (some ⟨g, 0, none⟩) g Wn cx 28 1 (ivals .u32 x_.2) true), z14_, e14b_, e14q_, .ro kb10 [.pointer (some ⟨bl9, 0, none⟩)] 22, .ro bl9 [.int .i64 (1 + aroundI w_ 16), .int .i64 (1 + aroundI h_ 16), .slice (some ⟨bq9, 0, none⟩) n3 n3] 84, .gen (rdE (some ⟨bq9, 0, none⟩) bq9 0 n3 1 (ivals .u32 (goodP n3 xs1 n3))), .cells b12 [.int .i64 ((k : Nat) : Int)] 3 true, .cells b8 [.int .i64 (1 + aroundI w_ 16), .int .i64 (1 + aroundI h_ 16), .slice (some ⟨r2, 0, none⟩) n3 n3] 37 true, .gen (rowE (some ⟨r2, 0, none⟩) r2 n3 n3 28 1 (ivals .u32 (goodP n3 xs1 n3)) true), .cells b1 [.bool false] 4 true, .gen (rdE (A1) g1 o1 n1 1 (ivals .u32 xs1))]) (fun x_ : Nat × List Int => Wn - x_.1) (0, rowL Wn (goodP n3 xs1 n3) y) (show (0) ≤ Wn ∧ ∀ i, (0) ≤ i → (rowL Wn (goodP n3 xs1 n3) y).getD i 0 = (rowL Wn (goodP n3 xs1 n3) y).getD i 0 from ⟨by omega, fun i _ => rfl⟩) (by kernel_rfl) (by kernel_rfl) ?_
    rintro ⟨j, ll⟩ hinv19_
    replace hinv19_ : j ≤ Wn ∧ ∀ i, j ≤ i → ll.getD i 0 = (rowL Wn (goodP n3 xs1 n3) y).getD i 0 := hinv19_
    refine cont_norm [(6, .pointer (some ⟨b1, 0, none⟩)), (7, .pointer (some ⟨b8, 0, none⟩)), (10, .pointer (some ⟨b12, 0, none⟩)), (11, .int .i64 y), (12, .slice (some ⟨g, 0, none⟩) Wn cx), (13, .int .i64 ((j : Nat) : Int))] [.gen (rowE (some ⟨g, 0, none⟩) g Wn cx 28 1 (ivals .u32 ll) true), z14_, e14b_, e14q_, .ro kb10 [.pointer (some ⟨bl9, 0, none⟩)] 22, .ro bl9 [.int .i64 (1 + aroundI w_ 16), .int .i64 (1 + aroundI h_ 16), .slice (some ⟨bq9, 0, none⟩) n3 n3] 84, .gen (rdE (some ⟨bq9, 0, none⟩) bq9 0 n3 1 (ivals .u32 (goodP n3 xs1 n3))), .cells b12 [.int .i64 ((k : Nat) : Int)] 3 true, .cells b8 [.int .i64 (1 + aroundI w_ 16), .int .i64 (1 + aroundI h_ 16), .slice (some ⟨r2, 0, none⟩) n3 n3] 37 true, .gen (rowE (some ⟨r2, 0, none⟩) r2 n3 n3 28 1 (ivals .u32 (goodP n3 xs1 n3)) true), .cells b1 [.bool false] 4 true, .gen (rdE (A1) g1 o1 n1 1 (ivals .u32 xs1))] (by kernel_rfl) rfl ?_
    obtain ⟨hj, hll⟩ := hinv19_
    refine mcont_seq ?_
    refine mcont_seq ?_
    refine mcont_region 4 rfl (by kernel_rfl) ?_
    refine bS [0, 0, 0, 0] 4 0 [(6, .pointer (some ⟨b1, 0, none⟩)), (7, .pointer (some ⟨b8, 0, none⟩)), (10, .pointer (some ⟨b12, 0, none⟩)), (11, .int .i64 y), (12, .slice (some ⟨g, 0, none⟩) Wn cx), (13, .int .i64 ((j : Nat) : Int)), (48, .bool (decide (((j : Nat) : Int) < (Wn : Int))))] ?_
    refine cont_done ?_
    refine then_normal ?_
    refine cont_split 48 (decide (((j : Nat) : Int) < (Wn : Int))) rfl (fun c20_ => ?_) (fun c20_ => ?_)
    ·
      replace c20_ := of_decide_eq_true c20_
      refine mcont_true rfl ?_
      refine mcont_skip ?_
      refine then_normal ?_
      refine mcont_seq ?_
      refine mcont_block ?_
      refine mcont_seq ?_
      refine mcont_seq ?_
      refine cont_fact (F := (0 < Wn → (some ⟨g, 0, none⟩ : Option Addr) = some ⟨g, 0, none⟩) ∧ ll.length = Wn ∧ Wn ≤ cx ∧ cx ≤ maxLen) (fun w hT => Row.facts (hT.ok 0 _ rfl)) (fun hr21_ => ?_)
      obtain ⟨hr21_a, hr21_l, hr21_c, hr21_m⟩ := hr21_
      unfold maxLen at hr21_m
      refine mdrawn_enter 15 [] rfl (by kernel_rfl) (by kernel_rfl) ?_
      refine takes 0 [] [(0, 0), (1, 0), (4, 0), (6, 0), (7, 0), (10, 0)] 9 [10, 7, 6, 4, 1, 0] [(6, .pointer (some ⟨b1, 0, none⟩)), (7, .pointer (some ⟨b8, 0, none⟩)), (10, .pointer (some ⟨b12, 0, none⟩)), (11, .int .i64 y), (12, .slice (some ⟨g, 0, none⟩) Wn cx), (13, .int .i64 ((j : Nat) : Int)), (51, .slice (some ⟨g, 0, none⟩) Wn cx), (52, .int .i64 ((j : Nat) : Int)), (55, .pointer (some ⟨b8, 2, none⟩)), (57, .int .i64 y), (58, .pointer (some ⟨b8, 0, none⟩)), (61, .int .i64 ((j : Nat) : Int))] (by kernel_rfl) (pok_then (pok_then (pok_blk (pok_then (pok_then (pok_blk (pok_then (pok_blk pok_rq)))))))) (by kernel_rfl) rfl rfl (by kernel_rfl) (by kernel_rfl) ?_
      refine sem_take 0 [] 2 8 53 (Instr.indexAt 35 (.slice (some ⟨g, 0, none⟩) Wn cx) (.int .i64 ((j : Nat) : Int))) (.pointer (some ⟨g, (j : Nat), none⟩)) (by kernel_rfl) (pok_then (pok_then (pok_blk (pok_then (pok_then (pok_blk (pok_then (pok_blk pok_rq)))))))) (by kernel_rfl) rfl (by kernel_rfl) (by kernel_rfl) (fun w hT => run_indexAt (e := 28) (sz := 1) _ (by kernel_rfl) (by kernel_rfl) (by omega) (by omega) (by omega) w) ?_
      refine sem_take 0 [] 3 7 54 (Instr.loadAt 28 (.pointer (some ⟨g, (j : Nat), none⟩))) (.int .u32 (ll.getD (j : Nat) 0)) (by kernel_rfl) (pok_then (pok_then (pok_blk (pok_then (pok_then (pok_blk (pok_then (pok_blk pok_rq)))))))) (by kernel_rfl) rfl (by kernel_rfl) (by kernel_rfl) (fun w hT => run_load1 (by kernel_rfl) (Row.cell (hT 0 _ rfl) ((j : Nat)) _ (ivals_get (by omega)))) ?_
      refine takes 0 [] [(5, 8), (8, 8), (9, 0)] 4 [9, 8, 5, 3, 2, 10, 7, 6, 4, 1, 0] [(6, .pointer (some ⟨b1, 0, none⟩)), (7, .pointer (some ⟨b8, 0, none⟩)), (10, .pointer (some ⟨b12, 0, none⟩)), (11, .int .i64 y), (12, .slice (some ⟨g, 0, none⟩) Wn cx), (13, .int .i64 ((j : Nat) : Int)), (54, .int .u32 (ll.getD (j : Nat) 0)), (56, .slice (some ⟨r2, 0, none⟩) n3 n3), (60, .int .i64 (IntKind.i64.wrap (y * (1 + aroundI w_ 16)))), (61, .int .i64 ((j : Nat) : Int))] (by kernel_rfl) (pok_then (pok_then (pok_blk (pok_then (pok_then (pok_blk (pok_then (pok_blk pok_rq)))))))) (by kernel_rfl) rfl rfl (by kernel_rfl) (by kernel_rfl) ?_
      refine cont_recast 60 (.int .i64 (IntKind.i64.wrap (y * (1 + aroundI w_ 16)))) (.int .i64 (y * (1 + aroundI w_ 16))) rfl (wrapI (by omega) (by omega)) ?_
      refine takes 0 [] [(11, 0)] 3 [11, 9, 8, 5, 3, 2, 10, 7, 6, 4, 1, 0] [(6, .pointer (some ⟨b1, 0, none⟩)), (7, .pointer (some ⟨b8, 0, none⟩)), (10, .pointer (some ⟨b12, 0, none⟩)), (11, .int .i64 y), (12, .slice (some ⟨g, 0, none⟩) Wn cx), (13, .int .i64 ((j : Nat) : Int)), (54, .int .u32 (ll.getD (j : Nat) 0)), (56, .slice (some ⟨r2, 0, none⟩) n3 n3), (62, .int .i64 (IntKind.i64.wrap ((y * (1 + aroundI w_ 16)) + ((j : Nat) : Int))))] (by kernel_rfl) (pok_then (pok_then (pok_blk (pok_then (pok_then (pok_blk (pok_then (pok_blk pok_rq)))))))) (by kernel_rfl) rfl rfl (by kernel_rfl) (by kernel_rfl) ?_
      refine cont_recast 62 (.int .i64 (IntKind.i64.wrap ((y * (1 + aroundI w_ 16)) + ((j : Nat) : Int)))) (.int .i64 ((y * (1 + aroundI w_ 16)) + ((j : Nat) : Int))) rfl (wrapI (by omega) (by omega)) ?_
      refine sem_take 0 [] 12 2 63 (Instr.indexAt 35 (.slice (some ⟨r2, 0, none⟩) n3 n3) (.int .i64 ((y * (1 + aroundI w_ 16)) + ((j : Nat) : Int)))) (.pointer (some ⟨r2, Int.toNat ((y * (1 + aroundI w_ 16)) + ((j : Nat) : Int)), none⟩)) (by kernel_rfl) (pok_then (pok_then (pok_blk (pok_then (pok_then (pok_blk (pok_then (pok_blk pok_rq)))))))) (by kernel_rfl) rfl (by kernel_rfl) (by kernel_rfl) (fun w hT => run_indexAt (e := 28) (sz := 1) _ (by kernel_rfl) (by kernel_rfl) (by omega) (by omega) (by omega) w) ?_
      refine sem_take 0 [] 13 1 64 (Instr.loadAt 28 (.pointer (some ⟨r2, Int.toNat ((y * (1 + aroundI w_ 16)) + ((j : Nat) : Int)), none⟩))) (.int .u32 ((goodP n3 xs1 n3).getD (Int.toNat ((y * (1 + aroundI w_ 16)) + ((j : Nat) : Int))) 0)) (by kernel_rfl) (pok_then (pok_then (pok_blk (pok_then (pok_then (pok_blk (pok_then (pok_blk pok_rq)))))))) (by kernel_rfl) rfl (by kernel_rfl) (by kernel_rfl) (fun w hT => run_load1 (by kernel_rfl) (Row.cell (hT 9 _ rfl) (Int.toNat ((y * (1 + aroundI w_ 16)) + ((j : Nat) : Int))) _ (ivals_get (by omega)))) ?_
      refine takes 0 [] [(14, 0)] 0 [14, 13, 12, 11, 9, 8, 5, 3, 2, 10, 7, 6, 4, 1, 0] [(6, .pointer (some ⟨b1, 0, none⟩)), (7, .pointer (some ⟨b8, 0, none⟩)), (10, .pointer (some ⟨b12, 0, none⟩)), (11, .int .i64 y), (12, .slice (some ⟨g, 0, none⟩) Wn cx), (13, .int .i64 ((j : Nat) : Int)), (65, .bool ((ll.getD (j : Nat) 0) != ((goodP n3 xs1 n3).getD (Int.toNat ((y * (1 + aroundI w_ 16)) + ((j : Nat) : Int))) 0)))] (by kernel_rfl) (pok_then (pok_then (pok_blk (pok_then (pok_then (pok_blk (pok_then (pok_blk pok_rq)))))))) (by kernel_rfl) rfl rfl (by kernel_rfl) (by kernel_rfl) ?_
      refine drawn_done (by kernel_rfl) ?_
      refine then_normal ?_
      refine cont_recast 65 (.bool ((ll.getD (j : Nat) 0) != ((goodP n3 xs1 n3).getD (Int.toNat ((y * (1 + aroundI w_ 16)) + ((j : Nat) : Int))) 0))) (.bool false) rfl (congrArg Value.bool (by rw [hll j (Nat.le_refl _), hyp, rowL_get hWn hnr hwr hlr (by omega) (by omega)]; exact bne_self_eq_false _)) ?_
      refine mcont_false rfl ?_
      refine mcont_skip ?_
      refine then_normal ?_
      refine mcont_region 4 rfl (by kernel_rfl) ?_
      refine bS [0, 0] 2 2 [(6, .pointer (some ⟨b1, 0, none⟩)), (7, .pointer (some ⟨b8, 0, none⟩)), (10, .pointer (some ⟨b12, 0, none⟩)), (11, .int .i64 y), (12, .slice (some ⟨g, 0, none⟩) Wn cx), (13, .int .i64 ((j : Nat) : Int)), (66, .slice (some ⟨g, 0, none⟩) Wn cx), (67, .int .i64 ((j : Nat) : Int))] ?_
      refine pl_step 3 1 rfl rfl ?_
      refine sem_step 68 (Instr.indexAt 35 (.slice (some ⟨g, 0, none⟩) Wn cx) (.int .i64 ((j : Nat) : Int))) (.pointer (some ⟨g, (j : Nat), none⟩)) (by kernel_rfl) (fun w hT => run_indexAt (e := 28) (sz := 1) _ (by kernel_rfl) (by kernel_rfl) (by omega) (by omega) (by omega) w) ?_
      refine pl_step 4 0 rfl rfl ?_
      refine sem_stepU (Instr.storeAt 28 (.pointer (some ⟨g, (j : Nat), none⟩)) (.int .u32 1)) (fun _ => [.gen (rowE (some ⟨g, 0, none⟩) g Wn cx 28 1 (ivals .u32 (ll.set (j : Nat) 1)) true), z14_, e14b_, e14q_, .ro kb10 [.pointer (some ⟨bl9, 0, none⟩)] 22, .ro bl9 [.int .i64 (1 + aroundI w_ 16), .int .i64 (1 + aroundI h_ 16), .slice (some ⟨bq9, 0, none⟩) n3 n3] 84, .gen (rdE (some ⟨bq9, 0, none⟩) bq9 0 n3 1 (ivals .u32 (goodP n3 xs1 n3))), .cells b12 [.int .i64 ((k : Nat) : Int)] 3 true, .cells b8 [.int .i64 (1 + aroundI w_ 16), .int .i64 (1 + aroundI h_ 16), .slice (some ⟨r2, 0, none⟩) n3 n3] 37 true, .gen (rowE (some ⟨r2, 0, none⟩) r2 n3 n3 28 1 (ivals .u32 (goodP n3 xs1 n3)) true), .cells b1 [.bool false] 4 true, .gen (rdE (A1) g1 o1 n1 1 (ivals .u32 xs1))]) (fun _ => True) (by kernel_rfl) (fun w hT => store_row hT (i := 0) rfl (by kernel_rfl) (by omega)) (fun _ _ => ?_)
      refine cont_done ?_
      refine blk_normal ?_
      refine then_normal ?_
      refine mcont_region 3 rfl (by kernel_rfl) ?_
      refine bS [0, 0] 2 1 [(6, .pointer (some ⟨b1, 0, none⟩)), (7, .pointer (some ⟨b8, 0, none⟩)), (10, .pointer (some ⟨b12, 0, none⟩)), (11, .int .i64 y), (12, .slice (some ⟨g, 0, none⟩) Wn cx), (50, .int .i64 (IntKind.i64.wrap (((j : Nat) : Int) + 1)))] ?_
      refine cont_recast 50 (.int .i64 (IntKind.i64.wrap (((j : Nat) : Int) + 1))) (.int .i64 (((j : Nat) : Int) + 1)) rfl (wrapI (by omega) (by omega)) ?_
      refine bS [0] 3 0 [(6, .pointer (some ⟨b1, 0, none⟩)), (7, .pointer (some ⟨b8, 0, none⟩)), (10, .pointer (some ⟨b12, 0, none⟩)), (11, .int .i64 y), (12, .slice (some ⟨g, 0, none⟩) Wn cx), (13, .int .i64 (((j : Nat) : Int) + 1))] ?_
      refine cont_done ?_
      refine then_normal ?_
      refine cont_again (j + 1, ll.set (j : Nat) 1) (show (j + 1) ≤ Wn ∧ ∀ i, (j + 1) ≤ i → (ll.set (j : Nat) 1).getD i 0 = (rowL Wn (goodP n3 xs1 n3) y).getD i 0 from ⟨by omega, keepAt hll⟩) (show Wn - (j + 1) < Wn - j from by omega) (by kernel_rfl) (by kernel_rfl)
    replace c20_ := of_decide_eq_false c20_
    refine mcont_false rfl ?_
    refine mcont_exit ?_
    refine then_exit ?_
    refine then_exit ?_
    refine blk_exit ?_
    refine then_normal ?_
    refine mcont_region 3 rfl (by kernel_rfl) ?_
    refine bS [7, 0] 2 1 [(10, .pointer (some ⟨b12, 0, none⟩)), (70, .int .i64 (IntKind.i64.wrap (((k : Nat) : Int) + 1)))] ?_
    refine cont_recast 70 (.int .i64 (IntKind.i64.wrap (((k : Nat) : Int) + 1))) (.int .i64 (((k : Nat) : Int) + 1)) rfl (wrapI (by omega) (by omega)) ?_
    refine batch0 [7] 3 0 [] [.gen (rowE (some ⟨g, 0, none⟩) g Wn cx 28 1 (ivals .u32 ll) true), z14_, e14b_, e14q_, .ro kb10 [.pointer (some ⟨bl9, 0, none⟩)] 22, .ro bl9 [.int .i64 (1 + aroundI w_ 16), .int .i64 (1 + aroundI h_ 16), .slice (some ⟨bq9, 0, none⟩) n3 n3] 84, .gen (rdE (some ⟨bq9, 0, none⟩) bq9 0 n3 1 (ivals .u32 (goodP n3 xs1 n3))), .cells b12 [.int .i64 (((k : Nat) : Int) + 1)] 3 true, .cells b8 [.int .i64 (1 + aroundI w_ 16), .int .i64 (1 + aroundI h_ 16), .slice (some ⟨r2, 0, none⟩) n3 n3] 37 true, .gen (rowE (some ⟨r2, 0, none⟩) r2 n3 n3 28 1 (ivals .u32 (goodP n3 xs1 n3)) true), .cells b1 [.bool false] 4 true, .gen (rdE (A1) g1 o1 n1 1 (ivals .u32 xs1))] rfl rfl (by kernel_rfl) (by kernel_rfl) ?_
    refine cont_done ?_
    refine blk_normal ?_
    refine cont_norm [] [.gen (rowE (some ⟨g, 0, none⟩) g Wn cx 28 1 (ivals .u32 ll) true), z14_, e14b_, e14q_, .ro kb10 [.pointer (some ⟨bl9, 0, none⟩)] 22, .ro bl9 [.int .i64 (1 + aroundI w_ 16), .int .i64 (1 + aroundI h_ 16), .slice (some ⟨bq9, 0, none⟩) n3 n3] 84, .gen (rdE (some ⟨bq9, 0, none⟩) bq9 0 n3 1 (ivals .u32 (goodP n3 xs1 n3))), .cells b12 [.int .i64 ((k + 1 : Nat) : Int)] 3 true, .cells b8 [.int .i64 (1 + aroundI w_ 16), .int .i64 (1 + aroundI h_ 16), .slice (some ⟨r2, 0, none⟩) n3 n3] 37 true, .gen (rowE (some ⟨r2, 0, none⟩) r2 n3 n3 28 1 (ivals .u32 (goodP n3 xs1 n3)) true), .cells b1 [.bool false] 4 true, .gen (rdE (A1) g1 o1 n1 1 (ivals .u32 xs1))] (by kernel_rfl) (congrArg (fun c_ : List Value => ([.gen (rowE (some ⟨g, 0, none⟩) g Wn cx 28 1 (ivals .u32 ll) true), z14_, e14b_, e14q_, .ro kb10 [.pointer (some ⟨bl9, 0, none⟩)] 22, .ro bl9 [.int .i64 (1 + aroundI w_ 16), .int .i64 (1 + aroundI h_ 16), .slice (some ⟨bq9, 0, none⟩) n3 n3] 84, .gen (rdE (some ⟨bq9, 0, none⟩) bq9 0 n3 1 (ivals .u32 (goodP n3 xs1 n3))), .cells b12 c_ 3 true, .cells b8 [.int .i64 (1 + aroundI w_ 16), .int .i64 (1 + aroundI h_ 16), .slice (some ⟨r2, 0, none⟩) n3 n3] 37 true, .gen (rowE (some ⟨r2, 0, none⟩) r2 n3 n3 28 1 (ivals .u32 (goodP n3 xs1 n3)) true), .cells b1 [.bool false] 4 true, .gen (rdE (A1) g1 o1 n1 1 (ivals .u32 xs1))] : List Ent)) (by simp)) ?_
    refine cont_pick [1, 2, 3, 4, 5, 6, 7, 8, 9, 10, 11] [z14_, e14b_, e14q_, .ro kb10 [.pointer (some ⟨bl9, 0, none⟩)] 22, .ro bl9 [.int .i64 (1 + aroundI w_ 16), .int .i64 (1 + aroundI h_ 16), .slice (some ⟨bq9, 0, none⟩) n3 n3] 84, .gen (rdE (some ⟨bq9, 0, none⟩) bq9 0 n3 1 (ivals .u32 (goodP n3 xs1 n3))), .cells b12 [.int .i64 ((k + 1 : Nat) : Int)] 3 true, .cells b8 [.int .i64 (1 + aroundI w_ 16), .int .i64 (1 + aroundI h_ 16), .slice (some ⟨r2, 0, none⟩) n3 n3] 37 true, .gen (rowE (some ⟨r2, 0, none⟩) r2 n3 n3 28 1 (ivals .u32 (goodP n3 xs1 n3)) true), .cells b1 [.bool false] 4 true, .gen (rdE (A1) g1 o1 n1 1 (ivals .u32 xs1))] (by decide) rfl rfl ?_
    refine rq_next (k + 1) (show (k + 1) = (pre ++ [(y, g, cx)]).length from (by rw [List.length_append, List.length_singleton]; omega)) rfl
  ·
    rintro D24_ xs_ k hS_ hinv23_
    replace hinv23_ : k = xs_.length := hinv23_
    replace hS_ : RowsP Hn xs_ ∧ xs_.length = Hn := hS_
    refine cont_norm [(6, .pointer (some ⟨b1, 0, none⟩)), (7, .pointer (some ⟨b8, 0, none⟩)), (8, .pointer (some ⟨bl9, 0, none⟩)), (10, .pointer (some ⟨b12, 0, none⟩))] [markE D24_, .ro kb10 [.pointer (some ⟨bl9, 0, none⟩)] 22, .ro bl9 [.int .i64 (1 + aroundI w_ 16), .int .i64 (1 + aroundI h_ 16), .slice (some ⟨bq9, 0, none⟩) n3 n3] 84, .gen (rdE (some ⟨bq9, 0, none⟩) bq9 0 n3 1 (ivals .u32 (goodP n3 xs1 n3))), .cells b12 [.int .i64 ((k : Nat) : Int)] 3 true, .cells b8 [.int .i64 (1 + aroundI w_ 16), .int .i64 (1 + aroundI h_ 16), .slice (some ⟨r2, 0, none⟩) n3 n3] 37 true, .gen (rowE (some ⟨r2, 0, none⟩) r2 n3 n3 28 1 (ivals .u32 (goodP n3 xs1 n3)) true), .cells b1 [.bool false] 4 true, .gen (rdE (A1) g1 o1 n1 1 (ivals .u32 xs1))] (by kernel_rfl) rfl ?_
    have hkH : k = Hn := by rw [hinv23_]; exact hS_.2
    refine blk_normal ?_
    refine then_normal ?_
    refine cont_seq ?_
    refine cont_region 13 rfl ?_
    refine bS [4, 0, 5, 0, 0] 5 8 [(6, .pointer (some ⟨b1, 0, none⟩)), (7, .pointer (some ⟨b8, 0, none⟩)), (8, .pointer (some ⟨bl9, 0, none⟩)), (75, .bool (((k : Nat) : Int) == (1 + aroundI h_ 16)))] ?_
    refine cont_forget 4 rfl ?_
    refine cont_recast 75 (.bool (((k : Nat) : Int) == (1 + aroundI h_ 16))) (.bool true) rfl (congrArg Value.bool (by rw [show ((k : Nat) : Int) = (1 + aroundI h_ 16) by omega]; exact beq_self_eq_true _)) ?_
    refine bS [0, 4] 7 6 [(6, .pointer (some ⟨b1, 0, none⟩)), (75, .bool true), (76, .pointer (some ⟨bl9, 0, none⟩)), (77, .agg #[.int .i64 (1 + aroundI w_ 16), .int .i64 (1 + aroundI h_ 16), .slice (some ⟨r2, 0, none⟩) n3 n3])] ?_
    refine cont_forget 4 rfl ?_
    refine pl_step 8 5 rfl rfl ?_
    refine call_pure (d := 78) (.bool true) (by kernel_rfl) (fun w hT => likeT bl9 (1 + aroundI w_ 16) (1 + aroundI h_ 16) bq9 n3 n3 (goodP n3 xs1 n3) r2 n3 n3 w (hT.viewRo (.cons (i := 2) rfl Vw.ro (.cons (i := 3) rfl Vw.rd (.cons (i := 4) rfl Vw.rowRd .nil))) rfl) hokr (by omega)) ?_
    refine bS [0, 0] 10 3 [(6, .pointer (some ⟨b1, 0, none⟩)), (80, .bool true)] ?_
    refine pl_step 11 2 rfl rfl ?_
    refine call_pure (d := 81) (.bool true) (by kernel_rfl) (fun w hT => lives4  w) ?_
    refine batch0 [0, 5] 13 0 [(6, .pointer (some ⟨b1, 0, none⟩))] [markE D24_, .ro kb10 [.pointer (some ⟨bl9, 0, none⟩)] 22, .ro bl9 [.int .i64 (1 + aroundI w_ 16), .int .i64 (1 + aroundI h_ 16), .slice (some ⟨bq9, 0, none⟩) n3 n3] 84, .gen (rdE (some ⟨bq9, 0, none⟩) bq9 0 n3 1 (ivals .u32 (goodP n3 xs1 n3))), .gen (rowE (some ⟨r2, 0, none⟩) r2 n3 n3 28 1 (ivals .u32 (goodP n3 xs1 n3)) true), .cells b1 [.bool true] 4 true, .gen (rdE (A1) g1 o1 n1 1 (ivals .u32 xs1))] rfl rfl (by kernel_rfl) (by kernel_rfl) ?_
    refine cont_done ?_
    refine then_normal ?_
    refine cont_ret ?_
    refine mark_end 0 rfl (.inl rfl) ?_
    refine cont_norm [(6, .pointer (some ⟨b1, 0, none⟩))] [objE D24_ (.deferred none), .ro kb10 [.pointer (some ⟨bl9, 0, none⟩)] 22, .ro bl9 [.int .i64 (1 + aroundI w_ 16), .int .i64 (1 + aroundI h_ 16), .slice (some ⟨bq9, 0, none⟩) n3 n3] 84, .gen (rdE (some ⟨bq9, 0, none⟩) bq9 0 n3 1 (ivals .u32 (goodP n3 xs1 n3))), .gen (rowE (some ⟨r2, 0, none⟩) r2 n3 n3 28 1 (ivals .u32 (goodP n3 xs1 n3)) true), .cells b1 [.bool true] 4 true, .gen (rdE (A1) g1 o1 n1 1 (ivals .u32 xs1))] (by kernel_rfl) rfl ?_
    refine ret_one (.inl rfl) rfl 5 (.bool true) (by kernel_rfl) (by kernel_rfl) (fun w hT => ?_)
    exact ⟨rfl, hT.post rfl⟩
  ·
    intro D_  c_ h_; exact h_.elim
  ·
    intro D_ id_ c_ h_; exact h_.elim

end Go.Proofs.Ytommojgfkkoghaa

