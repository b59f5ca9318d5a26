/- Contracts of functions of the given program, printed by a program of this project. -/
import Derived.Test.YtgmonhehilcegaaPdW18
import Derived.Test.YtgmonhehilcegaaPdL18c
import Derived.Test.YtgmonhehilcegaaPdL18b
import Derived.Test.YtgmonhehilcegaaPdDk18
import Derived.Test.YtgmonhehilcegaaPdOi
import Derived.Test.YtgmonhehilcegaaProg
set_option linter.unusedVariables false
set_option linter.unusedSimpArgs false
namespace Go.Proofs.Ytgmonhehilcegaa
open Go Go.RowKit
set_option maxRecDepth 100000
set_option maxHeartbeats 8000000

theorem walkOutputImages (w_ h_ : Int) (A : Option Addr) (g o n cap : Nat) (xs : List Deed18) (w : World) (hww : -9223372036854775808 ≤ w_ ∧ w_ ≤ 9223372036854775807) (hhh : -9223372036854775808 ≤ h_ ∧ h_ ≤ 9223372036854775807) (hr : Rd w A g o n 7 (dvals Deed18.cells xs)) (hl : xs.length = n) (hc : n ≤ cap) (hm : cap ≤ maxLen) (hg : ∀ d ∈ xs, Deed18.Good w d) :
    Calls Try.prog 11 #[.int .i64 w_, .int .i64 h_, .slice A n cap] w fun e w' => e = .returned (.bool true) ∧ Below w.heap.size w w' := by
 unfold maxLen at hm
 obtain ⟨hra, _⟩ := Rd.factsD Deed18.size (by decide) hr
 have hge : ∀ i, i < n → Deed18.Good w (dget xs i) := fun i hi => hg _ (dget_mem (by omega))
 refine enter 202 [(0, iq w_), (1, iq h_), (2, .slice A n cap)] [.gen (rdE (A) g o n 7 (dvals Deed18.cells xs)), .gen (subE n (fun i_ => rdE ((dget xs i_).A1) (dget xs i_).g1 (dget xs i_).o1 (dget xs i_).m1 4 (rvals (dget xs i_).x1)))] Try.func11 rfl Try.ntmps11 rfl (by kernel_rfl) (Tab.olds (fun i_ e_ he_ => by
   match i_, he_ with
   | 0, he_ => cases he_; exact ⟨hr, rfl, rfl⟩
   | 1, he_ => cases he_; exact ⟨fun i_ hi_ => (hge i_ hi_).r1, rfl, rfl⟩
   | _ + 2, he_ => cases he_)) ?_
 refine cont_seq ?_
 refine cont_region 1 rfl ?_
 refine bS [0] 1 0 [(0, iq w_), (1, iq h_), (2, .slice A n cap)] ?_
 refine cont_done ?_
 refine then_normal ?_
 refine cont_seq ?_
 refine cont_region 5 rfl ?_
 refine bS [0, 0] 2 3 [(2, .slice A n cap), (28, iq w_), (29, iq h_)] ?_
 refine pl_step 3 2 rfl rfl ?_
 obtain ⟨W1q, hW1q⟩ : ∃ y_ : Int, y_ = 1 + aroundI w_ 16 := ⟨_, rfl⟩
 have hW1qr := aroundI_range w_ (m := 16) (by omega)
 have hW1qi : 1 ≤ W1q ∧ W1q ≤ 16 := by omega
 obtain ⟨H1q, hH1q⟩ : ∃ y_ : Int, y_ = 1 + aroundI h_ 16 := ⟨_, rfl⟩
 have hH1qr := aroundI_range h_ (m := 16) (by omega)
 have hH1qi : 1 ≤ H1q ∧ H1q ≤ 16 := by omega
 refine call_pure (d := 30) (.agg #[iq 0, iq 0, iq W1q, iq H1q]) (by kernel_rfl) (fun w hT => refBox17 w_ h_ W1q H1q w hW1q hH1q (by omega) (by omega)) ?_
 refine batch1 [0, 0] 5 0 (fun b2 => [(2, .slice A n cap), (7, .pointer (pB b2))]) (fun b2 => [.cells b2 [iq 0, iq 0, iq W1q, iq H1q] 28 true, .gen (rdE (A) g o n 7 (dvals Deed18.cells xs)), .gen (subE n (fun i_ => rdE ((dget xs i_).A1) (dget xs i_).g1 (dget xs i_).o1 (dget xs i_).m1 4 (rvals (dget xs i_).x1)))]) rfl rfl [2, 7] (fun _ => rfl) (fun b2 => by kernel_rfl) (fun b2 => by kernel_rfl) (fun b2 => ?_)
 refine cont_done ?_
 refine then_normal ?_
 refine cont_seq ?_
 refine cont_region 10 rfl ?_
 refine bS [0, 0, 0, 0] 4 6 [(2, .slice A n cap), (7, .pointer (pB b2)), (33, iq W1q), (35, iq H1q)] ?_
 refine pl_step 5 5 rfl rfl ?_
 refine call_gen (d := 36) (α := Nat × Nat × Nat × Nat × Nat × Nat × Nat × Option Addr × Nat × Nat × Nat × Option Addr × Nat × Nat × Nat) (fun x_ => .tuple #[.pointer (pB x_.1), iq 0]) (fun x_ => [.cells x_.1 [.pointer (pB x_.2.1), .pointer (pB x_.2.2.2.2.1), .slice x_.2.2.2.2.2.2.2.1 x_.2.2.2.2.2.2.2.2.2.1 x_.2.2.2.2.2.2.2.2.2.2.1, .slice x_.2.2.2.2.2.2.2.2.2.2.2.1 x_.2.2.2.2.2.2.2.2.2.2.2.2.2.1 x_.2.2.2.2.2.2.2.2.2.2.2.2.2.2, iq 0, iq 0, iq 0, iq 0] 98 true, .cells x_.2.1 [iq W1q, iq H1q, .slice (pB x_.2.2.1) x_.2.2.2.1 x_.2.2.2.1] 115 true, .gen (rowE (pB x_.2.2.1) x_.2.2.1 x_.2.2.2.1 x_.2.2.2.1 54 1 (ivals .u32 (List.replicate x_.2.2.2.1 0)) true), .cells x_.2.2.2.2.1 [iq W1q, iq H1q, .slice (pB x_.2.2.2.2.2.1) x_.2.2.2.2.2.2.1 x_.2.2.2.2.2.2.1] 115 true, .gen (rowE (pB x_.2.2.2.2.2.1) x_.2.2.2.2.2.1 x_.2.2.2.2.2.2.1 x_.2.2.2.2.2.2.1 54 1 (ivals .u32 (List.replicate x_.2.2.2.2.2.2.1 0)) true), .gen (rowE (x_.2.2.2.2.2.2.2.1) x_.2.2.2.2.2.2.2.2.1 x_.2.2.2.2.2.2.2.2.2.1 x_.2.2.2.2.2.2.2.2.2.2.1 28 4 (rvals (canR [(⟨0, 0, W1q, H1q⟩ : Rect)])) true), .gen (rowE (x_.2.2.2.2.2.2.2.2.2.2.2.1) x_.2.2.2.2.2.2.2.2.2.2.2.2.1 x_.2.2.2.2.2.2.2.2.2.2.2.2.2.1 x_.2.2.2.2.2.2.2.2.2.2.2.2.2.2 28 4 (rvals (canR [(⟨0, 0, W1q, H1q⟩ : Rect)])) true), .cells b2 [iq 0, iq 0, iq W1q, iq H1q] 28 true, .gen (rdE (A) g o n 7 (dvals Deed18.cells xs)), .gen (subE n (fun i_ => rdE ((dget xs i_).A1) (dget xs i_).g1 (dget xs i_).o1 (dget xs i_).m1 4 (rvals (dget xs i_).x1)))]) (fun x_ => (x_.2.2.2.1 : Int) = W1q * H1q ∧ (x_.2.2.2.2.2.2.1 : Int) = W1q * H1q) (by kernel_rfl) (fun w hT => (outNew W1q H1q w (by omega)).mono fun e w' ⟨b3, m4, r5, n6, m17, r18, n19, A10, g11, k12, cp13, B14, gB15, kB16, cB17, he_, hf_, ht_⟩ => ⟨(b3, m4, r5, n6, m17, r18, n19, A10, g11, k12, cp13, B14, gB15, kB16, cB17), he_, hf_, hT.news ht_ rfl⟩) ?_
 rintro ⟨b3, m4, r5, n6, m17, r18, n19, A10, g11, k12, cp13, B14, gB15, kB16, cB17⟩ hf18_
 replace hf18_ : (n6 : Int) = W1q * H1q ∧ (n19 : Int) = W1q * H1q := hf18_
 refine cont_norm [(2, .slice A n cap), (7, .pointer (pB b2)), (33, iq W1q), (35, iq H1q), (36, .tuple #[.pointer (pB b3), iq 0])] _ (by kernel_rfl) rfl ?_
 obtain ⟨hf18_a, hf18_b⟩ := hf18_
 have hcl19_ := canR_small (l := [(⟨0, 0, W1q, H1q⟩ : Rect)]) (by simp)
 refine cont_fact (F := (0 < k12 → (A10 : Option Addr) = pB g11) ∧ (canR [(⟨0, 0, W1q, H1q⟩ : Rect)]).length = k12 ∧ k12 ≤ cp13 ∧ cp13 ≤ maxLen) (fun w hT => Row.factsR (hT.ok 5 _ rfl)) (fun hr20_ => ?_)
 obtain ⟨hr20_a, hr20_l, hr20_c, hr20_m⟩ := hr20_
 unfold maxLen at hr20_m
 refine cont_fact (F := (0 < kB16 → (B14 : Option Addr) = pB gB15) ∧ (canR [(⟨0, 0, W1q, H1q⟩ : Rect)]).length = kB16 ∧ kB16 ≤ cB17 ∧ cB17 ≤ maxLen) (fun w hT => Row.factsR (hT.ok 6 _ rfl)) (fun hr21_ => ?_)
 obtain ⟨hr21_a, hr21_l, hr21_c, hr21_m⟩ := hr21_
 unfold maxLen at hr21_m
 refine bS [0, 0, 0, 0, 0] 10 0 [(2, .slice A n cap), (7, .pointer (pB b2)), (8, .pointer (pB b3)), (9, iq 0)] ?_
 refine cont_done ?_
 refine then_normal ?_
 refine cont_seq ?_
 refine cont_seq ?_
 refine cont_region 6 rfl ?_
 refine bS [0, 0, 0, 0, 0, 0] 6 0 [(2, .slice A n cap), (7, .pointer (pB b2)), (8, .pointer (pB b3)), (44, .bool false)] ?_
 refine cont_done ?_
 refine then_normal ?_
 refine cont_false rfl ?_
 refine cont_skip ?_
 refine then_normal ?_
 refine cont_seq ?_
 refine cont_region 6 rfl ?_
 refine cont_forget 5 rfl ?_
 refine cont_forget 5 rfl ?_
 refine cont_norm [(2, .slice A n cap), (7, .pointer (pB b2)), (8, .pointer (pB b3)), (44, .bool false)] _ (by kernel_rfl) rfl ?_
 have hok0_ := (imgOk_new (by omega) hf18_a)
 have hok1_ := (imgOk_new (by omega) hf18_b)
 have hn_ := hok0_.num
 have hle_ := hok0_.le
 have hn1_ := hok1_.num
 refine bS [0, 5, 0, 5, 0] 5 1 [(2, .slice A n cap), (7, .pointer (pB b2)), (8, .pointer (pB b3)), (49, iq (IntKind.i64.wrap (W1q * H1q)))] ?_
 refine cont_recast 49 (iq (IntKind.i64.wrap (W1q * H1q))) (iq (n6 : Int)) rfl (by rw [← hn_]; exact wrapI (by omega) (by omega)) ?_
 refine bS [0] 6 0 [(2, .slice A n cap), (7, .pointer (pB b2)), (8, .pointer (pB b3)), (10, iq (n6 : Int))] ?_
 refine cont_done ?_
 refine then_normal ?_
 refine cont_seq ?_
 refine cont_region 3 rfl ?_
 refine bS [0] 1 2 [(2, .slice A n cap), (7, .pointer (pB b2)), (8, .pointer (pB b3)), (10, iq (n6 : Int)), (50, iq (n6 : Int))] ?_
 refine pl_step 2 1 rfl rfl ?_
 refine sem_stepW 51 (Instr.makeSlice 88 (iq (n6 : Int)) (iq (n6 : Int))) (fun r22 => .slice (pB r22) n6 n6) (fun r22 => [.gen (rowE (pB r22) r22 n6 n6 54 1 (ivals .u32 (List.replicate n6 0)) true), .cells b3 [.pointer (pB m4), .pointer (pB m17), .slice A10 k12 cp13, .slice B14 kB16 cB17, iq 0, iq 0, iq 0, iq 0] 98 true, .cells m4 [iq W1q, iq H1q, .slice (pB r5) n6 n6] 115 true, .gen (rowE (pB r5) r5 n6 n6 54 1 (ivals .u32 (List.replicate n6 0)) true), .cells m17 [iq W1q, iq H1q, .slice (pB r18) n19 n19] 115 true, .gen (rowE (pB r18) r18 n19 n19 54 1 (ivals .u32 (List.replicate n19 0)) true), .cells b2 [iq 0, iq 0, iq W1q, iq H1q] 28 true, .gen (rdE (A) g o n 7 (dvals Deed18.cells xs)), .gen (subE n (fun i_ => rdE ((dget xs i_).A1) (dget xs i_).g1 (dget xs i_).o1 (dget xs i_).m1 4 (rvals (dget xs i_).x1)))]) (fun _ => True) (by kernel_rfl) (fun w hT => make_row hT (bytes := 4) n6 (by kernel_rfl) (by kernel_rfl) (by omega) (by omega)) (fun r22 _ => ?_)
 refine bS [0] 3 0 [(2, .slice A n cap), (7, .pointer (pB b2)), (8, .pointer (pB b3)), (10, iq (n6 : Int)), (11, .slice (pB r22) n6 n6)] ?_
 refine cont_done ?_
 refine then_normal ?_
 refine cont_seq ?_
 refine cont_region 3 rfl ?_
 refine bS [0] 1 2 [(2, .slice A n cap), (7, .pointer (pB b2)), (8, .pointer (pB b3)), (10, iq (n6 : Int)), (11, .slice (pB r22) n6 n6), (52, iq (n6 : Int))] ?_
 refine pl_step 2 1 rfl rfl ?_
 refine sem_stepW 53 (Instr.makeSlice 88 (iq (n6 : Int)) (iq (n6 : Int))) (fun r23 => .slice (pB r23) n6 n6) (fun r23 => [.gen (rowE (pB r23) r23 n6 n6 54 1 (ivals .u32 (List.replicate n6 0)) true), .gen (rowE (pB r22) r22 n6 n6 54 1 (ivals .u32 (List.replicate n6 0)) true), .cells b3 [.pointer (pB m4), .pointer (pB m17), .slice A10 k12 cp13, .slice B14 kB16 cB17, iq 0, iq 0, iq 0, iq 0] 98 true, .cells m4 [iq W1q, iq H1q, .slice (pB r5) n6 n6] 115 true, .gen (rowE (pB r5) r5 n6 n6 54 1 (ivals .u32 (List.replicate n6 0)) true), .cells m17 [iq W1q, iq H1q, .slice (pB r18) n19 n19] 115 true, .gen (rowE (pB r18) r18 n19 n19 54 1 (ivals .u32 (List.replicate n19 0)) true), .cells b2 [iq 0, iq 0, iq W1q, iq H1q] 28 true, .gen (rdE (A) g o n 7 (dvals Deed18.cells xs)), .gen (subE n (fun i_ => rdE ((dget xs i_).A1) (dget xs i_).g1 (dget xs i_).o1 (dget xs i_).m1 4 (rvals (dget xs i_).x1)))]) (fun _ => True) (by kernel_rfl) (fun w hT => make_row hT (bytes := 4) n6 (by kernel_rfl) (by kernel_rfl) (by omega) (by omega)) (fun r23 _ => ?_)
 refine bS [0] 3 0 [(2, .slice A n cap), (7, .pointer (pB b2)), (8, .pointer (pB b3)), (10, iq (n6 : Int)), (11, .slice (pB r22) n6 n6), (12, .slice (pB r23) n6 n6)] ?_
 refine cont_done ?_
 refine then_normal ?_
 refine cont_seq ?_
 refine cont_seq ?_
 refine cont_region 1 rfl ?_
 refine bS [0] 1 0 [(2, .slice A n cap), (7, .pointer (pB b2)), (8, .pointer (pB b3)), (10, iq (n6 : Int)), (11, .slice (pB r22) n6 n6), (12, .slice (pB r23) n6 n6), (13, iq 0)] ?_
 refine cont_done ?_
 refine then_normal ?_
 refine cont_block ?_
 refine cont_rowEq (k := .u32) 0 (List.replicate n6 0) (List.replicate n19 0) rfl (by rw [show n19 = n6 by omega]) ?_
 refine cont_loop (α := Nat × Nat × Int × Int × Int × List Int × List Int × Nat × Nat × Option Addr × Nat × Nat × Option Addr × Nat × Nat) (fun x_ : Nat × Nat × Int × Int × Int × List Int × List Int × Nat × Nat × Option Addr × Nat × Nat × Option Addr × Nat × Nat => x_.1 ≤ 25 ∧ x_.1 ≤ n ∧ x_.2.1 ≤ 1 ∧ 0 ≤ x_.2.2.2.2.1 ∧ x_.2.2.2.2.1 ≤ (x_.1 : Int) ∧ 0 ≤ x_.2.2.1 ∧ x_.2.2.1 ≤ x_.2.2.2.2.1 ∧ 0 ≤ x_.2.2.2.1 ∧ x_.2.2.2.1 ≤ x_.2.2.2.2.1 ∧ ImgOk W1q H1q n6 x_.2.2.2.2.2.1 ∧ ImgOk W1q H1q n19 x_.2.2.2.2.2.2.1) (fun x_ : Nat × Nat × Int × Int × Int × List Int × List Int × Nat × Nat × Option Addr × Nat × Nat × Option Addr × Nat × Nat => [(2, .slice A n cap), (7, .pointer (pB b2)), (8, .pointer (pB b3)), (10, iq (n6 : Int)), (11, .slice (pB x_.2.2.2.2.2.2.2.1) n6 n6), (12, .slice (pB x_.2.2.2.2.2.2.2.2.1) n6 n6), (13, iq (x_.1 : Int))]) (fun x_ : Nat × Nat × Int × Int × Int × List Int × List Int × Nat × Nat × Option Addr × Nat × Nat × Option Addr × Nat × Nat => [.gen (rowE (pB x_.2.2.2.2.2.2.2.2.1) x_.2.2.2.2.2.2.2.2.1 n6 n6 54 1 (ivals .u32 (if x_.2.1 = 0 then x_.2.2.2.2.2.2.1 else x_.2.2.2.2.2.1)) true), .gen (rowE (pB x_.2.2.2.2.2.2.2.1) x_.2.2.2.2.2.2.2.1 n6 n6 54 1 (ivals .u32 (if x_.2.1 = 0 then x_.2.2.2.2.2.1 else x_.2.2.2.2.2.2.1)) true), .cells b3 [.pointer (pB m4), .pointer (pB m17), .slice x_.2.2.2.2.2.2.2.2.2.1 x_.2.2.2.2.2.2.2.2.2.2.1 x_.2.2.2.2.2.2.2.2.2.2.2.1, .slice x_.2.2.2.2.2.2.2.2.2.2.2.2.1 x_.2.2.2.2.2.2.2.2.2.2.2.2.2.1 x_.2.2.2.2.2.2.2.2.2.2.2.2.2.2, iq x_.2.2.1, iq x_.2.2.2.1, iq x_.2.2.2.2.1, iq (x_.2.1 : Int)] 98 true, .cells m4 [iq W1q, iq H1q, .slice (pB r5) n6 n6] 115 true, .gen (rowE (pB r5) r5 n6 n6 54 1 (ivals .u32 x_.2.2.2.2.2.1) true), .cells m17 [iq W1q, iq H1q, .slice (pB r18) n19 n19] 115 true, .gen (rowE (pB r18) r18 n19 n19 54 1 (ivals .u32 x_.2.2.2.2.2.2.1) true), .cells b2 [iq 0, iq 0, iq W1q, iq H1q] 28 true, .gen (rdE (A) g o n 7 (dvals Deed18.cells xs)), .gen (subE n (fun i_ => rdE ((dget xs i_).A1) (dget xs i_).g1 (dget xs i_).o1 (dget xs i_).m1 4 (rvals (dget xs i_).x1)))]) (fun x_ : Nat × Nat × Int × Int × Int × List Int × List Int × Nat × Nat × Option Addr × Nat × Nat × Option Addr × Nat × Nat => 40 - x_.1) (0, 0, 0, 0, 0, List.replicate n6 0, List.replicate n19 0, r22, r23, A10, k12, cp13, B14, kB16, cB17) (show (0) ≤ 25 ∧ (0) ≤ n ∧ (0) ≤ 1 ∧ 0 ≤ (0) ∧ (0) ≤ ((0) : Int) ∧ 0 ≤ (0) ∧ (0) ≤ (0) ∧ 0 ≤ (0) ∧ (0) ≤ (0) ∧ ImgOk W1q H1q n6 (List.replicate n6 0) ∧ ImgOk W1q H1q n19 (List.replicate n19 0) from ⟨by omega, by omega, by omega, by omega, by omega, by omega, by omega, by omega, by omega, hok0_, hok1_⟩) (by kernel_rfl) (by kernel_rfl) ?_
 rintro ⟨i, bk, w0, w1, fr, px0, px1, gb, gf, Ax, kx, cx, Ay, ky, cy⟩ hinv24_
 replace hinv24_ : i ≤ 25 ∧ i ≤ n ∧ bk ≤ 1 ∧ 0 ≤ fr ∧ fr ≤ (i : Int) ∧ 0 ≤ w0 ∧ w0 ≤ fr ∧ 0 ≤ w1 ∧ w1 ≤ fr ∧ ImgOk W1q H1q n6 px0 ∧ ImgOk W1q H1q n19 px1 := hinv24_
 refine cont_norm [(2, .slice A n cap), (7, .pointer (pB b2)), (8, .pointer (pB b3)), (10, iq (n6 : Int)), (11, .slice (pB gb) n6 n6), (12, .slice (pB gf) n6 n6), (13, iq (i : Int))] _ (by kernel_rfl) rfl ?_
 obtain ⟨hi1, hi2, hbk, hf0, hf1, hw0, hw1, hw2, hw3, hk0, hk1⟩ := hinv24_
 rcases (show bk = 0 ∨ bk = 1 by omega) with rfl | rfl
 ·
  refine cont_norm [(2, .slice A n cap), (7, .pointer (pB b2)), (8, .pointer (pB b3)), (10, iq (n6 : Int)), (11, .slice (pB gb) n6 n6), (12, .slice (pB gf) n6 n6), (13, iq (i : Int))] _ (by kernel_rfl) rfl ?_
  refine cont_fact (F := (0 < n6 → (pB gb : Option Addr) = pB gb) ∧ px0.length = n6 ∧ n6 ≤ n6 ∧ n6 ≤ maxLen) (fun w hT => Row.facts (hT.ok 1 _ rfl)) (fun hr25_ => ?_)
  obtain ⟨hr25_a, hr25_l, hr25_c, hr25_m⟩ := hr25_
  unfold maxLen at hr25_m
  refine cont_fact (F := (0 < n6 → (pB gf : Option Addr) = pB gf) ∧ px1.length = n6 ∧ n6 ≤ n6 ∧ n6 ≤ maxLen) (fun w hT => Row.facts (hT.ok 0 _ rfl)) (fun hr26_ => ?_)
  obtain ⟨hr26_a, hr26_l, hr26_c, hr26_m⟩ := hr26_
  unfold maxLen at hr26_m
  refine cont_seq ?_
  refine cont_seq ?_
  refine cont_region 8 rfl ?_
  refine bS [0, 0, 0, 0, 0] 5 3 [(2, .slice A n cap), (7, .pointer (pB b2)), (8, .pointer (pB b3)), (10, iq (n6 : Int)), (11, .slice (pB gb) n6 n6), (12, .slice (pB gf) n6 n6), (13, iq (i : Int)), (58, .bool (decide ((i : Int) < (n : Int))))] ?_
  refine cont_split 58 (decide ((i : Int) < (n : Int))) rfl (fun c27_ => ?_) (fun c27_ => ?_)
  ·
   replace c27_ := of_decide_eq_true c27_
   refine bS [0, 0, 0] 8 0 [(2, .slice A n cap), (7, .pointer (pB b2)), (8, .pointer (pB b3)), (10, iq (n6 : Int)), (11, .slice (pB gb) n6 n6), (12, .slice (pB gf) n6 n6), (13, iq (i : Int)), (59, iq (i : Int)), (60, .bool (decide ((i : Int) < 25))), (61, .bool (decide ((i : Int) < 25)))] ?_
   refine cont_done ?_
   refine then_normal ?_
   refine cont_split 61 (decide ((i : Int) < 25)) rfl (fun c28_ => ?_) (fun c28_ => ?_)
   ·
    refine cont_recast 60 (.bool (decide ((i : Int) < 25))) (.bool true) rfl (congrArg Value.bool c28_) ?_
    replace c28_ := of_decide_eq_true c28_
    refine cont_true rfl ?_
    refine cont_skip ?_
    refine then_normal ?_
    refine cont_seq ?_
    refine cont_block ?_
    refine cont_seq ?_
    refine cont_seq ?_
    refine cont_region 8 rfl ?_
    refine bS [0] 1 7 [(2, .slice A n cap), (7, .pointer (pB b2)), (8, .pointer (pB b3)), (10, iq (n6 : Int)), (11, .slice (pB gb) n6 n6), (12, .slice (pB gf) n6 n6), (13, iq (i : Int)), (59, iq (i : Int)), (60, .bool true), (64, .pointer (pB b3))] ?_
    refine pl_step 2 6 rfl rfl ?_
    refine call_pure (d := 65) (.pointer (pB m4)) (by kernel_rfl) (fun w hT => outBack0 b3 m4 m17 Ax Ay kx cx ky cy w0 w1 fr w (hT.viewRo (.cons (i := 2) rfl Vw.roc .nil) rfl)) ?_
    refine bS [0, 0, 0] 5 3 [(2, .slice A n cap), (7, .pointer (pB b2)), (8, .pointer (pB b3)), (10, iq (n6 : Int)), (11, .slice (pB gb) n6 n6), (12, .slice (pB gf) n6 n6), (13, iq (i : Int)), (59, iq (i : Int)), (60, .bool true), (67, .bool false), (68, .pointer (pB b3))] ?_
    refine pl_step 6 2 rfl rfl ?_
    refine call_gen (d := 69) (α := Nat × Nat × Nat) (fun x_ => .pointer (pB x_.1)) (fun x_ => [.cells x_.1 [iq W1q, iq H1q, .slice (pB x_.2.1) n19 x_.2.2] 115 true, .gen (rowE (pB x_.2.1) x_.2.1 n19 x_.2.2 54 1 (ivals .u32 px1) true), .gen (rowE (pB gf) gf n6 n6 54 1 (ivals .u32 px1) true), .gen (rowE (pB gb) gb n6 n6 54 1 (ivals .u32 px0) true), .cells b3 [.pointer (pB m4), .pointer (pB m17), .slice Ax kx cx, .slice Ay ky cy, iq w0, iq w1, iq fr, iq 0] 98 true, .cells m4 [iq W1q, iq H1q, .slice (pB r5) n6 n6] 115 true, .gen (rowE (pB r5) r5 n6 n6 54 1 (ivals .u32 px0) true), .cells m17 [iq W1q, iq H1q, .slice (pB r18) n19 n19] 115 true, .gen (rowE (pB r18) r18 n19 n19 54 1 (ivals .u32 px1) true), .cells b2 [iq 0, iq 0, iq W1q, iq H1q] 28 true, .gen (rdE (A) g o n 7 (dvals Deed18.cells xs)), .gen (subE n (fun i_ => rdE ((dget xs i_).A1) (dget xs i_).g1 (dget xs i_).o1 (dget xs i_).m1 4 (rvals (dget xs i_).x1)))]) (fun _ => True) (by kernel_rfl) (fun w hT => (outFront0 b3 m17 m4 Ax Ay kx cx ky cy w0 w1 fr W1q H1q r18 n19 n19 px1 w (hT.view (.cons (i := 2) rfl Vw.roc (.cons (i := 5) rfl Vw.roc (.cons (i := 6) rfl Vw.rowRd .nil))) (by decide)) (Row.capLe (hT.ok 6 _ rfl)) hk1).mono fun e w' ⟨b_, g_, c_, he_, hi_⟩ => ⟨(b_, g_, c_), he_, trivial, hT.addImg hi_⟩) ?_
    rintro ⟨cb29, cg29, cc29⟩ -
    refine cont_norm [(2, .slice A n cap), (7, .pointer (pB b2)), (8, .pointer (pB b3)), (10, iq (n6 : Int)), (11, .slice (pB gb) n6 n6), (12, .slice (pB gf) n6 n6), (13, iq (i : Int)), (59, iq (i : Int)), (60, .bool true), (67, .bool false), (68, .pointer (pB b3)), (69, .pointer (pB cb29))] _ (by kernel_rfl) rfl ?_
    refine bS [0, 0] 8 0 [(2, .slice A n cap), (7, .pointer (pB b2)), (8, .pointer (pB b3)), (10, iq (n6 : Int)), (11, .slice (pB gb) n6 n6), (12, .slice (pB gf) n6 n6), (13, iq (i : Int)), (59, iq (i : Int)), (60, .bool true), (68, .pointer (pB b3)), (69, .pointer (pB cb29)), (70, .bool false), (71, .bool false)] ?_
    refine cont_done ?_
    refine then_normal ?_
    refine cont_false rfl ?_
    refine cont_skip ?_
    refine then_normal ?_
    refine cont_seq ?_
    refine cont_seq ?_
    refine cont_region 6 rfl ?_
    refine cont_sub 11 i n (fun i_ => rdE ((dget xs i_).A1) (dget xs i_).g1 (dget xs i_).o1 (dget xs i_).m1 4 (rvals (dget xs i_).x1)) rfl (by omega) rfl rfl ?_
    refine cont_norm [(2, .slice A n cap), (7, .pointer (pB b2)), (8, .pointer (pB b3)), (10, iq (n6 : Int)), (11, .slice (pB gb) n6 n6), (12, .slice (pB gf) n6 n6), (13, iq (i : Int)), (59, iq (i : Int)), (60, .bool true), (68, .pointer (pB b3)), (69, .pointer (pB cb29)), (70, .bool false), (71, .bool false)] _ (by kernel_rfl) rfl ?_
    generalize hel : dget xs i = el
    have helg := hge i (by omega)
    rw [hel] at helg
    refine bS [0, 0] 2 4 [(2, .slice A n cap), (7, .pointer (pB b2)), (8, .pointer (pB b3)), (10, iq (n6 : Int)), (11, .slice (pB gb) n6 n6), (12, .slice (pB gf) n6 n6), (13, iq (i : Int)), (59, iq (i : Int)), (60, .bool true), (68, .pointer (pB b3)), (69, .pointer (pB cb29)), (70, .bool false), (72, .slice A n cap), (73, iq (i : Int))] ?_
    refine pl_step 3 3 rfl rfl ?_
    refine cont_recast 72 (.slice A n cap) (.slice (some ⟨g, o, none⟩) n cap) rfl (by rw [hra (by omega)]) ?_
    refine sem_step 74 (Instr.indexAt 59 (.slice (some ⟨g, o, none⟩) n cap) (iq (i : Int))) (.pointer (some ⟨g, o + i * 7, none⟩)) (by kernel_rfl) (fun w hT => run_indexAt (e := 64) (sz := 7) _ (by kernel_rfl) (by kernel_rfl) (by omega) (by omega) (by omega) w) ?_
    refine bS [0] 4 2 [(2, .slice A n cap), (7, .pointer (pB b2)), (8, .pointer (pB b3)), (10, iq (n6 : Int)), (11, .slice (pB gb) n6 n6), (12, .slice (pB gf) n6 n6), (13, iq (i : Int)), (59, iq (i : Int)), (60, .bool true), (68, .pointer (pB b3)), (69, .pointer (pB cb29)), (70, .bool false), (75, .pointer (some ⟨g, o + i * 7, none⟩))] ?_
    refine pl_step 5 1 rfl rfl ?_
    refine sem_step 76 (Instr.loadAt 3 (.pointer (some ⟨g, o + i * 7, none⟩))) (iq el.x0) (by kernel_rfl) (fun w hT => run_load1 (by kernel_rfl) (Rd.dcell1 Deed18.size (hT.ok 11 _ rfl) (i := i) (by omega) 0 (by rw [hel]; rfl))) ?_
    refine bS [0] 6 0 [(2, .slice A n cap), (7, .pointer (pB b2)), (8, .pointer (pB b3)), (10, iq (n6 : Int)), (11, .slice (pB gb) n6 n6), (12, .slice (pB gf) n6 n6), (13, iq (i : Int)), (59, iq (i : Int)), (60, .bool true), (68, .pointer (pB b3)), (69, .pointer (pB cb29)), (70, .bool false), (77, .bool (el.x0 == 2))] ?_
    refine cont_done ?_
    refine then_normal ?_
    refine cont_split 77 (el.x0 == 2) rfl (fun c30_ => ?_) (fun c30_ => ?_)
    ·
     replace c30_ := eq_of_beqt c30_
     refine cont_true rfl ?_
     refine cont_seq ?_
     refine cont_region 2 rfl ?_
     refine bS [0] 1 1 [(2, .slice A n cap), (7, .pointer (pB b2)), (8, .pointer (pB b3)), (10, iq (n6 : Int)), (11, .slice (pB gb) n6 n6), (12, .slice (pB gf) n6 n6), (13, iq (i : Int)), (59, iq (i : Int)), (60, .bool true), (68, .pointer (pB b3)), (69, .pointer (pB cb29)), (70, .bool false), (78, .pointer (pB b3))] ?_
     refine pl_step 2 0 rfl rfl ?_
     refine call_gen (d := 79) (α := Unit) (fun _ => iq (fr + 1)) (fun _ => [.gen (rdE (el.A1) el.g1 el.o1 el.m1 4 (rvals el.x1)), .cells cb29 [iq W1q, iq H1q, .slice (pB cg29) n19 cc29] 115 true, .gen (rowE (pB cg29) cg29 n19 cc29 54 1 (ivals .u32 px1) true), .gen (rowE (pB gf) gf n6 n6 54 1 (ivals .u32 px1) true), .gen (rowE (pB gb) gb n6 n6 54 1 (ivals .u32 px0) true), .cells b3 [.pointer (pB m4), .pointer (pB m17), .slice none 0 0, .slice Ay ky cy, iq (fr + 1), iq w1, iq (fr + 1), iq 1] 98 true, .cells m4 [iq W1q, iq H1q, .slice (pB r5) n6 n6] 115 true, .gen (rowE (pB r5) r5 n6 n6 54 1 (ivals .u32 px0) true), .cells m17 [iq W1q, iq H1q, .slice (pB r18) n19 n19] 115 true, .gen (rowE (pB r18) r18 n19 n19 54 1 (ivals .u32 px1) true), .cells b2 [iq 0, iq 0, iq W1q, iq H1q] 28 true, .gen (rdE (A) g o n 7 (dvals Deed18.cells xs)), .gen (subE n (fun i_ => rdE ((dget xs i_).A1) (dget xs i_).g1 (dget xs i_).o1 (dget xs i_).m1 4 (rvals (dget xs i_).x1)))]) (fun _ => True) (by kernel_rfl) (fun w hT => (outFlip0 b3 m4 m17 Ax Ay kx cx ky cy w0 w1 fr w (hT.view (.cons (i := 5) rfl Vw.rw .nil) (by decide)) (by omega)).mono fun e w' ⟨he_, ht_⟩ => ⟨(), he_, trivial, hT.merge (N := []) (s := [5]) ht_ (.cons (i := 5) rfl Mg.cells .nil) (by decide) (fun i e h => by simp at h)⟩) (fun _ _ => ?_)
     refine cont_done ?_
     refine then_normal ?_
     refine cont_seq ?_
     refine cont_region 2 rfl ?_
     refine bS [0, 0] 2 0 [(2, .slice A n cap), (7, .pointer (pB b2)), (8, .pointer (pB b3)), (10, iq (n6 : Int)), (12, .slice (pB gf) n6 n6), (13, iq (i : Int)), (14, .slice (pB gb) n6 n6), (59, iq (i : Int)), (60, .bool true), (68, .pointer (pB b3)), (69, .pointer (pB cb29)), (70, .bool false)] ?_
     refine cont_done ?_
     refine then_normal ?_
     refine cont_seq ?_
     refine cont_region 2 rfl ?_
     refine bS [0, 0] 2 0 [(2, .slice A n cap), (7, .pointer (pB b2)), (8, .pointer (pB b3)), (10, iq (n6 : Int)), (11, .slice (pB gf) n6 n6), (13, iq (i : Int)), (14, .slice (pB gb) n6 n6), (59, iq (i : Int)), (60, .bool true), (68, .pointer (pB b3)), (69, .pointer (pB cb29)), (70, .bool false)] ?_
     refine cont_done ?_
     refine then_normal ?_
     refine cont_seq ?_
     refine cont_region 2 rfl ?_
     refine bS [0, 0] 2 0 [(2, .slice A n cap), (7, .pointer (pB b2)), (8, .pointer (pB b3)), (10, iq (n6 : Int)), (11, .slice (pB gf) n6 n6), (12, .slice (pB gb) n6 n6), (13, iq (i : Int)), (59, iq (i : Int)), (60, .bool true), (68, .pointer (pB b3)), (69, .pointer (pB cb29)), (70, .bool false)] ?_
     refine cont_done ?_
     refine then_normal ?_
     refine cont_exit ?_
     refine then_exit ?_
     refine blk_exit ?_
     refine then_normal ?_
     refine cont_region 3 rfl ?_
     refine bS [0, 0] 2 1 [(2, .slice A n cap), (7, .pointer (pB b2)), (8, .pointer (pB b3)), (10, iq (n6 : Int)), (11, .slice (pB gf) n6 n6), (12, .slice (pB gb) n6 n6), (59, iq (i : Int)), (60, .bool true), (63, iq (IntKind.i64.wrap ((i : Int) + 1))), (68, .pointer (pB b3)), (69, .pointer (pB cb29)), (70, .bool false)] ?_
     refine cont_recast 63 (iq (IntKind.i64.wrap ((i : Int) + 1))) (iq ((i : Int) + 1)) rfl (wrapI (by omega) (by omega)) ?_
     refine bS [0] 3 0 [(2, .slice A n cap), (7, .pointer (pB b2)), (8, .pointer (pB b3)), (10, iq (n6 : Int)), (11, .slice (pB gf) n6 n6), (12, .slice (pB gb) n6 n6), (13, iq ((i : Int) + 1)), (59, iq (i : Int)), (60, .bool true), (68, .pointer (pB b3)), (69, .pointer (pB cb29)), (70, .bool false)] ?_
     refine cont_done ?_
     refine then_normal ?_
     refine cont_pick [4, 3, 5, 6, 7, 8, 9, 10, 11, 12] [.gen (rowE (pB gb) gb n6 n6 54 1 (ivals .u32 px0) true), .gen (rowE (pB gf) gf n6 n6 54 1 (ivals .u32 px1) true), .cells b3 [.pointer (pB m4), .pointer (pB m17), .slice none 0 0, .slice Ay ky cy, iq (fr + 1), iq w1, iq (fr + 1), iq 1] 98 true, .cells m4 [iq W1q, iq H1q, .slice (pB r5) n6 n6] 115 true, .gen (rowE (pB r5) r5 n6 n6 54 1 (ivals .u32 px0) true), .cells m17 [iq W1q, iq H1q, .slice (pB r18) n19 n19] 115 true, .gen (rowE (pB r18) r18 n19 n19 54 1 (ivals .u32 px1) true), .cells b2 [iq 0, iq 0, iq W1q, iq H1q] 28 true, .gen (rdE (A) g o n 7 (dvals Deed18.cells xs)), .gen (subE n (fun i_ => rdE ((dget xs i_).A1) (dget xs i_).g1 (dget xs i_).o1 (dget xs i_).m1 4 (rvals (dget xs i_).x1)))] (by decide) rfl rfl ?_
     refine cont_norm [(2, .slice A n cap), (7, .pointer (pB b2)), (8, .pointer (pB b3)), (10, iq (n6 : Int)), (11, .slice (pB gf) n6 n6), (12, .slice (pB gb) n6 n6), (13, iq ((i : Int) + 1)), (59, iq (i : Int)), (60, .bool true), (68, .pointer (pB b3)), (69, .pointer (pB cb29)), (70, .bool false)] _ (by kernel_rfl) rfl ?_
     refine cont_again ((i + 1 : Nat), 1, fr + 1, w1, fr + 1, px0, px1, gf, gb, none, 0, 0, Ay, ky, cy) (show ((i + 1 : Nat)) ≤ 25 ∧ ((i + 1 : Nat)) ≤ n ∧ (1) ≤ 1 ∧ 0 ≤ (fr + 1) ∧ (fr + 1) ≤ (((i + 1 : Nat)) : Int) ∧ 0 ≤ (fr + 1) ∧ (fr + 1) ≤ (fr + 1) ∧ 0 ≤ (w1) ∧ (w1) ≤ (fr + 1) ∧ ImgOk W1q H1q n6 (px0) ∧ ImgOk W1q H1q n19 (px1) from ⟨by omega, by omega, by omega, by omega, by omega, by omega, by omega, by omega, by omega, hk0, hk1⟩) (show 40 - ((i + 1 : Nat)) < 40 - i from by omega) (by kernel_rfl) (by kernel_rfl)
    replace c30_ := ne_of_beqf c30_
    refine cont_false rfl ?_
    refine cont_skip ?_
    refine then_normal ?_
    refine cont_seq ?_
    refine cont_region 7 rfl ?_
    have h6_ : InC el.x6 := helg.w6
    have h6p_ := h6_
    obtain ⟨h60, h61⟩ := h6p_
    refine bS [0, 0] 2 5 [(2, .slice A n cap), (7, .pointer (pB b2)), (8, .pointer (pB b3)), (10, iq (n6 : Int)), (11, .slice (pB gb) n6 n6), (12, .slice (pB gf) n6 n6), (13, iq (i : Int)), (59, iq (i : Int)), (60, .bool true), (68, .pointer (pB b3)), (69, .pointer (pB cb29)), (70, .bool false), (83, .slice A n cap), (84, iq (i : Int))] ?_
    refine pl_step 3 4 rfl rfl ?_
    refine cont_recast 83 (.slice A n cap) (.slice (some ⟨g, o, none⟩) n cap) rfl (by rw [hra (by omega)]) ?_
    refine sem_step 85 (Instr.indexAt 59 (.slice (some ⟨g, o, none⟩) n cap) (iq (i : Int))) (.pointer (some ⟨g, o + i * 7, none⟩)) (by kernel_rfl) (fun w hT => run_indexAt (e := 64) (sz := 7) _ (by kernel_rfl) (by kernel_rfl) (by omega) (by omega) (by omega) w) ?_
    refine bS [0] 4 3 [(2, .slice A n cap), (7, .pointer (pB b2)), (8, .pointer (pB b3)), (10, iq (n6 : Int)), (11, .slice (pB gb) n6 n6), (12, .slice (pB gf) n6 n6), (13, iq (i : Int)), (59, iq (i : Int)), (60, .bool true), (68, .pointer (pB b3)), (69, .pointer (pB cb29)), (70, .bool false), (86, .pointer (some ⟨g, o + i * 7 + 6, none⟩))] ?_
    refine pl_step 5 2 rfl rfl ?_
    refine sem_step 87 (Instr.loadAt 54 (.pointer (some ⟨g, o + i * 7 + 6, none⟩))) (.int .u32 el.x6) (by kernel_rfl) (fun w hT => run_load1 (by kernel_rfl) (Rd.dcell1 Deed18.size (hT.ok 11 _ rfl) (i := i) (by omega) 6 (by rw [hel]; rfl))) ?_
    refine pl_step 6 1 rfl rfl ?_
    refine call_pure (d := 88) (.int .u32 (goodC el.x6)) (by kernel_rfl) (fun w hT => refGood3 el.x6 w (by omega) (by omega)) ?_
    refine bS [0] 7 0 [(2, .slice A n cap), (7, .pointer (pB b2)), (8, .pointer (pB b3)), (10, iq (n6 : Int)), (11, .slice (pB gb) n6 n6), (12, .slice (pB gf) n6 n6), (13, iq (i : Int)), (15, .int .u32 (goodC el.x6)), (59, iq (i : Int)), (60, .bool true), (68, .pointer (pB b3)), (69, .pointer (pB cb29)), (70, .bool false)] ?_
    refine cont_done ?_
    refine then_normal ?_
    refine cont_seq ?_
    refine cont_region 8 rfl ?_
    have h2r_ : R64 (⟨el.x2, el.x3, el.x4, el.x5⟩ : Rect) := ⟨helg.w2, helg.w3, helg.w4, helg.w5⟩
    obtain ⟨h20, h21⟩ := helg.w2
    obtain ⟨h30, h31⟩ := helg.w3
    obtain ⟨h40, h41⟩ := helg.w4
    obtain ⟨h50, h51⟩ := helg.w5
    refine bS [0, 0] 2 6 [(2, .slice A n cap), (7, .pointer (pB b2)), (8, .pointer (pB b3)), (10, iq (n6 : Int)), (11, .slice (pB gb) n6 n6), (12, .slice (pB gf) n6 n6), (13, iq (i : Int)), (15, .int .u32 (goodC el.x6)), (59, iq (i : Int)), (60, .bool true), (68, .pointer (pB b3)), (69, .pointer (pB cb29)), (70, .bool false), (89, .slice A n cap), (90, iq (i : Int))] ?_
    refine pl_step 3 5 rfl rfl ?_
    refine cont_recast 89 (.slice A n cap) (.slice (some ⟨g, o, none⟩) n cap) rfl (by rw [hra (by omega)]) ?_
    refine sem_step 91 (Instr.indexAt 59 (.slice (some ⟨g, o, none⟩) n cap) (iq (i : Int))) (.pointer (some ⟨g, o + i * 7, none⟩)) (by kernel_rfl) (fun w hT => run_indexAt (e := 64) (sz := 7) _ (by kernel_rfl) (by kernel_rfl) (by omega) (by omega) (by omega) w) ?_
    refine bS [0] 4 4 [(2, .slice A n cap), (7, .pointer (pB b2)), (8, .pointer (pB b3)), (10, iq (n6 : Int)), (11, .slice (pB gb) n6 n6), (12, .slice (pB gf) n6 n6), (13, iq (i : Int)), (15, .int .u32 (goodC el.x6)), (59, iq (i : Int)), (60, .bool true), (68, .pointer (pB b3)), (69, .pointer (pB cb29)), (70, .bool false), (92, .pointer (some ⟨g, o + i * 7 + 2, none⟩))] ?_
    refine pl_step 5 3 rfl rfl ?_
    refine sem_step 93 (Instr.loadAt 28 (.pointer (some ⟨g, o + i * 7 + 2, none⟩))) (.agg #[iq el.x2, iq el.x3, iq el.x4, iq el.x5]) (by kernel_rfl) (fun w hT => run_loadN (m := 4) (cs := [iq el.x2, iq el.x3, iq el.x4, iq el.x5]) (by kernel_rfl) (by kernel_rfl) rfl (by have h_ := Rd.dsub Deed18.size (hT.ok 11 _ rfl) (i := i) (by omega) 2 4 rfl; rw [hel] at h_; exact h_)) ?_
    refine pl_step 6 2 rfl rfl ?_
    refine call_pure (d := 94) (.agg #[iq ((smallR (⟨el.x2, el.x3, el.x4, el.x5⟩)).x0), iq ((smallR (⟨el.x2, el.x3, el.x4, el.x5⟩)).y0), iq ((smallR (⟨el.x2, el.x3, el.x4, el.x5⟩)).x1), iq ((smallR (⟨el.x2, el.x3, el.x4, el.x5⟩)).y1)]) (by kernel_rfl) (fun w hT => refSmallQ (⟨el.x2, el.x3, el.x4, el.x5⟩) w (by assumption)) ?_
    refine batch1 [0, 0] 8 0 (fun b31 => [(2, .slice A n cap), (7, .pointer (pB b2)), (8, .pointer (pB b3)), (10, iq (n6 : Int)), (11, .slice (pB gb) n6 n6), (12, .slice (pB gf) n6 n6), (13, iq (i : Int)), (15, .int .u32 (goodC el.x6)), (16, .pointer (pB b31)), (59, iq (i : Int)), (60, .bool true), (68, .pointer (pB b3)), (69, .pointer (pB cb29)), (70, .bool false)]) (fun b31 => [.cells b31 [iq ((smallR (⟨el.x2, el.x3, el.x4, el.x5⟩)).x0), iq ((smallR (⟨el.x2, el.x3, el.x4, el.x5⟩)).y0), iq ((smallR (⟨el.x2, el.x3, el.x4, el.x5⟩)).x1), iq ((smallR (⟨el.x2, el.x3, el.x4, el.x5⟩)).y1)] 28 true, .gen (rdE (el.A1) el.g1 el.o1 el.m1 4 (rvals el.x1)), .cells cb29 [iq W1q, iq H1q, .slice (pB cg29) n19 cc29] 115 true, .gen (rowE (pB cg29) cg29 n19 cc29 54 1 (ivals .u32 px1) true), .gen (rowE (pB gf) gf n6 n6 54 1 (ivals .u32 px1) true), .gen (rowE (pB gb) gb n6 n6 54 1 (ivals .u32 px0) true), .cells b3 [.pointer (pB m4), .pointer (pB m17), .slice Ax kx cx, .slice Ay ky cy, iq w0, iq w1, iq fr, iq 0] 98 true, .cells m4 [iq W1q, iq H1q, .slice (pB r5) n6 n6] 115 true, .gen (rowE (pB r5) r5 n6 n6 54 1 (ivals .u32 px0) true), .cells m17 [iq W1q, iq H1q, .slice (pB r18) n19 n19] 115 true, .gen (rowE (pB r18) r18 n19 n19 54 1 (ivals .u32 px1) true), .cells b2 [iq 0, iq 0, iq W1q, iq H1q] 28 true, .gen (rdE (A) g o n 7 (dvals Deed18.cells xs)), .gen (subE n (fun i_ => rdE ((dget xs i_).A1) (dget xs i_).g1 (dget xs i_).o1 (dget xs i_).m1 4 (rvals (dget xs i_).x1)))]) rfl rfl [2, 7, 8, 10, 11, 12, 13, 15, 16, 59, 60, 68, 69, 70] (fun _ => rfl) (fun b31 => by kernel_rfl) (fun b31 => by kernel_rfl) (fun b31 => ?_)
    refine cont_done ?_
    refine then_normal ?_
    refine cont_seq ?_
    refine drawn_enter 5 [8] rfl (by kernel_rfl) ?_
    refine takes 0 [8] [(0, 0), (2, 0), (3, 0)] 2 [3, 2, 0] [(2, .slice A n cap), (7, .pointer (pB b2)), (8, .pointer (pB b3)), (10, iq (n6 : Int)), (11, .slice (pB gb) n6 n6), (12, .slice (pB gf) n6 n6), (13, iq (i : Int)), (15, .int .u32 (goodC el.x6)), (16, .pointer (pB b31)), (59, iq (i : Int)), (60, .bool true), (68, .pointer (pB b3)), (69, .pointer (pB cb29)), (70, .bool false), (95, .pointer (pB b3)), (97, .agg #[iq ((smallR (⟨el.x2, el.x3, el.x4, el.x5⟩)).x0), iq ((smallR (⟨el.x2, el.x3, el.x4, el.x5⟩)).y0), iq ((smallR (⟨el.x2, el.x3, el.x4, el.x5⟩)).x1), iq ((smallR (⟨el.x2, el.x3, el.x4, el.x5⟩)).y1)]), (98, .int .u32 (goodC el.x6))] (by kernel_rfl) (pok_then (pok_blk (pok_then (pok_then (pok_blk (pok_then pok_body)))))) (by kernel_rfl) rfl rfl (by kernel_rfl) (by kernel_rfl) ?_
    refine drawn_one 1 1 rfl (by kernel_rfl) ?_
    refine call_pure (d := 96) (.pointer (pB m4)) (by kernel_rfl) (fun w hT => outBack0 b3 m4 m17 Ax Ay kx cx ky cy w0 w1 fr w (hT.viewRo (.cons (i := 6) rfl Vw.roc .nil) rfl)) ?_
    refine drawn_next 0 [8] (by kernel_rfl) ?_
    refine drawn_one 4 0 rfl (by kernel_rfl) ?_
    refine call_gen (d := 99) (α := Unit) (fun _ => iq (fillN W1q H1q ((smallR (⟨el.x2, el.x3, el.x4, el.x5⟩)).x0) ((smallR (⟨el.x2, el.x3, el.x4, el.x5⟩)).y0) ((smallR (⟨el.x2, el.x3, el.x4, el.x5⟩)).x1) ((smallR (⟨el.x2, el.x3, el.x4, el.x5⟩)).y1) (goodC el.x6))) (fun _ => [.cells b31 [iq ((smallR (⟨el.x2, el.x3, el.x4, el.x5⟩)).x0), iq ((smallR (⟨el.x2, el.x3, el.x4, el.x5⟩)).y0), iq ((smallR (⟨el.x2, el.x3, el.x4, el.x5⟩)).x1), iq ((smallR (⟨el.x2, el.x3, el.x4, el.x5⟩)).y1)] 28 true, .gen (rdE (el.A1) el.g1 el.o1 el.m1 4 (rvals el.x1)), .cells cb29 [iq W1q, iq H1q, .slice (pB cg29) n19 cc29] 115 true, .gen (rowE (pB cg29) cg29 n19 cc29 54 1 (ivals .u32 px1) true), .gen (rowE (pB gf) gf n6 n6 54 1 (ivals .u32 px1) true), .gen (rowE (pB gb) gb n6 n6 54 1 (ivals .u32 px0) true), .cells b3 [.pointer (pB m4), .pointer (pB m17), .slice Ax kx cx, .slice Ay ky cy, iq w0, iq w1, iq fr, iq 0] 98 true, .cells m4 [iq W1q, iq H1q, .slice (pB r5) n6 n6] 115 true, .gen (rowE (pB r5) r5 n6 n6 54 1 (ivals .u32 (fillA W1q H1q px0 ((smallR (⟨el.x2, el.x3, el.x4, el.x5⟩)).x0) ((smallR (⟨el.x2, el.x3, el.x4, el.x5⟩)).y0) ((smallR (⟨el.x2, el.x3, el.x4, el.x5⟩)).x1) ((smallR (⟨el.x2, el.x3, el.x4, el.x5⟩)).y1) (goodC el.x6))) true), .cells m17 [iq W1q, iq H1q, .slice (pB r18) n19 n19] 115 true, .gen (rowE (pB r18) r18 n19 n19 54 1 (ivals .u32 px1) true), .cells b2 [iq 0, iq 0, iq W1q, iq H1q] 28 true, .gen (rdE (A) g o n 7 (dvals Deed18.cells xs)), .gen (subE n (fun i_ => rdE ((dget xs i_).A1) (dget xs i_).g1 (dget xs i_).o1 (dget xs i_).m1 4 (rvals (dget xs i_).x1)))]) (fun _ => True) (by kernel_rfl) (fun w hT => (imgFill m4 W1q H1q r5 n6 n6 px0 ((smallR (⟨el.x2, el.x3, el.x4, el.x5⟩)).x0) ((smallR (⟨el.x2, el.x3, el.x4, el.x5⟩)).y0) ((smallR (⟨el.x2, el.x3, el.x4, el.x5⟩)).x1) ((smallR (⟨el.x2, el.x3, el.x4, el.x5⟩)).y1) (goodC el.x6) w ⟨hT.ok 7 _ rfl, hT.ok 8 _ rfl, fun hne => hT.disj 7 8 _ _ (by omega) rfl rfl (.inr rfl) _ rfl ⟨hne, by simp⟩⟩ hk0 (goodC_may _ h6_).2).mono fun e w' ⟨he_, hk_, hr_⟩ => ⟨(), he_, trivial, hT.keepBut hk_ (i := 8) rfl hr_⟩) (fun _ _ => ?_)
    refine drawn_next 0 [8] (by kernel_rfl) ?_
    refine drawn_done (by kernel_rfl) ?_
    refine then_normal ?_
    refine cont_seq ?_
    refine cont_region 1 rfl ?_
    refine bS [0] 1 0 [(2, .slice A n cap), (7, .pointer (pB b2)), (8, .pointer (pB b3)), (10, iq (n6 : Int)), (11, .slice (pB gb) n6 n6), (12, .slice (pB gf) n6 n6), (13, iq (i : Int)), (15, .int .u32 (goodC el.x6)), (16, .pointer (pB b31)), (17, iq 0), (59, iq (i : Int)), (60, .bool true), (68, .pointer (pB b3)), (69, .pointer (pB cb29)), (70, .bool false)] ?_
    refine cont_done ?_
    refine then_normal ?_
    refine cont_block ?_
    refine cont_rowEq (k := .u32) 8 (fillA W1q H1q px0 ((smallR (⟨el.x2, el.x3, el.x4, el.x5⟩)).x0) ((smallR (⟨el.x2, el.x3, el.x4, el.x5⟩)).y0) ((smallR (⟨el.x2, el.x3, el.x4, el.x5⟩)).x1) ((smallR (⟨el.x2, el.x3, el.x4, el.x5⟩)).y1) (goodC el.x6)) (fillP W1q px0 ((smallR (⟨el.x2, el.x3, el.x4, el.x5⟩)).x0) ((smallR (⟨el.x2, el.x3, el.x4, el.x5⟩)).y0) ((smallR (⟨el.x2, el.x3, el.x4, el.x5⟩)).x1) ((smallR (⟨el.x2, el.x3, el.x4, el.x5⟩)).y1) (goodC el.x6)) rfl (fillA_P hk0 _ _ _ _ (goodC_may _ h6_).1) ?_
    refine cont_rowEq (k := .u32) 5 (px0) (fillM W1q px0 ((smallR (⟨el.x2, el.x3, el.x4, el.x5⟩)).x0) ((smallR (⟨el.x2, el.x3, el.x4, el.x5⟩)).y0) ((smallR (⟨el.x2, el.x3, el.x4, el.x5⟩)).x1) ((smallR (⟨el.x2, el.x3, el.x4, el.x5⟩)).y1) (goodC el.x6) 0) rfl (fillM_zero _ _ _ _ _ _ _) ?_
    refine cont_loop (α := Nat) (fun x_ : Nat => x_ ≤ n6) (fun x_ : Nat => [(2, .slice A n cap), (7, .pointer (pB b2)), (8, .pointer (pB b3)), (10, iq (n6 : Int)), (11, .slice (pB gb) n6 n6), (12, .slice (pB gf) n6 n6), (13, iq (i : Int)), (15, .int .u32 (goodC el.x6)), (16, .pointer (pB b31)), (17, iq ((x_ : Nat) : Int)), (59, iq (i : Int)), (60, .bool true), (68, .pointer (pB b3)), (69, .pointer (pB cb29)), (70, .bool false)]) (fun x_ : Nat => [.cells b31 [iq ((smallR (⟨el.x2, el.x3, el.x4, el.x5⟩)).x0), iq ((smallR (⟨el.x2, el.x3, el.x4, el.x5⟩)).y0), iq ((smallR (⟨el.x2, el.x3, el.x4, el.x5⟩)).x1), iq ((smallR (⟨el.x2, el.x3, el.x4, el.x5⟩)).y1)] 28 true, .gen (rdE (el.A1) el.g1 el.o1 el.m1 4 (rvals el.x1)), .cells cb29 [iq W1q, iq H1q, .slice (pB cg29) n19 cc29] 115 true, .gen (rowE (pB cg29) cg29 n19 cc29 54 1 (ivals .u32 px1) true), .gen (rowE (pB gf) gf n6 n6 54 1 (ivals .u32 px1) true), .gen (rowE (pB gb) gb n6 n6 54 1 (ivals .u32 (fillM W1q px0 ((smallR (⟨el.x2, el.x3, el.x4, el.x5⟩)).x0) ((smallR (⟨el.x2, el.x3, el.x4, el.x5⟩)).y0) ((smallR (⟨el.x2, el.x3, el.x4, el.x5⟩)).x1) ((smallR (⟨el.x2, el.x3, el.x4, el.x5⟩)).y1) (goodC el.x6) x_)) true), .cells b3 [.pointer (pB m4), .pointer (pB m17), .slice Ax kx cx, .slice Ay ky cy, iq w0, iq w1, iq fr, iq 0] 98 true, .cells m4 [iq W1q, iq H1q, .slice (pB r5) n6 n6] 115 true, .gen (rowE (pB r5) r5 n6 n6 54 1 (ivals .u32 (fillP W1q px0 ((smallR (⟨el.x2, el.x3, el.x4, el.x5⟩)).x0) ((smallR (⟨el.x2, el.x3, el.x4, el.x5⟩)).y0) ((smallR (⟨el.x2, el.x3, el.x4, el.x5⟩)).x1) ((smallR (⟨el.x2, el.x3, el.x4, el.x5⟩)).y1) (goodC el.x6))) true), .cells m17 [iq W1q, iq H1q, .slice (pB r18) n19 n19] 115 true, .gen (rowE (pB r18) r18 n19 n19 54 1 (ivals .u32 px1) true), .cells b2 [iq 0, iq 0, iq W1q, iq H1q] 28 true, .gen (rdE (A) g o n 7 (dvals Deed18.cells xs)), .gen (subE n (fun i_ => rdE ((dget xs i_).A1) (dget xs i_).g1 (dget xs i_).o1 (dget xs i_).m1 4 (rvals (dget xs i_).x1)))]) (fun x_ : Nat => n6 - x_) 0 (by omega) (by kernel_rfl) (by kernel_rfl) ?_
    rintro k hinv32_
    replace hinv32_ : k ≤ n6 := hinv32_
    refine cont_norm [(2, .slice A n cap), (7, .pointer (pB b2)), (8, .pointer (pB b3)), (10, iq (n6 : Int)), (11, .slice (pB gb) n6 n6), (12, .slice (pB gf) n6 n6), (13, iq (i : Int)), (15, .int .u32 (goodC el.x6)), (16, .pointer (pB b31)), (17, iq ((k : Nat) : Int)), (59, iq (i : Int)), (60, .bool true), (68, .pointer (pB b3)), (69, .pointer (pB cb29)), (70, .bool false)] _ (by kernel_rfl) rfl ?_
    have hkk := hinv32_
    have hem := emod_range k (show 1 ≤ W1q by omega)
    refine cont_seq ?_
    refine cont_seq ?_
    refine cont_region 3 rfl ?_
    refine bS [0, 0, 0] 3 0 [(2, .slice A n cap), (7, .pointer (pB b2)), (8, .pointer (pB b3)), (10, iq (n6 : Int)), (11, .slice (pB gb) n6 n6), (12, .slice (pB gf) n6 n6), (13, iq (i : Int)), (15, .int .u32 (goodC el.x6)), (16, .pointer (pB b31)), (17, iq ((k : Nat) : Int)), (59, iq (i : Int)), (60, .bool true), (68, .pointer (pB b3)), (69, .pointer (pB cb29)), (70, .bool false), (102, .bool (decide (((k : Nat) : Int) < (n6 : Int))))] ?_
    refine cont_done ?_
    refine then_normal ?_
    refine cont_split 102 (decide (((k : Nat) : Int) < (n6 : Int))) rfl (fun c33_ => ?_) (fun c33_ => ?_)
    ·
     replace c33_ := of_decide_eq_true c33_
     refine cont_true rfl ?_
     refine cont_skip ?_
     refine then_normal ?_
     refine cont_seq ?_
     refine cont_block ?_
     refine cont_seq ?_
     refine drawn_enter 10 [] rfl (by kernel_rfl) ?_
     refine takes 0 [] [(0, 0), (1, 0), (2, 0), (5, 0), (6, 0), (3, 11), (7, 11)] 3 [7, 3, 6, 5, 2, 1, 0] [(2, .slice A n cap), (7, .pointer (pB b2)), (8, .pointer (pB b3)), (10, iq (n6 : Int)), (11, .slice (pB gb) n6 n6), (12, .slice (pB gf) n6 n6), (13, iq (i : Int)), (15, .int .u32 (goodC el.x6)), (16, .pointer (pB b31)), (17, iq ((k : Nat) : Int)), (59, iq (i : Int)), (60, .bool true), (68, .pointer (pB b3)), (69, .pointer (pB cb29)), (70, .bool false), (105, .agg #[iq ((smallR (⟨el.x2, el.x3, el.x4, el.x5⟩)).x0), iq ((smallR (⟨el.x2, el.x3, el.x4, el.x5⟩)).y0), iq ((smallR (⟨el.x2, el.x3, el.x4, el.x5⟩)).x1), iq ((smallR (⟨el.x2, el.x3, el.x4, el.x5⟩)).y1)]), (106, iq ((k : Nat) : Int)), (108, iq W1q), (110, iq ((k : Nat) : Int)), (112, iq W1q)] (by kernel_rfl) (pok_then (pok_blk (pok_then (pok_then (pok_blk (pok_blk (pok_then (pok_then (pok_blk (pok_then pok_body)))))))))) (by kernel_rfl) rfl rfl (by kernel_rfl) (by kernel_rfl) ?_
     refine sem_take 0 [] 4 2 109 (bopS .rem 3 (.tmp 106) (.tmp 108) (iq ((k : Nat) : Int)) (iq W1q)) (iq (((k : Nat) : Int).tmod W1q)) (by kernel_rfl) (pok_then (pok_blk (pok_then (pok_then (pok_blk (pok_blk (pok_then (pok_then (pok_blk (pok_then pok_body)))))))))) (by kernel_rfl) rfl (by kernel_rfl) (by kernel_rfl) (fun w hT => run_rem (by omega) w) ?_
     refine cont_recast 109 (iq (((k : Nat) : Int).tmod W1q)) (iq (((k : Nat) : Int) % W1q)) rfl (tmodI (by omega)) ?_
     refine sem_take 0 [] 8 1 113 (bopS .quo 3 (.tmp 110) (.tmp 112) (iq ((k : Nat) : Int)) (iq W1q)) (iq (IntKind.i64.wrap (((k : Nat) : Int).tdiv W1q))) (by kernel_rfl) (pok_then (pok_blk (pok_then (pok_then (pok_blk (pok_blk (pok_then (pok_then (pok_blk (pok_then pok_body)))))))))) (by kernel_rfl) rfl (by kernel_rfl) (by kernel_rfl) (fun w hT => run_quo (by omega) w) ?_
     refine cont_recast 113 (iq (IntKind.i64.wrap (((k : Nat) : Int).tdiv W1q))) (iq (((k : Nat) : Int) / W1q)) rfl (tdivI (by omega) (by omega) (by omega)) ?_
     refine drawn_one 9 0 rfl (by kernel_rfl) ?_
     refine call_pure (d := 114) (.bool (hasB ((smallR (⟨el.x2, el.x3, el.x4, el.x5⟩)).x0) ((smallR (⟨el.x2, el.x3, el.x4, el.x5⟩)).y0) ((smallR (⟨el.x2, el.x3, el.x4, el.x5⟩)).x1) ((smallR (⟨el.x2, el.x3, el.x4, el.x5⟩)).y1) (((k : Nat) : Int) % W1q) (((k : Nat) : Int) / W1q))) (by kernel_rfl) (fun w hT => refHas ((smallR (⟨el.x2, el.x3, el.x4, el.x5⟩)).x0) ((smallR (⟨el.x2, el.x3, el.x4, el.x5⟩)).y0) ((smallR (⟨el.x2, el.x3, el.x4, el.x5⟩)).x1) ((smallR (⟨el.x2, el.x3, el.x4, el.x5⟩)).y1) (((k : Nat) : Int) % W1q) (((k : Nat) : Int) / W1q) w) ?_
     refine drawn_next 0 [] (by kernel_rfl) ?_
     refine drawn_done (by kernel_rfl) ?_
     refine then_normal ?_
     refine cont_split 114 (hasB ((smallR (⟨el.x2, el.x3, el.x4, el.x5⟩)).x0) ((smallR (⟨el.x2, el.x3, el.x4, el.x5⟩)).y0) ((smallR (⟨el.x2, el.x3, el.x4, el.x5⟩)).x1) ((smallR (⟨el.x2, el.x3, el.x4, el.x5⟩)).y1) (((k : Nat) : Int) % W1q) (((k : Nat) : Int) / W1q)) rfl (fun c34_ => ?_) (fun c34_ => ?_)
     ·
      have hB_ := c34_
      refine cont_true rfl ?_
      refine cont_region 5 rfl ?_
      refine cont_fact (F := (0 < n6 → (pB gb : Option Addr) = pB gb) ∧ (fillM W1q px0 ((smallR (⟨el.x2, el.x3, el.x4, el.x5⟩)).x0) ((smallR (⟨el.x2, el.x3, el.x4, el.x5⟩)).y0) ((smallR (⟨el.x2, el.x3, el.x4, el.x5⟩)).x1) ((smallR (⟨el.x2, el.x3, el.x4, el.x5⟩)).y1) (goodC el.x6) k).length = n6 ∧ n6 ≤ n6 ∧ n6 ≤ maxLen) (fun w hT => Row.facts (hT.ok 5 _ rfl)) (fun hr35_ => ?_)
      obtain ⟨hr35_a, hr35_l, hr35_c, hr35_m⟩ := hr35_
      unfold maxLen at hr35_m
      refine bS [0, 0, 0] 3 2 [(2, .slice A n cap), (7, .pointer (pB b2)), (8, .pointer (pB b3)), (10, iq (n6 : Int)), (11, .slice (pB gb) n6 n6), (12, .slice (pB gf) n6 n6), (13, iq (i : Int)), (15, .int .u32 (goodC el.x6)), (16, .pointer (pB b31)), (17, iq ((k : Nat) : Int)), (59, iq (i : Int)), (60, .bool true), (68, .pointer (pB b3)), (69, .pointer (pB cb29)), (70, .bool false), (115, .slice (pB gb) n6 n6), (116, iq ((k : Nat) : Int)), (117, .int .u32 (goodC el.x6))] ?_
      refine pl_step 4 1 rfl rfl ?_
      refine sem_step 118 (Instr.indexAt 88 (.slice (pB gb) n6 n6) (iq ((k : Nat) : Int))) (.pointer (some ⟨gb, (k : Nat), none⟩)) (by kernel_rfl) (fun w hT => run_indexAt (e := 54) (sz := 1) _ (by kernel_rfl) (by kernel_rfl) (by omega) (by omega) (by omega) w) ?_
      refine pl_step 5 0 rfl rfl ?_
      refine sem_stepU (Instr.storeAt 54 (.pointer (some ⟨gb, (k : Nat), none⟩)) (.int .u32 (goodC el.x6))) (fun _ => [.cells b31 [iq ((smallR (⟨el.x2, el.x3, el.x4, el.x5⟩)).x0), iq ((smallR (⟨el.x2, el.x3, el.x4, el.x5⟩)).y0), iq ((smallR (⟨el.x2, el.x3, el.x4, el.x5⟩)).x1), iq ((smallR (⟨el.x2, el.x3, el.x4, el.x5⟩)).y1)] 28 true, .gen (rdE (el.A1) el.g1 el.o1 el.m1 4 (rvals el.x1)), .cells cb29 [iq W1q, iq H1q, .slice (pB cg29) n19 cc29] 115 true, .gen (rowE (pB cg29) cg29 n19 cc29 54 1 (ivals .u32 px1) true), .gen (rowE (pB gf) gf n6 n6 54 1 (ivals .u32 px1) true), .gen (rowE (pB gb) gb n6 n6 54 1 (ivals .u32 ((fillM W1q px0 ((smallR (⟨el.x2, el.x3, el.x4, el.x5⟩)).x0) ((smallR (⟨el.x2, el.x3, el.x4, el.x5⟩)).y0) ((smallR (⟨el.x2, el.x3, el.x4, el.x5⟩)).x1) ((smallR (⟨el.x2, el.x3, el.x4, el.x5⟩)).y1) (goodC el.x6) k).set (k : Nat) (goodC el.x6))) true), .cells b3 [.pointer (pB m4), .pointer (pB m17), .slice Ax kx cx, .slice Ay ky cy, iq w0, iq w1, iq fr, iq 0] 98 true, .cells m4 [iq W1q, iq H1q, .slice (pB r5) n6 n6] 115 true, .gen (rowE (pB r5) r5 n6 n6 54 1 (ivals .u32 (fillP W1q px0 ((smallR (⟨el.x2, el.x3, el.x4, el.x5⟩)).x0) ((smallR (⟨el.x2, el.x3, el.x4, el.x5⟩)).y0) ((smallR (⟨el.x2, el.x3, el.x4, el.x5⟩)).x1) ((smallR (⟨el.x2, el.x3, el.x4, el.x5⟩)).y1) (goodC el.x6))) true), .cells m17 [iq W1q, iq H1q, .slice (pB r18) n19 n19] 115 true, .gen (rowE (pB r18) r18 n19 n19 54 1 (ivals .u32 px1) true), .cells b2 [iq 0, iq 0, iq W1q, iq H1q] 28 true, .gen (rdE (A) g o n 7 (dvals Deed18.cells xs)), .gen (subE n (fun i_ => rdE ((dget xs i_).A1) (dget xs i_).g1 (dget xs i_).o1 (dget xs i_).m1 4 (rvals (dget xs i_).x1)))]) (fun _ => True) (by kernel_rfl) (fun w hT => store_row hT (i := 5) rfl (by kernel_rfl) (by omega)) (fun _ _ => ?_)
      refine cont_done ?_
      refine blk_normal ?_
      refine then_normal ?_
      refine cont_region 3 rfl ?_
      refine bS [0, 0] 2 1 [(2, .slice A n cap), (7, .pointer (pB b2)), (8, .pointer (pB b3)), (10, iq (n6 : Int)), (11, .slice (pB gb) n6 n6), (12, .slice (pB gf) n6 n6), (13, iq (i : Int)), (15, .int .u32 (goodC el.x6)), (16, .pointer (pB b31)), (59, iq (i : Int)), (60, .bool true), (68, .pointer (pB b3)), (69, .pointer (pB cb29)), (70, .bool false), (104, iq (IntKind.i64.wrap (((k : Nat) : Int) + 1)))] ?_
      refine cont_recast 104 (iq (IntKind.i64.wrap (((k : Nat) : Int) + 1))) (iq (((k : Nat) : Int) + 1)) rfl (wrapI (by omega) (by omega)) ?_
      refine bS [0] 3 0 [(2, .slice A n cap), (7, .pointer (pB b2)), (8, .pointer (pB b3)), (10, iq (n6 : Int)), (11, .slice (pB gb) n6 n6), (12, .slice (pB gf) n6 n6), (13, iq (i : Int)), (15, .int .u32 (goodC el.x6)), (16, .pointer (pB b31)), (17, iq (((k : Nat) : Int) + 1)), (59, iq (i : Int)), (60, .bool true), (68, .pointer (pB b3)), (69, .pointer (pB cb29)), (70, .bool false)] ?_
      refine cont_done ?_
      refine then_normal ?_
      refine cont_rowEq (k := .u32) 5 ((fillM W1q px0 ((smallR (⟨el.x2, el.x3, el.x4, el.x5⟩)).x0) ((smallR (⟨el.x2, el.x3, el.x4, el.x5⟩)).y0) ((smallR (⟨el.x2, el.x3, el.x4, el.x5⟩)).x1) ((smallR (⟨el.x2, el.x3, el.x4, el.x5⟩)).y1) (goodC el.x6) k).set (k : Nat) (goodC el.x6)) (fillM W1q px0 ((smallR (⟨el.x2, el.x3, el.x4, el.x5⟩)).x0) ((smallR (⟨el.x2, el.x3, el.x4, el.x5⟩)).y0) ((smallR (⟨el.x2, el.x3, el.x4, el.x5⟩)).x1) ((smallR (⟨el.x2, el.x3, el.x4, el.x5⟩)).y1) (goodC el.x6) (k + 1)) rfl (fillM_yes hB_) ?_
      refine cont_again (k + 1) (show (k + 1) ≤ n6 from (by omega)) (show n6 - (k + 1) < n6 - k from by omega) (by kernel_rfl) (by kernel_rfl)
     have hB_ := c34_
     refine cont_false rfl ?_
     refine cont_skip ?_
     refine blk_normal ?_
     refine then_normal ?_
     refine cont_region 3 rfl ?_
     refine bS [0, 0] 2 1 [(2, .slice A n cap), (7, .pointer (pB b2)), (8, .pointer (pB b3)), (10, iq (n6 : Int)), (11, .slice (pB gb) n6 n6), (12, .slice (pB gf) n6 n6), (13, iq (i : Int)), (15, .int .u32 (goodC el.x6)), (16, .pointer (pB b31)), (59, iq (i : Int)), (60, .bool true), (68, .pointer (pB b3)), (69, .pointer (pB cb29)), (70, .bool false), (104, iq (IntKind.i64.wrap (((k : Nat) : Int) + 1)))] ?_
     refine cont_recast 104 (iq (IntKind.i64.wrap (((k : Nat) : Int) + 1))) (iq (((k : Nat) : Int) + 1)) rfl (wrapI (by omega) (by omega)) ?_
     refine bS [0] 3 0 [(2, .slice A n cap), (7, .pointer (pB b2)), (8, .pointer (pB b3)), (10, iq (n6 : Int)), (11, .slice (pB gb) n6 n6), (12, .slice (pB gf) n6 n6), (13, iq (i : Int)), (15, .int .u32 (goodC el.x6)), (16, .pointer (pB b31)), (17, iq (((k : Nat) : Int) + 1)), (59, iq (i : Int)), (60, .bool true), (68, .pointer (pB b3)), (69, .pointer (pB cb29)), (70, .bool false)] ?_
     refine cont_done ?_
     refine then_normal ?_
     refine cont_rowEq (k := .u32) 5 (fillM W1q px0 ((smallR (⟨el.x2, el.x3, el.x4, el.x5⟩)).x0) ((smallR (⟨el.x2, el.x3, el.x4, el.x5⟩)).y0) ((smallR (⟨el.x2, el.x3, el.x4, el.x5⟩)).x1) ((smallR (⟨el.x2, el.x3, el.x4, el.x5⟩)).y1) (goodC el.x6) k) (fillM W1q px0 ((smallR (⟨el.x2, el.x3, el.x4, el.x5⟩)).x0) ((smallR (⟨el.x2, el.x3, el.x4, el.x5⟩)).y0) ((smallR (⟨el.x2, el.x3, el.x4, el.x5⟩)).x1) ((smallR (⟨el.x2, el.x3, el.x4, el.x5⟩)).y1) (goodC el.x6) (k + 1)) rfl (fillM_no hB_) ?_
     refine cont_again (k + 1) (show (k + 1) ≤ n6 from (by omega)) (show n6 - (k + 1) < n6 - k from by omega) (by kernel_rfl) (by kernel_rfl)
    replace c33_ := of_decide_eq_false c33_
    refine cont_false rfl ?_
    refine cont_exit ?_
    refine then_exit ?_
    refine then_exit ?_
    refine blk_exit ?_
    refine blk_normal ?_
    refine then_normal ?_
    refine cont_region 3 rfl ?_
    have hkn_ := hk0.len
    have hkm_ := hk0.num
    refine cont_rowEq (k := .u32) 5 (fillM W1q px0 ((smallR (⟨el.x2, el.x3, el.x4, el.x5⟩)).x0) ((smallR (⟨el.x2, el.x3, el.x4, el.x5⟩)).y0) ((smallR (⟨el.x2, el.x3, el.x4, el.x5⟩)).x1) ((smallR (⟨el.x2, el.x3, el.x4, el.x5⟩)).y1) (goodC el.x6) k) (fillP W1q px0 ((smallR (⟨el.x2, el.x3, el.x4, el.x5⟩)).x0) ((smallR (⟨el.x2, el.x3, el.x4, el.x5⟩)).y0) ((smallR (⟨el.x2, el.x3, el.x4, el.x5⟩)).x1) ((smallR (⟨el.x2, el.x3, el.x4, el.x5⟩)).y1) (goodC el.x6)) rfl (fillM_full _ _ _ _ _ (by omega)) ?_
    refine bS [0, 0] 2 1 [(2, .slice A n cap), (7, .pointer (pB b2)), (8, .pointer (pB b3)), (10, iq (n6 : Int)), (11, .slice (pB gb) n6 n6), (12, .slice (pB gf) n6 n6), (59, iq (i : Int)), (60, .bool true), (63, iq (IntKind.i64.wrap ((i : Int) + 1))), (68, .pointer (pB b3)), (69, .pointer (pB cb29)), (70, .bool false)] ?_
    refine cont_recast 63 (iq (IntKind.i64.wrap ((i : Int) + 1))) (iq ((i : Int) + 1)) rfl (wrapI (by omega) (by omega)) ?_
    refine cont_forget 0 rfl ?_
    refine bS [0] 3 0 [(2, .slice A n cap), (7, .pointer (pB b2)), (8, .pointer (pB b3)), (10, iq (n6 : Int)), (11, .slice (pB gb) n6 n6), (12, .slice (pB gf) n6 n6), (13, iq ((i : Int) + 1)), (59, iq (i : Int)), (60, .bool true), (68, .pointer (pB b3)), (69, .pointer (pB cb29)), (70, .bool false)] ?_
    refine cont_done ?_
    refine then_normal ?_
    refine cont_pick [3, 4, 5, 6, 7, 8, 9, 10, 11, 12] [.gen (rowE (pB gf) gf n6 n6 54 1 (ivals .u32 px1) true), .gen (rowE (pB gb) gb n6 n6 54 1 (ivals .u32 (fillP W1q px0 ((smallR (⟨el.x2, el.x3, el.x4, el.x5⟩)).x0) ((smallR (⟨el.x2, el.x3, el.x4, el.x5⟩)).y0) ((smallR (⟨el.x2, el.x3, el.x4, el.x5⟩)).x1) ((smallR (⟨el.x2, el.x3, el.x4, el.x5⟩)).y1) (goodC el.x6))) true), .cells b3 [.pointer (pB m4), .pointer (pB m17), .slice Ax kx cx, .slice Ay ky cy, iq w0, iq w1, iq fr, iq 0] 98 true, .cells m4 [iq W1q, iq H1q, .slice (pB r5) n6 n6] 115 true, .gen (rowE (pB r5) r5 n6 n6 54 1 (ivals .u32 (fillP W1q px0 ((smallR (⟨el.x2, el.x3, el.x4, el.x5⟩)).x0) ((smallR (⟨el.x2, el.x3, el.x4, el.x5⟩)).y0) ((smallR (⟨el.x2, el.x3, el.x4, el.x5⟩)).x1) ((smallR (⟨el.x2, el.x3, el.x4, el.x5⟩)).y1) (goodC el.x6))) true), .cells m17 [iq W1q, iq H1q, .slice (pB r18) n19 n19] 115 true, .gen (rowE (pB r18) r18 n19 n19 54 1 (ivals .u32 px1) true), .cells b2 [iq 0, iq 0, iq W1q, iq H1q] 28 true, .gen (rdE (A) g o n 7 (dvals Deed18.cells xs)), .gen (subE n (fun i_ => rdE ((dget xs i_).A1) (dget xs i_).g1 (dget xs i_).o1 (dget xs i_).m1 4 (rvals (dget xs i_).x1)))] (by decide) rfl rfl ?_
    refine cont_norm [(2, .slice A n cap), (7, .pointer (pB b2)), (8, .pointer (pB b3)), (10, iq (n6 : Int)), (11, .slice (pB gb) n6 n6), (12, .slice (pB gf) n6 n6), (13, iq ((i : Int) + 1)), (59, iq (i : Int)), (60, .bool true), (68, .pointer (pB b3)), (69, .pointer (pB cb29)), (70, .bool false)] _ (by kernel_rfl) rfl ?_
    refine cont_again ((i + 1 : Nat), 0, w0, w1, fr, fillP W1q px0 ((smallR (⟨el.x2, el.x3, el.x4, el.x5⟩)).x0) ((smallR (⟨el.x2, el.x3, el.x4, el.x5⟩)).y0) ((smallR (⟨el.x2, el.x3, el.x4, el.x5⟩)).x1) ((smallR (⟨el.x2, el.x3, el.x4, el.x5⟩)).y1) (goodC el.x6), px1, gb, gf, Ax, kx, cx, Ay, ky, cy) (show ((i + 1 : Nat)) ≤ 25 ∧ ((i + 1 : Nat)) ≤ n ∧ (0) ≤ 1 ∧ 0 ≤ (fr) ∧ (fr) ≤ (((i + 1 : Nat)) : Int) ∧ 0 ≤ (w0) ∧ (w0) ≤ (fr) ∧ 0 ≤ (w1) ∧ (w1) ≤ (fr) ∧ ImgOk W1q H1q n6 (fillP W1q px0 ((smallR (⟨el.x2, el.x3, el.x4, el.x5⟩)).x0) ((smallR (⟨el.x2, el.x3, el.x4, el.x5⟩)).y0) ((smallR (⟨el.x2, el.x3, el.x4, el.x5⟩)).x1) ((smallR (⟨el.x2, el.x3, el.x4, el.x5⟩)).y1) (goodC el.x6)) ∧ ImgOk W1q H1q n19 (px1) from ⟨by omega, by omega, by omega, by omega, by omega, by omega, by omega, by omega, by omega, (hk0.fill _ _ _ _ (goodC_may _ h6_).2), hk1⟩) (show 40 - ((i + 1 : Nat)) < 40 - i from by omega) (by kernel_rfl) (by kernel_rfl)
   refine cont_recast 60 (.bool (decide ((i : Int) < 25))) (.bool false) rfl (congrArg Value.bool c28_) ?_
   replace c28_ := of_decide_eq_false c28_
   refine cont_false rfl ?_
   refine cont_exit ?_
   refine then_exit ?_
   refine then_exit ?_
   refine blk_exit ?_
   refine then_normal ?_
   refine cont_seq ?_
   refine cont_region 3 rfl ?_
   refine bS [0] 1 2 [(7, .pointer (pB b2)), (8, .pointer (pB b3)), (10, iq (n6 : Int)), (11, .slice (pB gb) n6 n6), (12, .slice (pB gf) n6 n6), (119, .pointer (pB b3))] ?_
   refine pl_step 2 1 rfl rfl ?_
   refine call_pure (d := 120) (.pointer (pB m4)) (by kernel_rfl) (fun w hT => outBack0 b3 m4 m17 Ax Ay kx cx ky cy w0 w1 fr w (hT.viewRo (.cons (i := 2) rfl Vw.roc .nil) rfl)) ?_
   refine bS [0] 3 0 [(7, .pointer (pB b2)), (8, .pointer (pB b3)), (10, iq (n6 : Int)), (11, .slice (pB gb) n6 n6), (12, .slice (pB gf) n6 n6), (18, .pointer (pB m4))] ?_
   refine cont_done ?_
   refine then_normal ?_
   refine cont_seq ?_
   refine cont_region 3 rfl ?_
   refine bS [0] 1 2 [(7, .pointer (pB b2)), (8, .pointer (pB b3)), (10, iq (n6 : Int)), (11, .slice (pB gb) n6 n6), (12, .slice (pB gf) n6 n6), (18, .pointer (pB m4)), (121, .pointer (pB b3))] ?_
   refine pl_step 2 1 rfl rfl ?_
   refine call_gen (d := 122) (α := Nat × Nat × Nat) (fun x_ => .pointer (pB x_.1)) (fun x_ => [.cells x_.1 [iq W1q, iq H1q, .slice (pB x_.2.1) n19 x_.2.2] 115 true, .gen (rowE (pB x_.2.1) x_.2.1 n19 x_.2.2 54 1 (ivals .u32 px1) true), .gen (rowE (pB gf) gf n6 n6 54 1 (ivals .u32 px1) true), .gen (rowE (pB gb) gb n6 n6 54 1 (ivals .u32 px0) true), .cells b3 [.pointer (pB m4), .pointer (pB m17), .slice Ax kx cx, .slice Ay ky cy, iq w0, iq w1, iq fr, iq 0] 98 true, .cells m4 [iq W1q, iq H1q, .slice (pB r5) n6 n6] 115 true, .gen (rowE (pB r5) r5 n6 n6 54 1 (ivals .u32 px0) true), .cells m17 [iq W1q, iq H1q, .slice (pB r18) n19 n19] 115 true, .gen (rowE (pB r18) r18 n19 n19 54 1 (ivals .u32 px1) true), .cells b2 [iq 0, iq 0, iq W1q, iq H1q] 28 true, .gen (rdE (A) g o n 7 (dvals Deed18.cells xs)), .gen (subE n (fun i_ => rdE ((dget xs i_).A1) (dget xs i_).g1 (dget xs i_).o1 (dget xs i_).m1 4 (rvals (dget xs i_).x1)))]) (fun _ => True) (by kernel_rfl) (fun w hT => (outFront0 b3 m17 m4 Ax Ay kx cx ky cy w0 w1 fr W1q H1q r18 n19 n19 px1 w (hT.view (.cons (i := 2) rfl Vw.roc (.cons (i := 5) rfl Vw.roc (.cons (i := 6) rfl Vw.rowRd .nil))) (by decide)) (Row.capLe (hT.ok 6 _ rfl)) hk1).mono fun e w' ⟨b_, g_, c_, he_, hi_⟩ => ⟨(b_, g_, c_), he_, trivial, hT.addImg hi_⟩) ?_
   rintro ⟨cb36, cg36, cc36⟩ -
   refine cont_norm [(7, .pointer (pB b2)), (8, .pointer (pB b3)), (10, iq (n6 : Int)), (11, .slice (pB gb) n6 n6), (12, .slice (pB gf) n6 n6), (18, .pointer (pB m4)), (121, .pointer (pB b3)), (122, .pointer (pB cb36))] _ (by kernel_rfl) rfl ?_
   refine bS [0] 3 0 [(7, .pointer (pB b2)), (8, .pointer (pB b3)), (10, iq (n6 : Int)), (11, .slice (pB gb) n6 n6), (12, .slice (pB gf) n6 n6), (18, .pointer (pB m4)), (19, .pointer (pB cb36))] ?_
   refine cont_done ?_
   refine then_normal ?_
   refine cont_seq ?_
   refine cont_seq ?_
   refine cont_region 6 rfl ?_
   refine bS [0, 0, 0, 0, 0, 0] 6 0 [(7, .pointer (pB b2)), (8, .pointer (pB b3)), (10, iq (n6 : Int)), (11, .slice (pB gb) n6 n6), (12, .slice (pB gf) n6 n6), (18, .pointer (pB m4)), (19, .pointer (pB cb36)), (128, .bool false)] ?_
   refine cont_done ?_
   refine then_normal ?_
   refine cont_false rfl ?_
   refine cont_skip ?_
   refine then_normal ?_
   refine cont_seq ?_
   refine cont_seq ?_
   refine cont_region 1 rfl ?_
   refine bS [0] 1 0 [(7, .pointer (pB b2)), (8, .pointer (pB b3)), (10, iq (n6 : Int)), (11, .slice (pB gb) n6 n6), (12, .slice (pB gf) n6 n6), (18, .pointer (pB m4)), (19, .pointer (pB cb36)), (20, iq 0)] ?_
   refine cont_done ?_
   refine then_normal ?_
   refine cont_block ?_
   refine cont_loop (α := Nat) (fun x_ : Nat => x_ ≤ n6) (fun x_ : Nat => [(7, .pointer (pB b2)), (8, .pointer (pB b3)), (10, iq (n6 : Int)), (11, .slice (pB gb) n6 n6), (12, .slice (pB gf) n6 n6), (18, .pointer (pB m4)), (19, .pointer (pB cb36)), (20, iq ((x_ : Nat) : Int))]) (fun x_ : Nat => [.cells cb36 [iq W1q, iq H1q, .slice (pB cg36) n19 cc36] 115 true, .gen (rowE (pB cg36) cg36 n19 cc36 54 1 (ivals .u32 px1) true), .gen (rowE (pB gf) gf n6 n6 54 1 (ivals .u32 px1) true), .gen (rowE (pB gb) gb n6 n6 54 1 (ivals .u32 px0) true), .cells b3 [.pointer (pB m4), .pointer (pB m17), .slice Ax kx cx, .slice Ay ky cy, iq w0, iq w1, iq fr, iq 0] 98 true, .cells m4 [iq W1q, iq H1q, .slice (pB r5) n6 n6] 115 true, .gen (rowE (pB r5) r5 n6 n6 54 1 (ivals .u32 px0) true), .cells m17 [iq W1q, iq H1q, .slice (pB r18) n19 n19] 115 true, .gen (rowE (pB r18) r18 n19 n19 54 1 (ivals .u32 px1) true), .cells b2 [iq 0, iq 0, iq W1q, iq H1q] 28 true, .gen (rdE (A) g o n 7 (dvals Deed18.cells xs)), .gen (subE n (fun i_ => rdE ((dget xs i_).A1) (dget xs i_).g1 (dget xs i_).o1 (dget xs i_).m1 4 (rvals (dget xs i_).x1)))]) (fun x_ : Nat => n6 - x_) 0 (by omega) (by kernel_rfl) (by kernel_rfl) ?_
   rintro k hinv37_
   replace hinv37_ : k ≤ n6 := hinv37_
   refine cont_norm [(7, .pointer (pB b2)), (8, .pointer (pB b3)), (10, iq (n6 : Int)), (11, .slice (pB gb) n6 n6), (12, .slice (pB gf) n6 n6), (18, .pointer (pB m4)), (19, .pointer (pB cb36)), (20, iq ((k : Nat) : Int))] _ (by kernel_rfl) rfl ?_
   have hkk := hinv37_
   have hem := emod_range k (show 1 ≤ W1q by omega)
   refine cont_seq ?_
   refine cont_seq ?_
   refine cont_region 3 rfl ?_
   refine bS [0, 0, 0] 3 0 [(7, .pointer (pB b2)), (8, .pointer (pB b3)), (10, iq (n6 : Int)), (11, .slice (pB gb) n6 n6), (12, .slice (pB gf) n6 n6), (18, .pointer (pB m4)), (19, .pointer (pB cb36)), (20, iq ((k : Nat) : Int)), (131, .bool (decide (((k : Nat) : Int) < (n6 : Int))))] ?_
   refine cont_done ?_
   refine then_normal ?_
   refine cont_split 131 (decide (((k : Nat) : Int) < (n6 : Int))) rfl (fun c38_ => ?_) (fun c38_ => ?_)
   ·
    replace c38_ := of_decide_eq_true c38_
    refine cont_true rfl ?_
    refine cont_skip ?_
    refine then_normal ?_
    refine cont_seq ?_
    refine cont_block ?_
    refine cont_seq ?_
    refine drawn_enter 15 [] rfl (by kernel_rfl) ?_
    refine takes 0 [] [(0, 0), (1, 0), (2, 0), (5, 0), (6, 0), (3, 9), (7, 9)] 8 [7, 3, 6, 5, 2, 1, 0] [(7, .pointer (pB b2)), (8, .pointer (pB b3)), (10, iq (n6 : Int)), (11, .slice (pB gb) n6 n6), (12, .slice (pB gf) n6 n6), (18, .pointer (pB m4)), (19, .pointer (pB cb36)), (20, iq ((k : Nat) : Int)), (135, .pointer (pB m4)), (136, iq ((k : Nat) : Int)), (138, iq W1q), (140, iq ((k : Nat) : Int)), (142, iq W1q)] (by kernel_rfl) (pok_then (pok_blk (pok_then (pok_then (pok_blk (pok_then pok_body)))))) (by kernel_rfl) rfl rfl (by kernel_rfl) (by kernel_rfl) ?_
    refine sem_take 0 [] 4 7 139 (bopS .rem 3 (.tmp 136) (.tmp 138) (iq ((k : Nat) : Int)) (iq W1q)) (iq (((k : Nat) : Int).tmod W1q)) (by kernel_rfl) (pok_then (pok_blk (pok_then (pok_then (pok_blk (pok_then pok_body)))))) (by kernel_rfl) rfl (by kernel_rfl) (by kernel_rfl) (fun w hT => run_rem (by omega) w) ?_
    refine cont_recast 139 (iq (((k : Nat) : Int).tmod W1q)) (iq (((k : Nat) : Int) % W1q)) rfl (tmodI (by omega)) ?_
    refine sem_take 0 [] 8 6 143 (bopS .quo 3 (.tmp 140) (.tmp 142) (iq ((k : Nat) : Int)) (iq W1q)) (iq (IntKind.i64.wrap (((k : Nat) : Int).tdiv W1q))) (by kernel_rfl) (pok_then (pok_blk (pok_then (pok_then (pok_blk (pok_then pok_body)))))) (by kernel_rfl) rfl (by kernel_rfl) (by kernel_rfl) (fun w hT => run_quo (by omega) w) ?_
    refine cont_recast 143 (iq (IntKind.i64.wrap (((k : Nat) : Int).tdiv W1q))) (iq (((k : Nat) : Int) / W1q)) rfl (tdivI (by omega) (by omega) (by omega)) ?_
    refine drawn_one 9 5 rfl (by kernel_rfl) ?_
    refine call_pure (d := 144) (.tuple #[.int .u32 (atC W1q H1q px0 (((k : Nat) : Int) % W1q) (((k : Nat) : Int) / W1q)), .bool (hasB 0 0 W1q H1q (((k : Nat) : Int) % W1q) (((k : Nat) : Int) / W1q))]) (by kernel_rfl) (fun w hT => imgAt m4 W1q H1q r5 n6 n6 px0 (((k : Nat) : Int) % W1q) (((k : Nat) : Int) / W1q) w ⟨hT.ok 5 _ rfl, Row.rd (hT.ok 6 _ rfl), Row.capLe (hT.ok 6 _ rfl)⟩ hk0) ?_
    refine drawn_next 0 [] (by kernel_rfl) ?_
    refine takes 0 [] [(10, 0), (11, 0), (12, 0), (13, 0), (14, 0)] 0 [14, 13, 12, 11, 10, 9, 8, 4, 7, 3, 6, 5, 2, 1, 0] [(7, .pointer (pB b2)), (8, .pointer (pB b3)), (10, iq (n6 : Int)), (11, .slice (pB gb) n6 n6), (12, .slice (pB gf) n6 n6), (18, .pointer (pB m4)), (19, .pointer (pB cb36)), (20, iq ((k : Nat) : Int)), (21, .int .u32 (atC W1q H1q px0 (((k : Nat) : Int) % W1q) (((k : Nat) : Int) / W1q))), (22, .bool (hasB 0 0 W1q H1q (((k : Nat) : Int) % W1q) (((k : Nat) : Int) / W1q)))] (by kernel_rfl) (pok_then (pok_blk (pok_then (pok_then (pok_blk (pok_then pok_body)))))) (by kernel_rfl) rfl rfl (by kernel_rfl) (by kernel_rfl) ?_
    refine drawn_done (by kernel_rfl) ?_
    refine then_normal ?_
    refine cont_seq ?_
    refine drawn_enter 15 [] rfl (by kernel_rfl) ?_
    refine takes 0 [] [(0, 0), (1, 0), (2, 0), (5, 0), (6, 0), (3, 9), (7, 9)] 8 [7, 3, 6, 5, 2, 1, 0] [(7, .pointer (pB b2)), (8, .pointer (pB b3)), (10, iq (n6 : Int)), (11, .slice (pB gb) n6 n6), (12, .slice (pB gf) n6 n6), (18, .pointer (pB m4)), (19, .pointer (pB cb36)), (20, iq ((k : Nat) : Int)), (21, .int .u32 (atC W1q H1q px0 (((k : Nat) : Int) % W1q) (((k : Nat) : Int) / W1q))), (22, .bool (hasB 0 0 W1q H1q (((k : Nat) : Int) % W1q) (((k : Nat) : Int) / W1q))), (148, .pointer (pB cb36)), (149, iq ((k : Nat) : Int)), (151, iq W1q), (153, iq ((k : Nat) : Int)), (155, iq W1q)] (by kernel_rfl) (pok_then (pok_blk (pok_then (pok_then (pok_blk (pok_then pok_body)))))) (by kernel_rfl) rfl rfl (by kernel_rfl) (by kernel_rfl) ?_
    refine sem_take 0 [] 4 7 152 (bopS .rem 3 (.tmp 149) (.tmp 151) (iq ((k : Nat) : Int)) (iq W1q)) (iq (((k : Nat) : Int).tmod W1q)) (by kernel_rfl) (pok_then (pok_blk (pok_then (pok_then (pok_blk (pok_then pok_body)))))) (by kernel_rfl) rfl (by kernel_rfl) (by kernel_rfl) (fun w hT => run_rem (by omega) w) ?_
    refine cont_recast 152 (iq (((k : Nat) : Int).tmod W1q)) (iq (((k : Nat) : Int) % W1q)) rfl (tmodI (by omega)) ?_
    refine sem_take 0 [] 8 6 156 (bopS .quo 3 (.tmp 153) (.tmp 155) (iq ((k : Nat) : Int)) (iq W1q)) (iq (IntKind.i64.wrap (((k : Nat) : Int).tdiv W1q))) (by kernel_rfl) (pok_then (pok_blk (pok_then (pok_then (pok_blk (pok_then pok_body)))))) (by kernel_rfl) rfl (by kernel_rfl) (by kernel_rfl) (fun w hT => run_quo (by omega) w) ?_
    refine cont_recast 156 (iq (IntKind.i64.wrap (((k : Nat) : Int).tdiv W1q))) (iq (((k : Nat) : Int) / W1q)) rfl (tdivI (by omega) (by omega) (by omega)) ?_
    refine drawn_one 9 5 rfl (by kernel_rfl) ?_
    refine call_pure (d := 157) (.tuple #[.int .u32 (atC W1q H1q px1 (((k : Nat) : Int) % W1q) (((k : Nat) : Int) / W1q)), .bool (hasB 0 0 W1q H1q (((k : Nat) : Int) % W1q) (((k : Nat) : Int) / W1q))]) (by kernel_rfl) (fun w hT => imgAt cb36 W1q H1q cg36 n19 cc36 px1 (((k : Nat) : Int) % W1q) (((k : Nat) : Int) / W1q) w ⟨hT.ok 0 _ rfl, Row.rd (hT.ok 1 _ rfl), Row.capLe (hT.ok 1 _ rfl)⟩ hk1) ?_
    refine drawn_next 0 [] (by kernel_rfl) ?_
    refine takes 0 [] [(10, 0), (11, 0), (12, 0), (13, 0), (14, 0)] 0 [14, 13, 12, 11, 10, 9, 8, 4, 7, 3, 6, 5, 2, 1, 0] [(7, .pointer (pB b2)), (8, .pointer (pB b3)), (10, iq (n6 : Int)), (11, .slice (pB gb) n6 n6), (12, .slice (pB gf) n6 n6), (18, .pointer (pB m4)), (19, .pointer (pB cb36)), (20, iq ((k : Nat) : Int)), (21, .int .u32 (atC W1q H1q px0 (((k : Nat) : Int) % W1q) (((k : Nat) : Int) / W1q))), (22, .bool (hasB 0 0 W1q H1q (((k : Nat) : Int) % W1q) (((k : Nat) : Int) / W1q))), (23, .int .u32 (atC W1q H1q px1 (((k : Nat) : Int) % W1q) (((k : Nat) : Int) / W1q))), (24, .bool (hasB 0 0 W1q H1q (((k : Nat) : Int) % W1q) (((k : Nat) : Int) / W1q)))] (by kernel_rfl) (pok_then (pok_blk (pok_then (pok_then (pok_blk (pok_then pok_body)))))) (by kernel_rfl) rfl rfl (by kernel_rfl) (by kernel_rfl) ?_
    refine drawn_done (by kernel_rfl) ?_
    refine then_normal ?_
    refine cont_seq ?_
    refine cont_region 22 rfl ?_
    refine bS [0, 0, 0] 3 19 [(7, .pointer (pB b2)), (8, .pointer (pB b3)), (10, iq (n6 : Int)), (11, .slice (pB gb) n6 n6), (12, .slice (pB gf) n6 n6), (18, .pointer (pB m4)), (19, .pointer (pB cb36)), (20, iq ((k : Nat) : Int)), (21, .int .u32 (atC W1q H1q px0 (((k : Nat) : Int) % W1q) (((k : Nat) : Int) / W1q))), (23, .int .u32 (atC W1q H1q px1 (((k : Nat) : Int) % W1q) (((k : Nat) : Int) / W1q))), (24, .bool (hasB 0 0 W1q H1q (((k : Nat) : Int) % W1q) (((k : Nat) : Int) / W1q))), (162, .bool (!(hasB 0 0 W1q H1q (((k : Nat) : Int) % W1q) (((k : Nat) : Int) / W1q))))] ?_
    refine cont_recast 162 (.bool (!(hasB 0 0 W1q H1q (((k : Nat) : Int) % W1q) (((k : Nat) : Int) / W1q)))) (.bool false) rfl (congrArg Value.bool (by rw [show (hasB 0 0 W1q H1q (((k : Nat) : Int) % W1q) (((k : Nat) : Int) / W1q)) = true from (in_box (by omega) hk0.num (by omega))]; rfl)) ?_
    refine bS [0, 0, 0, 0] 7 15 [(7, .pointer (pB b2)), (8, .pointer (pB b3)), (10, iq (n6 : Int)), (11, .slice (pB gb) n6 n6), (12, .slice (pB gf) n6 n6), (18, .pointer (pB m4)), (19, .pointer (pB cb36)), (20, iq ((k : Nat) : Int)), (21, .int .u32 (atC W1q H1q px0 (((k : Nat) : Int) % W1q) (((k : Nat) : Int) / W1q))), (23, .int .u32 (atC W1q H1q px1 (((k : Nat) : Int) % W1q) (((k : Nat) : Int) / W1q))), (163, .bool (hasB 0 0 W1q H1q (((k : Nat) : Int) % W1q) (((k : Nat) : Int) / W1q))), (164, .bool (!(hasB 0 0 W1q H1q (((k : Nat) : Int) % W1q) (((k : Nat) : Int) / W1q)))), (166, .bool (!(hasB 0 0 W1q H1q (((k : Nat) : Int) % W1q) (((k : Nat) : Int) / W1q))))] ?_
    refine cont_recast 166 (.bool (!(hasB 0 0 W1q H1q (((k : Nat) : Int) % W1q) (((k : Nat) : Int) / W1q)))) (.bool false) rfl (congrArg Value.bool (by rw [show (hasB 0 0 W1q H1q (((k : Nat) : Int) % W1q) (((k : Nat) : Int) / W1q)) = true from (in_box (by omega) hk0.num (by omega))]; rfl)) ?_
    refine cont_recast 164 (.bool (!(hasB 0 0 W1q H1q (((k : Nat) : Int) % W1q) (((k : Nat) : Int) / W1q)))) (.bool false) rfl (congrArg Value.bool (by rw [show (hasB 0 0 W1q H1q (((k : Nat) : Int) % W1q) (((k : Nat) : Int) / W1q)) = true from (in_box (by omega) hk0.num (by omega))]; rfl)) ?_
    refine bS [0, 0, 0] 10 12 [(7, .pointer (pB b2)), (8, .pointer (pB b3)), (10, iq (n6 : Int)), (11, .slice (pB gb) n6 n6), (12, .slice (pB gf) n6 n6), (18, .pointer (pB m4)), (19, .pointer (pB cb36)), (20, iq ((k : Nat) : Int)), (23, .int .u32 (atC W1q H1q px1 (((k : Nat) : Int) % W1q) (((k : Nat) : Int) / W1q))), (163, .bool (hasB 0 0 W1q H1q (((k : Nat) : Int) % W1q) (((k : Nat) : Int) / W1q))), (164, .bool false), (166, .bool false), (167, .int .u32 (atC W1q H1q px0 (((k : Nat) : Int) % W1q) (((k : Nat) : Int) / W1q))), (168, .slice (pB gb) n6 n6), (169, iq ((k : Nat) : Int))] ?_
    refine pl_step 11 11 rfl rfl ?_
    refine sem_step 170 (Instr.indexAt 88 (.slice (pB gb) n6 n6) (iq ((k : Nat) : Int))) (.pointer (some ⟨gb, (k : Nat), none⟩)) (by kernel_rfl) (fun w hT => run_indexAt (e := 54) (sz := 1) _ (by kernel_rfl) (by kernel_rfl) (by omega) (by omega) (by omega) w) ?_
    refine pl_step 12 10 rfl rfl ?_
    refine sem_step 171 (Instr.loadAt 54 (.pointer (some ⟨gb, (k : Nat), none⟩))) (.int .u32 (px0.getD (k : Nat) 0)) (by kernel_rfl) (fun w hT => run_load1 (by kernel_rfl) (Row.cell (hT.ok 3 _ rfl) ((k : Nat)) _ (ivals_get (by omega)))) ?_
    refine bS [0, 0, 0] 15 7 [(7, .pointer (pB b2)), (8, .pointer (pB b3)), (10, iq (n6 : Int)), (11, .slice (pB gb) n6 n6), (12, .slice (pB gf) n6 n6), (18, .pointer (pB m4)), (19, .pointer (pB cb36)), (20, iq ((k : Nat) : Int)), (23, .int .u32 (atC W1q H1q px1 (((k : Nat) : Int) % W1q) (((k : Nat) : Int) / W1q))), (163, .bool (hasB 0 0 W1q H1q (((k : Nat) : Int) % W1q) (((k : Nat) : Int) / W1q))), (164, .bool false), (167, .int .u32 (atC W1q H1q px0 (((k : Nat) : Int) % W1q) (((k : Nat) : Int) / W1q))), (168, .slice (pB gb) n6 n6), (169, iq ((k : Nat) : Int)), (170, .pointer (some ⟨gb, (k : Nat), none⟩)), (171, .int .u32 (px0.getD (k : Nat) 0)), (172, .bool ((atC W1q H1q px0 (((k : Nat) : Int) % W1q) (((k : Nat) : Int) / W1q)) != (px0.getD (k : Nat) 0))), (174, .bool ((atC W1q H1q px0 (((k : Nat) : Int) % W1q) (((k : Nat) : Int) / W1q)) != (px0.getD (k : Nat) 0)))] ?_
    refine cont_recast 174 (.bool ((atC W1q H1q px0 (((k : Nat) : Int) % W1q) (((k : Nat) : Int) / W1q)) != (px0.getD (k : Nat) 0))) (.bool false) rfl (congrArg Value.bool (by rw [atC_at px0 (by omega) hk0.num (by omega)]; exact bne_self_eq_false _)) ?_
    refine cont_recast 172 (.bool ((atC W1q H1q px0 (((k : Nat) : Int) % W1q) (((k : Nat) : Int) / W1q)) != (px0.getD (k : Nat) 0))) (.bool false) rfl (congrArg Value.bool (by rw [atC_at px0 (by omega) hk0.num (by omega)]; exact bne_self_eq_false _)) ?_
    refine bS [0, 0, 0] 18 4 [(7, .pointer (pB b2)), (8, .pointer (pB b3)), (10, iq (n6 : Int)), (11, .slice (pB gb) n6 n6), (12, .slice (pB gf) n6 n6), (18, .pointer (pB m4)), (19, .pointer (pB cb36)), (20, iq ((k : Nat) : Int)), (163, .bool (hasB 0 0 W1q H1q (((k : Nat) : Int) % W1q) (((k : Nat) : Int) / W1q))), (164, .bool false), (167, .int .u32 (atC W1q H1q px0 (((k : Nat) : Int) % W1q) (((k : Nat) : Int) / W1q))), (168, .slice (pB gb) n6 n6), (169, iq ((k : Nat) : Int)), (170, .pointer (some ⟨gb, (k : Nat), none⟩)), (171, .int .u32 (px0.getD (k : Nat) 0)), (172, .bool false), (174, .bool false), (175, .int .u32 (atC W1q H1q px1 (((k : Nat) : Int) % W1q) (((k : Nat) : Int) / W1q))), (176, .slice (pB gf) n6 n6), (177, iq ((k : Nat) : Int))] ?_
    refine pl_step 19 3 rfl rfl ?_
    refine sem_step 178 (Instr.indexAt 88 (.slice (pB gf) n6 n6) (iq ((k : Nat) : Int))) (.pointer (some ⟨gf, (k : Nat), none⟩)) (by kernel_rfl) (fun w hT => run_indexAt (e := 54) (sz := 1) _ (by kernel_rfl) (by kernel_rfl) (by omega) (by omega) (by omega) w) ?_
    refine pl_step 20 2 rfl rfl ?_
    refine sem_step 179 (Instr.loadAt 54 (.pointer (some ⟨gf, (k : Nat), none⟩))) (.int .u32 (px1.getD (k : Nat) 0)) (by kernel_rfl) (fun w hT => run_load1 (by kernel_rfl) (Row.cell (hT.ok 2 _ rfl) ((k : Nat)) _ (ivals_get (by omega)))) ?_
    refine bS [0, 0] 22 0 [(7, .pointer (pB b2)), (8, .pointer (pB b3)), (10, iq (n6 : Int)), (11, .slice (pB gb) n6 n6), (12, .slice (pB gf) n6 n6), (18, .pointer (pB m4)), (19, .pointer (pB cb36)), (20, iq ((k : Nat) : Int)), (163, .bool (hasB 0 0 W1q H1q (((k : Nat) : Int) % W1q) (((k : Nat) : Int) / W1q))), (164, .bool false), (167, .int .u32 (atC W1q H1q px0 (((k : Nat) : Int) % W1q) (((k : Nat) : Int) / W1q))), (168, .slice (pB gb) n6 n6), (169, iq ((k : Nat) : Int)), (170, .pointer (some ⟨gb, (k : Nat), none⟩)), (171, .int .u32 (px0.getD (k : Nat) 0)), (172, .bool false), (175, .int .u32 (atC W1q H1q px1 (((k : Nat) : Int) % W1q) (((k : Nat) : Int) / W1q))), (176, .slice (pB gf) n6 n6), (177, iq ((k : Nat) : Int)), (178, .pointer (some ⟨gf, (k : Nat), none⟩)), (179, .int .u32 (px1.getD (k : Nat) 0)), (180, .bool ((atC W1q H1q px1 (((k : Nat) : Int) % W1q) (((k : Nat) : Int) / W1q)) != (px1.getD (k : Nat) 0))), (181, .bool ((atC W1q H1q px1 (((k : Nat) : Int) % W1q) (((k : Nat) : Int) / W1q)) != (px1.getD (k : Nat) 0)))] ?_
    refine cont_done ?_
    refine then_normal ?_
    refine cont_recast 181 (.bool ((atC W1q H1q px1 (((k : Nat) : Int) % W1q) (((k : Nat) : Int) / W1q)) != (px1.getD (k : Nat) 0))) (.bool false) rfl (congrArg Value.bool (by rw [atC_at px1 (by omega) hk1.num (by omega)]; exact bne_self_eq_false _)) ?_
    refine cont_recast 180 (.bool ((atC W1q H1q px1 (((k : Nat) : Int) % W1q) (((k : Nat) : Int) / W1q)) != (px1.getD (k : Nat) 0))) (.bool false) rfl (congrArg Value.bool (by rw [atC_at px1 (by omega) hk1.num (by omega)]; exact bne_self_eq_false _)) ?_
    refine cont_false rfl ?_
    refine cont_skip ?_
    refine blk_normal ?_
    refine then_normal ?_
    refine cont_region 3 rfl ?_
    refine bS [0, 0] 2 1 [(7, .pointer (pB b2)), (8, .pointer (pB b3)), (10, iq (n6 : Int)), (11, .slice (pB gb) n6 n6), (12, .slice (pB gf) n6 n6), (18, .pointer (pB m4)), (19, .pointer (pB cb36)), (133, iq (IntKind.i64.wrap (((k : Nat) : Int) + 1))), (163, .bool (hasB 0 0 W1q H1q (((k : Nat) : Int) % W1q) (((k : Nat) : Int) / W1q))), (164, .bool false), (167, .int .u32 (atC W1q H1q px0 (((k : Nat) : Int) % W1q) (((k : Nat) : Int) / W1q))), (168, .slice (pB gb) n6 n6), (169, iq ((k : Nat) : Int)), (170, .pointer (some ⟨gb, (k : Nat), none⟩)), (171, .int .u32 (px0.getD (k : Nat) 0)), (172, .bool false), (175, .int .u32 (atC W1q H1q px1 (((k : Nat) : Int) % W1q) (((k : Nat) : Int) / W1q))), (176, .slice (pB gf) n6 n6), (177, iq ((k : Nat) : Int)), (178, .pointer (some ⟨gf, (k : Nat), none⟩)), (179, .int .u32 (px1.getD (k : Nat) 0)), (180, .bool false)] ?_
    refine cont_recast 133 (iq (IntKind.i64.wrap (((k : Nat) : Int) + 1))) (iq (((k : Nat) : Int) + 1)) rfl (wrapI (by omega) (by omega)) ?_
    refine bS [0] 3 0 [(7, .pointer (pB b2)), (8, .pointer (pB b3)), (10, iq (n6 : Int)), (11, .slice (pB gb) n6 n6), (12, .slice (pB gf) n6 n6), (18, .pointer (pB m4)), (19, .pointer (pB cb36)), (20, iq (((k : Nat) : Int) + 1)), (163, .bool (hasB 0 0 W1q H1q (((k : Nat) : Int) % W1q) (((k : Nat) : Int) / W1q))), (164, .bool false), (167, .int .u32 (atC W1q H1q px0 (((k : Nat) : Int) % W1q) (((k : Nat) : Int) / W1q))), (168, .slice (pB gb) n6 n6), (169, iq ((k : Nat) : Int)), (170, .pointer (some ⟨gb, (k : Nat), none⟩)), (171, .int .u32 (px0.getD (k : Nat) 0)), (172, .bool false), (175, .int .u32 (atC W1q H1q px1 (((k : Nat) : Int) % W1q) (((k : Nat) : Int) / W1q))), (176, .slice (pB gf) n6 n6), (177, iq ((k : Nat) : Int)), (178, .pointer (some ⟨gf, (k : Nat), none⟩)), (179, .int .u32 (px1.getD (k : Nat) 0)), (180, .bool false)] ?_
    refine cont_done ?_
    refine then_normal ?_
    refine cont_again (k + 1) (show (k + 1) ≤ n6 from (by omega)) (show n6 - (k + 1) < n6 - k from by omega) (by kernel_rfl) (by kernel_rfl)
   replace c38_ := of_decide_eq_false c38_
   refine cont_false rfl ?_
   refine cont_exit ?_
   refine then_exit ?_
   refine then_exit ?_
   refine blk_exit ?_
   refine then_normal ?_
   refine cont_seq ?_
   refine cont_region 3 rfl ?_
   refine bS [0, 9] 2 1 [(8, .pointer (pB b3)), (12, .slice (pB gf) n6 n6), (182, .pointer (pB cb36)), (183, .agg #[iq 0, iq 0, iq W1q, iq H1q])] ?_
   refine cont_forget 3 rfl ?_
   refine cont_forget 8 rfl ?_
   refine pl_step 3 0 rfl rfl ?_
   refine call_gen (d := 184) (α := Unit) (fun _ => iq (fillN W1q H1q 0 0 W1q H1q 4294967295)) (fun _ => [.cells cb36 [iq W1q, iq H1q, .slice (pB cg36) n19 cc36] 115 true, .gen (rowE (pB cg36) cg36 n19 cc36 54 1 (ivals .u32 (fillA W1q H1q px1 0 0 W1q H1q 4294967295)) true), .gen (rowE (pB gf) gf n6 n6 54 1 (ivals .u32 px1) true), .cells b3 [.pointer (pB m4), .pointer (pB m17), .slice Ax kx cx, .slice Ay ky cy, iq w0, iq w1, iq fr, iq 0] 98 true, .cells m4 [iq W1q, iq H1q, .slice (pB r5) n6 n6] 115 true, .gen (rowE (pB r5) r5 n6 n6 54 1 (ivals .u32 px0) true), .cells m17 [iq W1q, iq H1q, .slice (pB r18) n19 n19] 115 true, .gen (rowE (pB r18) r18 n19 n19 54 1 (ivals .u32 px1) true), .gen (rdE (A) g o n 7 (dvals Deed18.cells xs)), .gen (subE n (fun i_ => rdE ((dget xs i_).A1) (dget xs i_).g1 (dget xs i_).o1 (dget xs i_).m1 4 (rvals (dget xs i_).x1)))]) (fun _ => True) (by kernel_rfl) (fun w hT => (imgFill cb36 W1q H1q cg36 n19 cc36 px1 0 0 W1q H1q 4294967295 w ⟨hT.ok 0 _ rfl, hT.ok 1 _ rfl, fun hne => hT.disj 0 1 _ _ (by omega) rfl rfl (.inr rfl) _ rfl ⟨hne, by simp⟩⟩ hk1 ⟨by omega, by omega⟩).mono fun e w' ⟨he_, hk_, hr_⟩ => ⟨(), he_, trivial, hT.keepBut hk_ (i := 1) rfl hr_⟩) (fun _ _ => ?_)
   refine cont_done ?_
   refine then_normal ?_
   refine cont_seq ?_
   refine cont_region 3 rfl ?_
   refine bS [0] 1 2 [(12, .slice (pB gf) n6 n6), (185, .pointer (pB b3))] ?_
   refine cont_forget 0 rfl ?_
   refine pl_step 2 1 rfl rfl ?_
   refine call_gen (d := 186) (α := Nat × Nat × Nat) (fun x_ => .pointer (pB x_.1)) (fun x_ => [.cells x_.1 [iq W1q, iq H1q, .slice (pB x_.2.1) n19 x_.2.2] 115 true, .gen (rowE (pB x_.2.1) x_.2.1 n19 x_.2.2 54 1 (ivals .u32 px1) true), .gen (rowE (pB cg36) cg36 n19 cc36 54 1 (ivals .u32 (fillA W1q H1q px1 0 0 W1q H1q 4294967295)) true), .gen (rowE (pB gf) gf n6 n6 54 1 (ivals .u32 px1) true), .cells b3 [.pointer (pB m4), .pointer (pB m17), .slice Ax kx cx, .slice Ay ky cy, iq w0, iq w1, iq fr, iq 0] 98 true, .cells m4 [iq W1q, iq H1q, .slice (pB r5) n6 n6] 115 true, .gen (rowE (pB r5) r5 n6 n6 54 1 (ivals .u32 px0) true), .cells m17 [iq W1q, iq H1q, .slice (pB r18) n19 n19] 115 true, .gen (rowE (pB r18) r18 n19 n19 54 1 (ivals .u32 px1) true), .gen (rdE (A) g o n 7 (dvals Deed18.cells xs)), .gen (subE n (fun i_ => rdE ((dget xs i_).A1) (dget xs i_).g1 (dget xs i_).o1 (dget xs i_).m1 4 (rvals (dget xs i_).x1)))]) (fun _ => True) (by kernel_rfl) (fun w hT => (outFront0 b3 m17 m4 Ax Ay kx cx ky cy w0 w1 fr W1q H1q r18 n19 n19 px1 w (hT.view (.cons (i := 2) rfl Vw.roc (.cons (i := 5) rfl Vw.roc (.cons (i := 6) rfl Vw.rowRd .nil))) (by decide)) (Row.capLe (hT.ok 6 _ rfl)) hk1).mono fun e w' ⟨b_, g_, c_, he_, hi_⟩ => ⟨(b_, g_, c_), he_, trivial, hT.addImg hi_⟩) ?_
   rintro ⟨cb43, cg43, cc43⟩ -
   refine cont_norm [(12, .slice (pB gf) n6 n6), (185, .pointer (pB b3)), (186, .pointer (pB cb43))] _ (by kernel_rfl) rfl ?_
   refine bS [0] 3 0 [(12, .slice (pB gf) n6 n6), (25, .pointer (pB cb43))] ?_
   refine cont_forget 4 rfl ?_
   refine cont_forget 4 rfl ?_
   refine cont_forget 5 rfl ?_
   refine cont_done ?_
   refine then_normal ?_
   refine cont_seq ?_
   refine cont_seq ?_
   refine cont_region 2 rfl ?_
   refine bS [0, 0] 2 0 [(12, .slice (pB gf) n6 n6), (25, .pointer (pB cb43)), (188, .bool false)] ?_
   refine cont_done ?_
   refine then_normal ?_
   refine cont_false rfl ?_
   refine cont_skip ?_
   refine then_normal ?_
   refine cont_seq ?_
   refine cont_region 7 rfl ?_
   refine bS [0] 1 6 [(12, .slice (pB gf) n6 n6), (190, .pointer (pB cb43))] ?_
   refine pl_step 2 5 rfl rfl ?_
   refine call_pure (d := 191) (.tuple #[.int .u32 (atC W1q H1q px1 0 0), .bool (hasB 0 0 W1q H1q 0 0)]) (by kernel_rfl) (fun w hT => imgAt cb43 W1q H1q cg43 n19 cc43 px1 0 0 w ⟨hT.ok 0 _ rfl, Row.rd (hT.ok 1 _ rfl), Row.capLe (hT.ok 1 _ rfl)⟩ hk1) ?_
   refine bS [0, 0, 0, 0, 0] 7 0 [(12, .slice (pB gf) n6 n6), (26, .int .u32 (atC W1q H1q px1 0 0))] ?_
   refine cont_forget 0 rfl ?_
   refine cont_done ?_
   refine then_normal ?_
   refine cont_seq ?_
   refine cont_region 9 rfl ?_
   refine bS [0, 0] 2 7 [(194, .int .u32 (atC W1q H1q px1 0 0)), (195, .slice (pB gf) n6 n6)] ?_
   refine pl_step 3 6 rfl rfl ?_
   refine sem_step 196 (Instr.indexAt 88 (.slice (pB gf) n6 n6) (iq 0)) (.pointer (pB gf)) (by kernel_rfl) (fun w hT => run_indexAt (e := 54) (sz := 1) _ (by kernel_rfl) (by kernel_rfl) (by omega) (by omega) (by omega) w) ?_
   refine pl_step 4 5 rfl rfl ?_
   refine sem_step 197 (Instr.loadAt 54 (.pointer (pB gf))) (.int .u32 (px1.getD 0 0)) (by kernel_rfl) (fun w hT => run_load1 (by kernel_rfl) (Row.cell (hT.ok 2 _ rfl) (0) _ (ivals_get (by omega)))) ?_
   refine bS [0, 0] 6 3 [(199, .bool ((atC W1q H1q px1 0 0) == (px1.getD 0 0)))] ?_
   refine cont_forget 2 rfl ?_
   refine cont_recast 199 (.bool ((atC W1q H1q px1 0 0) == (px1.getD 0 0))) (.bool true) rfl (congrArg Value.bool (by rw [atC_zero hk1]; exact beq_self_eq_true _)) ?_
   refine pl_step 7 2 rfl rfl ?_
   refine call_pure (d := 200) (.bool true) (by kernel_rfl) (fun w hT => lives18  w) ?_
   refine bS [0, 0] 9 0 [(6, .bool true)] ?_
   refine cont_done ?_
   refine then_normal ?_
   refine cont_ret ?_
   refine ret_one (.inl rfl) rfl 0 (.bool true) (by kernel_rfl) (by kernel_rfl) (fun w hT => ?_)
   exact ⟨rfl, hT.post rfl⟩
  replace c27_ := of_decide_eq_false c27_
  refine bS [0, 0, 0] 8 0 [(2, .slice A n cap), (7, .pointer (pB b2)), (8, .pointer (pB b3)), (10, iq (n6 : Int)), (11, .slice (pB gb) n6 n6), (12, .slice (pB gf) n6 n6), (13, iq (i : Int)), (59, undef), (60, undef), (61, .bool false)] ?_
  refine cont_done ?_
  refine then_normal ?_
  refine cont_false rfl ?_
  refine cont_exit ?_
  refine then_exit ?_
  refine then_exit ?_
  refine blk_exit ?_
  refine then_normal ?_
  refine cont_seq ?_
  refine cont_region 3 rfl ?_
  refine bS [0] 1 2 [(7, .pointer (pB b2)), (8, .pointer (pB b3)), (10, iq (n6 : Int)), (11, .slice (pB gb) n6 n6), (12, .slice (pB gf) n6 n6), (119, .pointer (pB b3))] ?_
  refine pl_step 2 1 rfl rfl ?_
  refine call_pure (d := 120) (.pointer (pB m4)) (by kernel_rfl) (fun w hT => outBack0 b3 m4 m17 Ax Ay kx cx ky cy w0 w1 fr w (hT.viewRo (.cons (i := 2) rfl Vw.roc .nil) rfl)) ?_
  refine bS [0] 3 0 [(7, .pointer (pB b2)), (8, .pointer (pB b3)), (10, iq (n6 : Int)), (11, .slice (pB gb) n6 n6), (12, .slice (pB gf) n6 n6), (18, .pointer (pB m4))] ?_
  refine cont_done ?_
  refine then_normal ?_
  refine cont_seq ?_
  refine cont_region 3 rfl ?_
  refine bS [0] 1 2 [(7, .pointer (pB b2)), (8, .pointer (pB b3)), (10, iq (n6 : Int)), (11, .slice (pB gb) n6 n6), (12, .slice (pB gf) n6 n6), (18, .pointer (pB m4)), (121, .pointer (pB b3))] ?_
  refine pl_step 2 1 rfl rfl ?_
  refine call_gen (d := 122) (α := Nat × Nat × Nat) (fun x_ => .pointer (pB x_.1)) (fun x_ => [.cells x_.1 [iq W1q, iq H1q, .slice (pB x_.2.1) n19 x_.2.2] 115 true, .gen (rowE (pB x_.2.1) x_.2.1 n19 x_.2.2 54 1 (ivals .u32 px1) true), .gen (rowE (pB gf) gf n6 n6 54 1 (ivals .u32 px1) true), .gen (rowE (pB gb) gb n6 n6 54 1 (ivals .u32 px0) true), .cells b3 [.pointer (pB m4), .pointer (pB m17), .slice Ax kx cx, .slice Ay ky cy, iq w0, iq w1, iq fr, iq 0] 98 true, .cells m4 [iq W1q, iq H1q, .slice (pB r5) n6 n6] 115 true, .gen (rowE (pB r5) r5 n6 n6 54 1 (ivals .u32 px0) true), .cells m17 [iq W1q, iq H1q, .slice (pB r18) n19 n19] 115 true, .gen (rowE (pB r18) r18 n19 n19 54 1 (ivals .u32 px1) true), .cells b2 [iq 0, iq 0, iq W1q, iq H1q] 28 true, .gen (rdE (A) g o n 7 (dvals Deed18.cells xs)), .gen (subE n (fun i_ => rdE ((dget xs i_).A1) (dget xs i_).g1 (dget xs i_).o1 (dget xs i_).m1 4 (rvals (dget xs i_).x1)))]) (fun _ => True) (by kernel_rfl) (fun w hT => (outFront0 b3 m17 m4 Ax Ay kx cx ky cy w0 w1 fr W1q H1q r18 n19 n19 px1 w (hT.view (.cons (i := 2) rfl Vw.roc (.cons (i := 5) rfl Vw.roc (.cons (i := 6) rfl Vw.rowRd .nil))) (by decide)) (Row.capLe (hT.ok 6 _ rfl)) hk1).mono fun e w' ⟨b_, g_, c_, he_, hi_⟩ => ⟨(b_, g_, c_), he_, trivial, hT.addImg hi_⟩) ?_
  rintro ⟨cb45, cg45, cc45⟩ -
  refine cont_norm [(7, .pointer (pB b2)), (8, .pointer (pB b3)), (10, iq (n6 : Int)), (11, .slice (pB gb) n6 n6), (12, .slice (pB gf) n6 n6), (18, .pointer (pB m4)), (121, .pointer (pB b3)), (122, .pointer (pB cb45))] _ (by kernel_rfl) rfl ?_
  refine bS [0] 3 0 [(7, .pointer (pB b2)), (8, .pointer (pB b3)), (10, iq (n6 : Int)), (11, .slice (pB gb) n6 n6), (12, .slice (pB gf) n6 n6), (18, .pointer (pB m4)), (19, .pointer (pB cb45))] ?_
  refine cont_done ?_
  refine then_normal ?_
  refine cont_seq ?_
  refine cont_seq ?_
  refine cont_region 6 rfl ?_
  refine bS [0, 0, 0, 0, 0, 0] 6 0 [(7, .pointer (pB b2)), (8, .pointer (pB b3)), (10, iq (n6 : Int)), (11, .slice (pB gb) n6 n6), (12, .slice (pB gf) n6 n6), (18, .pointer (pB m4)), (19, .pointer (pB cb45)), (128, .bool false)] ?_
  refine cont_done ?_
  refine then_normal ?_
  refine cont_false rfl ?_
  refine cont_skip ?_
  refine then_normal ?_
  refine cont_seq ?_
  refine cont_seq ?_
  refine cont_region 1 rfl ?_
  refine bS [0] 1 0 [(7, .pointer (pB b2)), (8, .pointer (pB b3)), (10, iq (n6 : Int)), (11, .slice (pB gb) n6 n6), (12, .slice (pB gf) n6 n6), (18, .pointer (pB m4)), (19, .pointer (pB cb45)), (20, iq 0)] ?_
  refine cont_done ?_
  refine then_normal ?_
  refine cont_block ?_
  refine cont_loop (α := Nat) (fun x_ : Nat => x_ ≤ n6) (fun x_ : Nat => [(7, .pointer (pB b2)), (8, .pointer (pB b3)), (10, iq (n6 : Int)), (11, .slice (pB gb) n6 n6), (12, .slice (pB gf) n6 n6), (18, .pointer (pB m4)), (19, .pointer (pB cb45)), (20, iq ((x_ : Nat) : Int))]) (fun x_ : Nat => [.cells cb45 [iq W1q, iq H1q, .slice (pB cg45) n19 cc45] 115 true, .gen (rowE (pB cg45) cg45 n19 cc45 54 1 (ivals .u32 px1) true), .gen (rowE (pB gf) gf n6 n6 54 1 (ivals .u32 px1) true), .gen (rowE (pB gb) gb n6 n6 54 1 (ivals .u32 px0) true), .cells b3 [.pointer (pB m4), .pointer (pB m17), .slice Ax kx cx, .slice Ay ky cy, iq w0, iq w1, iq fr, iq 0] 98 true, .cells m4 [iq W1q, iq H1q, .slice (pB r5) n6 n6] 115 true, .gen (rowE (pB r5) r5 n6 n6 54 1 (ivals .u32 px0) true), .cells m17 [iq W1q, iq H1q, .slice (pB r18) n19 n19] 115 true, .gen (rowE (pB r18) r18 n19 n19 54 1 (ivals .u32 px1) true), .cells b2 [iq 0, iq 0, iq W1q, iq H1q] 28 true, .gen (rdE (A) g o n 7 (dvals Deed18.cells xs)), .gen (subE n (fun i_ => rdE ((dget xs i_).A1) (dget xs i_).g1 (dget xs i_).o1 (dget xs i_).m1 4 (rvals (dget xs i_).x1)))]) (fun x_ : Nat => n6 - x_) 0 (by omega) (by kernel_rfl) (by kernel_rfl) ?_
  rintro k hinv46_
  replace hinv46_ : k ≤ n6 := hinv46_
  refine cont_norm [(7, .pointer (pB b2)), (8, .pointer (pB b3)), (10, iq (n6 : Int)), (11, .slice (pB gb) n6 n6), (12, .slice (pB gf) n6 n6), (18, .pointer (pB m4)), (19, .pointer (pB cb45)), (20, iq ((k : Nat) : Int))] _ (by kernel_rfl) rfl ?_
  have hkk := hinv46_
  have hem := emod_range k (show 1 ≤ W1q by omega)
  refine cont_seq ?_
  refine cont_seq ?_
  refine cont_region 3 rfl ?_
  refine bS [0, 0, 0] 3 0 [(7, .pointer (pB b2)), (8, .pointer (pB b3)), (10, iq (n6 : Int)), (11, .slice (pB gb) n6 n6), (12, .slice (pB gf) n6 n6), (18, .pointer (pB m4)), (19, .pointer (pB cb45)), (20, iq ((k : Nat) : Int)), (131, .bool (decide (((k : Nat) : Int) < (n6 : Int))))] ?_
  refine cont_done ?_
  refine then_normal ?_
  refine cont_split 131 (decide (((k : Nat) : Int) < (n6 : Int))) rfl (fun c47_ => ?_) (fun c47_ => ?_)
  ·
   replace c47_ := of_decide_eq_true c47_
   refine cont_true rfl ?_
   refine cont_skip ?_
   refine then_normal ?_
   refine cont_seq ?_
   refine cont_block ?_
   refine cont_seq ?_
   refine drawn_enter 15 [] rfl (by kernel_rfl) ?_
   refine takes 0 [] [(0, 0), (1, 0), (2, 0), (5, 0), (6, 0), (3, 9), (7, 9)] 8 [7, 3, 6, 5, 2, 1, 0] [(7, .pointer (pB b2)), (8, .pointer (pB b3)), (10, iq (n6 : Int)), (11, .slice (pB gb) n6 n6), (12, .slice (pB gf) n6 n6), (18, .pointer (pB m4)), (19, .pointer (pB cb45)), (20, iq ((k : Nat) : Int)), (135, .pointer (pB m4)), (136, iq ((k : Nat) : Int)), (138, iq W1q), (140, iq ((k : Nat) : Int)), (142, iq W1q)] (by kernel_rfl) (pok_then (pok_blk (pok_then (pok_then (pok_blk (pok_then pok_body)))))) (by kernel_rfl) rfl rfl (by kernel_rfl) (by kernel_rfl) ?_
   refine sem_take 0 [] 4 7 139 (bopS .rem 3 (.tmp 136) (.tmp 138) (iq ((k : Nat) : Int)) (iq W1q)) (iq (((k : Nat) : Int).tmod W1q)) (by kernel_rfl) (pok_then (pok_blk (pok_then (pok_then (pok_blk (pok_then pok_body)))))) (by kernel_rfl) rfl (by kernel_rfl) (by kernel_rfl) (fun w hT => run_rem (by omega) w) ?_
   refine cont_recast 139 (iq (((k : Nat) : Int).tmod W1q)) (iq (((k : Nat) : Int) % W1q)) rfl (tmodI (by omega)) ?_
   refine sem_take 0 [] 8 6 143 (bopS .quo 3 (.tmp 140) (.tmp 142) (iq ((k : Nat) : Int)) (iq W1q)) (iq (IntKind.i64.wrap (((k : Nat) : Int).tdiv W1q))) (by kernel_rfl) (pok_then (pok_blk (pok_then (pok_then (pok_blk (pok_then pok_body)))))) (by kernel_rfl) rfl (by kernel_rfl) (by kernel_rfl) (fun w hT => run_quo (by omega) w) ?_
   refine cont_recast 143 (iq (IntKind.i64.wrap (((k : Nat) : Int).tdiv W1q))) (iq (((k : Nat) : Int) / W1q)) rfl (tdivI (by omega) (by omega) (by omega)) ?_
   refine drawn_one 9 5 rfl (by kernel_rfl) ?_
   refine call_pure (d := 144) (.tuple #[.int .u32 (atC W1q H1q px0 (((k : Nat) : Int) % W1q) (((k : Nat) : Int) / W1q)), .bool (hasB 0 0 W1q H1q (((k : Nat) : Int) % W1q) (((k : Nat) : Int) / W1q))]) (by kernel_rfl) (fun w hT => imgAt m4 W1q H1q r5 n6 n6 px0 (((k : Nat) : Int) % W1q) (((k : Nat) : Int) / W1q) w ⟨hT.ok 5 _ rfl, Row.rd (hT.ok 6 _ rfl), Row.capLe (hT.ok 6 _ rfl)⟩ hk0) ?_
   refine drawn_next 0 [] (by kernel_rfl) ?_
   refine takes 0 [] [(10, 0), (11, 0), (12, 0), (13, 0), (14, 0)] 0 [14, 13, 12, 11, 10, 9, 8, 4, 7, 3, 6, 5, 2, 1, 0] [(7, .pointer (pB b2)), (8, .pointer (pB b3)), (10, iq (n6 : Int)), (11, .slice (pB gb) n6 n6), (12, .slice (pB gf) n6 n6), (18, .pointer (pB m4)), (19, .pointer (pB cb45)), (20, iq ((k : Nat) : Int)), (21, .int .u32 (atC W1q H1q px0 (((k : Nat) : Int) % W1q) (((k : Nat) : Int) / W1q))), (22, .bool (hasB 0 0 W1q H1q (((k : Nat) : Int) % W1q) (((k : Nat) : Int) / W1q)))] (by kernel_rfl) (pok_then (pok_blk (pok_then (pok_then (pok_blk (pok_then pok_body)))))) (by kernel_rfl) rfl rfl (by kernel_rfl) (by kernel_rfl) ?_
   refine drawn_done (by kernel_rfl) ?_
   refine then_normal ?_
   refine cont_seq ?_
   refine drawn_enter 15 [] rfl (by kernel_rfl) ?_
   refine takes 0 [] [(0, 0), (1, 0), (2, 0), (5, 0), (6, 0), (3, 9), (7, 9)] 8 [7, 3, 6, 5, 2, 1, 0] [(7, .pointer (pB b2)), (8, .pointer (pB b3)), (10, iq (n6 : Int)), (11, .slice (pB gb) n6 n6), (12, .slice (pB gf) n6 n6), (18, .pointer (pB m4)), (19, .pointer (pB cb45)), (20, iq ((k : Nat) : Int)), (21, .int .u32 (atC W1q H1q px0 (((k : Nat) : Int) % W1q) (((k : Nat) : Int) / W1q))), (22, .bool (hasB 0 0 W1q H1q (((k : Nat) : Int) % W1q) (((k : Nat) : Int) / W1q))), (148, .pointer (pB cb45)), (149, iq ((k : Nat) : Int)), (151, iq W1q), (153, iq ((k : Nat) : Int)), (155, iq W1q)] (by kernel_rfl) (pok_then (pok_blk (pok_then (pok_then (pok_blk (pok_then pok_body)))))) (by kernel_rfl) rfl rfl (by kernel_rfl) (by kernel_rfl) ?_
   refine sem_take 0 [] 4 7 152 (bopS .rem 3 (.tmp 149) (.tmp 151) (iq ((k : Nat) : Int)) (iq W1q)) (iq (((k : Nat) : Int).tmod W1q)) (by kernel_rfl) (pok_then (pok_blk (pok_then (pok_then (pok_blk (pok_then pok_body)))))) (by kernel_rfl) rfl (by kernel_rfl) (by kernel_rfl) (fun w hT => run_rem (by omega) w) ?_
   refine cont_recast 152 (iq (((k : Nat) : Int).tmod W1q)) (iq (((k : Nat) : Int) % W1q)) rfl (tmodI (by omega)) ?_
   refine sem_take 0 [] 8 6 156 (bopS .quo 3 (.tmp 153) (.tmp 155) (iq ((k : Nat) : Int)) (iq W1q)) (iq (IntKind.i64.wrap (((k : Nat) : Int).tdiv W1q))) (by kernel_rfl) (pok_then (pok_blk (pok_then (pok_then (pok_blk (pok_then pok_body)))))) (by kernel_rfl) rfl (by kernel_rfl) (by kernel_rfl) (fun w hT => run_quo (by omega) w) ?_
   refine cont_recast 156 (iq (IntKind.i64.wrap (((k : Nat) : Int).tdiv W1q))) (iq (((k : Nat) : Int) / W1q)) rfl (tdivI (by omega) (by omega) (by omega)) ?_
   refine drawn_one 9 5 rfl (by kernel_rfl) ?_
   refine call_pure (d := 157) (.tuple #[.int .u32 (atC W1q H1q px1 (((k : Nat) : Int) % W1q) (((k : Nat) : Int) / W1q)), .bool (hasB 0 0 W1q H1q (((k : Nat) : Int) % W1q) (((k : Nat) : Int) / W1q))]) (by kernel_rfl) (fun w hT => imgAt cb45 W1q H1q cg45 n19 cc45 px1 (((k : Nat) : Int) % W1q) (((k : Nat) : Int) / W1q) w ⟨hT.ok 0 _ rfl, Row.rd (hT.ok 1 _ rfl), Row.capLe (hT.ok 1 _ rfl)⟩ hk1) ?_
   refine drawn_next 0 [] (by kernel_rfl) ?_
   refine takes 0 [] [(10, 0), (11, 0), (12, 0), (13, 0), (14, 0)] 0 [14, 13, 12, 11, 10, 9, 8, 4, 7, 3, 6, 5, 2, 1, 0] [(7, .pointer (pB b2)), (8, .pointer (pB b3)), (10, iq (n6 : Int)), (11, .slice (pB gb) n6 n6), (12, .slice (pB gf) n6 n6), (18, .pointer (pB m4)), (19, .pointer (pB cb45)), (20, iq ((k : Nat) : Int)), (21, .int .u32 (atC W1q H1q px0 (((k : Nat) : Int) % W1q) (((k : Nat) : Int) / W1q))), (22, .bool (hasB 0 0 W1q H1q (((k : Nat) : Int) % W1q) (((k : Nat) : Int) / W1q))), (23, .int .u32 (atC W1q H1q px1 (((k : Nat) : Int) % W1q) (((k : Nat) : Int) / W1q))), (24, .bool (hasB 0 0 W1q H1q (((k : Nat) : Int) % W1q) (((k : Nat) : Int) / W1q)))] (by kernel_rfl) (pok_then (pok_blk (pok_then (pok_then (pok_blk (pok_then pok_body)))))) (by kernel_rfl) rfl rfl (by kernel_rfl) (by kernel_rfl) ?_
   refine drawn_done (by kernel_rfl) ?_
   refine then_normal ?_
   refine cont_seq ?_
   refine cont_region 22 rfl ?_
   refine bS [0, 0, 0] 3 19 [(7, .pointer (pB b2)), (8, .pointer (pB b3)), (10, iq (n6 : Int)), (11, .slice (pB gb) n6 n6), (12, .slice (pB gf) n6 n6), (18, .pointer (pB m4)), (19, .pointer (pB cb45)), (20, iq ((k : Nat) : Int)), (21, .int .u32 (atC W1q H1q px0 (((k : Nat) : Int) % W1q) (((k : Nat) : Int) / W1q))), (23, .int .u32 (atC W1q H1q px1 (((k : Nat) : Int) % W1q) (((k : Nat) : Int) / W1q))), (24, .bool (hasB 0 0 W1q H1q (((k : Nat) : Int) % W1q) (((k : Nat) : Int) / W1q))), (162, .bool (!(hasB 0 0 W1q H1q (((k : Nat) : Int) % W1q) (((k : Nat) : Int) / W1q))))] ?_
   refine cont_recast 162 (.bool (!(hasB 0 0 W1q H1q (((k : Nat) : Int) % W1q) (((k : Nat) : Int) / W1q)))) (.bool false) rfl (congrArg Value.bool (by rw [show (hasB 0 0 W1q H1q (((k : Nat) : Int) % W1q) (((k : Nat) : Int) / W1q)) = true from (in_box (by omega) hk0.num (by omega))]; rfl)) ?_
   refine bS [0, 0, 0, 0] 7 15 [(7, .pointer (pB b2)), (8, .pointer (pB b3)), (10, iq (n6 : Int)), (11, .slice (pB gb) n6 n6), (12, .slice (pB gf) n6 n6), (18, .pointer (pB m4)), (19, .pointer (pB cb45)), (20, iq ((k : Nat) : Int)), (21, .int .u32 (atC W1q H1q px0 (((k : Nat) : Int) % W1q) (((k : Nat) : Int) / W1q))), (23, .int .u32 (atC W1q H1q px1 (((k : Nat) : Int) % W1q) (((k : Nat) : Int) / W1q))), (163, .bool (hasB 0 0 W1q H1q (((k : Nat) : Int) % W1q) (((k : Nat) : Int) / W1q))), (164, .bool (!(hasB 0 0 W1q H1q (((k : Nat) : Int) % W1q) (((k : Nat) : Int) / W1q)))), (166, .bool (!(hasB 0 0 W1q H1q (((k : Nat) : Int) % W1q) (((k : Nat) : Int) / W1q))))] ?_
   refine cont_recast 166 (.bool (!(hasB 0 0 W1q H1q (((k : Nat) : Int) % W1q) (((k : Nat) : Int) / W1q)))) (.bool false) rfl (congrArg Value.bool (by rw [show (hasB 0 0 W1q H1q (((k : Nat) : Int) % W1q) (((k : Nat) : Int) / W1q)) = true from (in_box (by omega) hk0.num (by omega))]; rfl)) ?_
   refine cont_recast 164 (.bool (!(hasB 0 0 W1q H1q (((k : Nat) : Int) % W1q) (((k : Nat) : Int) / W1q)))) (.bool false) rfl (congrArg Value.bool (by rw [show (hasB 0 0 W1q H1q (((k : Nat) : Int) % W1q) (((k : Nat) : Int) / W1q)) = true from (in_box (by omega) hk0.num (by omega))]; rfl)) ?_
   refine bS [0, 0, 0] 10 12 [(7, .pointer (pB b2)), (8, .pointer (pB b3)), (10, iq (n6 : Int)), (11, .slice (pB gb) n6 n6), (12, .slice (pB gf) n6 n6), (18, .pointer (pB m4)), (19, .pointer (pB cb45)), (20, iq ((k : Nat) : Int)), (23, .int .u32 (atC W1q H1q px1 (((k : Nat) : Int) % W1q) (((k : Nat) : Int) / W1q))), (163, .bool (hasB 0 0 W1q H1q (((k : Nat) : Int) % W1q) (((k : Nat) : Int) / W1q))), (164, .bool false), (166, .bool false), (167, .int .u32 (atC W1q H1q px0 (((k : Nat) : Int) % W1q) (((k : Nat) : Int) / W1q))), (168, .slice (pB gb) n6 n6), (169, iq ((k : Nat) : Int))] ?_
   refine pl_step 11 11 rfl rfl ?_
   refine sem_step 170 (Instr.indexAt 88 (.slice (pB gb) n6 n6) (iq ((k : Nat) : Int))) (.pointer (some ⟨gb, (k : Nat), none⟩)) (by kernel_rfl) (fun w hT => run_indexAt (e := 54) (sz := 1) _ (by kernel_rfl) (by kernel_rfl) (by omega) (by omega) (by omega) w) ?_
   refine pl_step 12 10 rfl rfl ?_
   refine sem_step 171 (Instr.loadAt 54 (.pointer (some ⟨gb, (k : Nat), none⟩))) (.int .u32 (px0.getD (k : Nat) 0)) (by kernel_rfl) (fun w hT => run_load1 (by kernel_rfl) (Row.cell (hT.ok 3 _ rfl) ((k : Nat)) _ (ivals_get (by omega)))) ?_
   refine bS [0, 0, 0] 15 7 [(7, .pointer (pB b2)), (8, .pointer (pB b3)), (10, iq (n6 : Int)), (11, .slice (pB gb) n6 n6), (12, .slice (pB gf) n6 n6), (18, .pointer (pB m4)), (19, .pointer (pB cb45)), (20, iq ((k : Nat) : Int)), (23, .int .u32 (atC W1q H1q px1 (((k : Nat) : Int) % W1q) (((k : Nat) : Int) / W1q))), (163, .bool (hasB 0 0 W1q H1q (((k : Nat) : Int) % W1q) (((k : Nat) : Int) / W1q))), (164, .bool false), (167, .int .u32 (atC W1q H1q px0 (((k : Nat) : Int) % W1q) (((k : Nat) : Int) / W1q))), (168, .slice (pB gb) n6 n6), (169, iq ((k : Nat) : Int)), (170, .pointer (some ⟨gb, (k : Nat), none⟩)), (171, .int .u32 (px0.getD (k : Nat) 0)), (172, .bool ((atC W1q H1q px0 (((k : Nat) : Int) % W1q) (((k : Nat) : Int) / W1q)) != (px0.getD (k : Nat) 0))), (174, .bool ((atC W1q H1q px0 (((k : Nat) : Int) % W1q) (((k : Nat) : Int) / W1q)) != (px0.getD (k : Nat) 0)))] ?_
   refine cont_recast 174 (.bool ((atC W1q H1q px0 (((k : Nat) : Int) % W1q) (((k : Nat) : Int) / W1q)) != (px0.getD (k : Nat) 0))) (.bool false) rfl (congrArg Value.bool (by rw [atC_at px0 (by omega) hk0.num (by omega)]; exact bne_self_eq_false _)) ?_
   refine cont_recast 172 (.bool ((atC W1q H1q px0 (((k : Nat) : Int) % W1q) (((k : Nat) : Int) / W1q)) != (px0.getD (k : Nat) 0))) (.bool false) rfl (congrArg Value.bool (by rw [atC_at px0 (by omega) hk0.num (by omega)]; exact bne_self_eq_false _)) ?_
   refine bS [0, 0, 0] 18 4 [(7, .pointer (pB b2)), (8, .pointer (pB b3)), (10, iq (n6 : Int)), (11, .slice (pB gb) n6 n6), (12, .slice (pB gf) n6 n6), (18, .pointer (pB m4)), (19, .pointer (pB cb45)), (20, iq ((k : Nat) : Int)), (163, .bool (hasB 0 0 W1q H1q (((k : Nat) : Int) % W1q) (((k : Nat) : Int) / W1q))), (164, .bool false), (167, .int .u32 (atC W1q H1q px0 (((k : Nat) : Int) % W1q) (((k : Nat) : Int) / W1q))), (168, .slice (pB gb) n6 n6), (169, iq ((k : Nat) : Int)), (170, .pointer (some ⟨gb, (k : Nat), none⟩)), (171, .int .u32 (px0.getD (k : Nat) 0)), (172, .bool false), (174, .bool false), (175, .int .u32 (atC W1q H1q px1 (((k : Nat) : Int) % W1q) (((k : Nat) : Int) / W1q))), (176, .slice (pB gf) n6 n6), (177, iq ((k : Nat) : Int))] ?_
   refine pl_step 19 3 rfl rfl ?_
   refine sem_step 178 (Instr.indexAt 88 (.slice (pB gf) n6 n6) (iq ((k : Nat) : Int))) (.pointer (some ⟨gf, (k : Nat), none⟩)) (by kernel_rfl) (fun w hT => run_indexAt (e := 54) (sz := 1) _ (by kernel_rfl) (by kernel_rfl) (by omega) (by omega) (by omega) w) ?_
   refine pl_step 20 2 rfl rfl ?_
   refine sem_step 179 (Instr.loadAt 54 (.pointer (some ⟨gf, (k : Nat), none⟩))) (.int .u32 (px1.getD (k : Nat) 0)) (by kernel_rfl) (fun w hT => run_load1 (by kernel_rfl) (Row.cell (hT.ok 2 _ rfl) ((k : Nat)) _ (ivals_get (by omega)))) ?_
   refine bS [0, 0] 22 0 [(7, .pointer (pB b2)), (8, .pointer (pB b3)), (10, iq (n6 : Int)), (11, .slice (pB gb) n6 n6), (12, .slice (pB gf) n6 n6), (18, .pointer (pB m4)), (19, .pointer (pB cb45)), (20, iq ((k : Nat) : Int)), (163, .bool (hasB 0 0 W1q H1q (((k : Nat) : Int) % W1q) (((k : Nat) : Int) / W1q))), (164, .bool false), (167, .int .u32 (atC W1q H1q px0 (((k : Nat) : Int) % W1q) (((k : Nat) : Int) / W1q))), (168, .slice (pB gb) n6 n6), (169, iq ((k : Nat) : Int)), (170, .pointer (some ⟨gb, (k : Nat), none⟩)), (171, .int .u32 (px0.getD (k : Nat) 0)), (172, .bool false), (175, .int .u32 (atC W1q H1q px1 (((k : Nat) : Int) % W1q) (((k : Nat) : Int) / W1q))), (176, .slice (pB gf) n6 n6), (177, iq ((k : Nat) : Int)), (178, .pointer (some ⟨gf, (k : Nat), none⟩)), (179, .int .u32 (px1.getD (k : Nat) 0)), (180, .bool ((atC W1q H1q px1 (((k : Nat) : Int) % W1q) (((k : Nat) : Int) / W1q)) != (px1.getD (k : Nat) 0))), (181, .bool ((atC W1q H1q px1 (((k : Nat) : Int) % W1q) (((k : Nat) : Int) / W1q)) != (px1.getD (k : Nat) 0)))] ?_
   refine cont_done ?_
   refine then_normal ?_
   refine cont_recast 181 (.bool ((atC W1q H1q px1 (((k : Nat) : Int) % W1q) (((k : Nat) : Int) / W1q)) != (px1.getD (k : Nat) 0))) (.bool false) rfl (congrArg Value.bool (by rw [atC_at px1 (by omega) hk1.num (by omega)]; exact bne_self_eq_false _)) ?_
   refine cont_recast 180 (.bool ((atC W1q H1q px1 (((k : Nat) : Int) % W1q) (((k : Nat) : Int) / W1q)) != (px1.getD (k : Nat) 0))) (.bool false) rfl (congrArg Value.bool (by rw [atC_at px1 (by omega) hk1.num (by omega)]; exact bne_self_eq_false _)) ?_
   refine cont_false rfl ?_
   refine cont_skip ?_
   refine blk_normal ?_
   refine then_normal ?_
   refine cont_region 3 rfl ?_
   refine bS [0, 0] 2 1 [(7, .pointer (pB b2)), (8, .pointer (pB b3)), (10, iq (n6 : Int)), (11, .slice (pB gb) n6 n6), (12, .slice (pB gf) n6 n6), (18, .pointer (pB m4)), (19, .pointer (pB cb45)), (133, iq (IntKind.i64.wrap (((k : Nat) : Int) + 1))), (163, .bool (hasB 0 0 W1q H1q (((k : Nat) : Int) % W1q) (((k : Nat) : Int) / W1q))), (164, .bool false), (167, .int .u32 (atC W1q H1q px0 (((k : Nat) : Int) % W1q) (((k : Nat) : Int) / W1q))), (168, .slice (pB gb) n6 n6), (169, iq ((k : Nat) : Int)), (170, .pointer (some ⟨gb, (k : Nat), none⟩)), (171, .int .u32 (px0.getD (k : Nat) 0)), (172, .bool false), (175, .int .u32 (atC W1q H1q px1 (((k : Nat) : Int) % W1q) (((k : Nat) : Int) / W1q))), (176, .slice (pB gf) n6 n6), (177, iq ((k : Nat) : Int)), (178, .pointer (some ⟨gf, (k : Nat), none⟩)), (179, .int .u32 (px1.getD (k : Nat) 0)), (180, .bool false)] ?_
   refine cont_recast 133 (iq (IntKind.i64.wrap (((k : Nat) : Int) + 1))) (iq (((k : Nat) : Int) + 1)) rfl (wrapI (by omega) (by omega)) ?_
   refine bS [0] 3 0 [(7, .pointer (pB b2)), (8, .pointer (pB b3)), (10, iq (n6 : Int)), (11, .slice (pB gb) n6 n6), (12, .slice (pB gf) n6 n6), (18, .pointer (pB m4)), (19, .pointer (pB cb45)), (20, iq (((k : Nat) : Int) + 1)), (163, .bool (hasB 0 0 W1q H1q (((k : Nat) : Int) % W1q) (((k : Nat) : Int) / W1q))), (164, .bool false), (167, .int .u32 (atC W1q H1q px0 (((k : Nat) : Int) % W1q) (((k : Nat) : Int) / W1q))), (168, .slice (pB gb) n6 n6), (169, iq ((k : Nat) : Int)), (170, .pointer (some ⟨gb, (k : Nat), none⟩)), (171, .int .u32 (px0.getD (k : Nat) 0)), (172, .bool false), (175, .int .u32 (atC W1q H1q px1 (((k : Nat) : Int) % W1q) (((k : Nat) : Int) / W1q))), (176, .slice (pB gf) n6 n6), (177, iq ((k : Nat) : Int)), (178, .pointer (some ⟨gf, (k : Nat), none⟩)), (179, .int .u32 (px1.getD (k : Nat) 0)), (180, .bool false)] ?_
   refine cont_done ?_
   refine then_normal ?_
   refine cont_again (k + 1) (show (k + 1) ≤ n6 from (by omega)) (show n6 - (k + 1) < n6 - k from by omega) (by kernel_rfl) (by kernel_rfl)
  replace c47_ := of_decide_eq_false c47_
  refine cont_false rfl ?_
  refine cont_exit ?_
  refine then_exit ?_
  refine then_exit ?_
  refine blk_exit ?_
  refine then_normal ?_
  refine cont_seq ?_
  refine cont_region 3 rfl ?_
  refine bS [0, 9] 2 1 [(8, .pointer (pB b3)), (12, .slice (pB gf) n6 n6), (182, .pointer (pB cb45)), (183, .agg #[iq 0, iq 0, iq W1q, iq H1q])] ?_
  refine cont_forget 3 rfl ?_
  refine cont_forget 8 rfl ?_
  refine pl_step 3 0 rfl rfl ?_
  refine call_gen (d := 184) (α := Unit) (fun _ => iq (fillN W1q H1q 0 0 W1q H1q 4294967295)) (fun _ => [.cells cb45 [iq W1q, iq H1q, .slice (pB cg45) n19 cc45] 115 true, .gen (rowE (pB cg45) cg45 n19 cc45 54 1 (ivals .u32 (fillA W1q H1q px1 0 0 W1q H1q 4294967295)) true), .gen (rowE (pB gf) gf n6 n6 54 1 (ivals .u32 px1) true), .cells b3 [.pointer (pB m4), .pointer (pB m17), .slice Ax kx cx, .slice Ay ky cy, iq w0, iq w1, iq fr, iq 0] 98 true, .cells m4 [iq W1q, iq H1q, .slice (pB r5) n6 n6] 115 true, .gen (rowE (pB r5) r5 n6 n6 54 1 (ivals .u32 px0) true), .cells m17 [iq W1q, iq H1q, .slice (pB r18) n19 n19] 115 true, .gen (rowE (pB r18) r18 n19 n19 54 1 (ivals .u32 px1) true), .gen (rdE (A) g o n 7 (dvals Deed18.cells xs)), .gen (subE n (fun i_ => rdE ((dget xs i_).A1) (dget xs i_).g1 (dget xs i_).o1 (dget xs i_).m1 4 (rvals (dget xs i_).x1)))]) (fun _ => True) (by kernel_rfl) (fun w hT => (imgFill cb45 W1q H1q cg45 n19 cc45 px1 0 0 W1q H1q 4294967295 w ⟨hT.ok 0 _ rfl, hT.ok 1 _ rfl, fun hne => hT.disj 0 1 _ _ (by omega) rfl rfl (.inr rfl) _ rfl ⟨hne, by simp⟩⟩ hk1 ⟨by omega, by omega⟩).mono fun e w' ⟨he_, hk_, hr_⟩ => ⟨(), he_, trivial, hT.keepBut hk_ (i := 1) rfl hr_⟩) (fun _ _ => ?_)
  refine cont_done ?_
  refine then_normal ?_
  refine cont_seq ?_
  refine cont_region 3 rfl ?_
  refine bS [0] 1 2 [(12, .slice (pB gf) n6 n6), (185, .pointer (pB b3))] ?_
  refine cont_forget 0 rfl ?_
  refine pl_step 2 1 rfl rfl ?_
  refine call_gen (d := 186) (α := Nat × Nat × Nat) (fun x_ => .pointer (pB x_.1)) (fun x_ => [.cells x_.1 [iq W1q, iq H1q, .slice (pB x_.2.1) n19 x_.2.2] 115 true, .gen (rowE (pB x_.2.1) x_.2.1 n19 x_.2.2 54 1 (ivals .u32 px1) true), .gen (rowE (pB cg45) cg45 n19 cc45 54 1 (ivals .u32 (fillA W1q H1q px1 0 0 W1q H1q 4294967295)) true), .gen (rowE (pB gf) gf n6 n6 54 1 (ivals .u32 px1) true), .cells b3 [.pointer (pB m4), .pointer (pB m17), .slice Ax kx cx, .slice Ay ky cy, iq w0, iq w1, iq fr, iq 0] 98 true, .cells m4 [iq W1q, iq H1q, .slice (pB r5) n6 n6] 115 true, .gen (rowE (pB r5) r5 n6 n6 54 1 (ivals .u32 px0) true), .cells m17 [iq W1q, iq H1q, .slice (pB r18) n19 n19] 115 true, .gen (rowE (pB r18) r18 n19 n19 54 1 (ivals .u32 px1) true), .gen (rdE (A) g o n 7 (dvals Deed18.cells xs)), .gen (subE n (fun i_ => rdE ((dget xs i_).A1) (dget xs i_).g1 (dget xs i_).o1 (dget xs i_).m1 4 (rvals (dget xs i_).x1)))]) (fun _ => True) (by kernel_rfl) (fun w hT => (outFront0 b3 m17 m4 Ax Ay kx cx ky cy w0 w1 fr W1q H1q r18 n19 n19 px1 w (hT.view (.cons (i := 2) rfl Vw.roc (.cons (i := 5) rfl Vw.roc (.cons (i := 6) rfl Vw.rowRd .nil))) (by decide)) (Row.capLe (hT.ok 6 _ rfl)) hk1).mono fun e w' ⟨b_, g_, c_, he_, hi_⟩ => ⟨(b_, g_, c_), he_, trivial, hT.addImg hi_⟩) ?_
  rintro ⟨cb52, cg52, cc52⟩ -
  refine cont_norm [(12, .slice (pB gf) n6 n6), (185, .pointer (pB b3)), (186, .pointer (pB cb52))] _ (by kernel_rfl) rfl ?_
  refine bS [0] 3 0 [(12, .slice (pB gf) n6 n6), (25, .pointer (pB cb52))] ?_
  refine cont_forget 4 rfl ?_
  refine cont_forget 4 rfl ?_
  refine cont_forget 5 rfl ?_
  refine cont_done ?_
  refine then_normal ?_
  refine cont_seq ?_
  refine cont_seq ?_
  refine cont_region 2 rfl ?_
  refine bS [0, 0] 2 0 [(12, .slice (pB gf) n6 n6), (25, .pointer (pB cb52)), (188, .bool false)] ?_
  refine cont_done ?_
  refine then_normal ?_
  refine cont_false rfl ?_
  refine cont_skip ?_
  refine then_normal ?_
  refine cont_seq ?_
  refine cont_region 7 rfl ?_
  refine bS [0] 1 6 [(12, .slice (pB gf) n6 n6), (190, .pointer (pB cb52))] ?_
  refine pl_step 2 5 rfl rfl ?_
  refine call_pure (d := 191) (.tuple #[.int .u32 (atC W1q H1q px1 0 0), .bool (hasB 0 0 W1q H1q 0 0)]) (by kernel_rfl) (fun w hT => imgAt cb52 W1q H1q cg52 n19 cc52 px1 0 0 w ⟨hT.ok 0 _ rfl, Row.rd (hT.ok 1 _ rfl), Row.capLe (hT.ok 1 _ rfl)⟩ hk1) ?_
  refine bS [0, 0, 0, 0, 0] 7 0 [(12, .slice (pB gf) n6 n6), (26, .int .u32 (atC W1q H1q px1 0 0))] ?_
  refine cont_forget 0 rfl ?_
  refine cont_done ?_
  refine then_normal ?_
  refine cont_seq ?_
  refine cont_region 9 rfl ?_
  refine bS [0, 0] 2 7 [(194, .int .u32 (atC W1q H1q px1 0 0)), (195, .slice (pB gf) n6 n6)] ?_
  refine pl_step 3 6 rfl rfl ?_
  refine sem_step 196 (Instr.indexAt 88 (.slice (pB gf) n6 n6) (iq 0)) (.pointer (pB gf)) (by kernel_rfl) (fun w hT => run_indexAt (e := 54) (sz := 1) _ (by kernel_rfl) (by kernel_rfl) (by omega) (by omega) (by omega) w) ?_
  refine pl_step 4 5 rfl rfl ?_
  refine sem_step 197 (Instr.loadAt 54 (.pointer (pB gf))) (.int .u32 (px1.getD 0 0)) (by kernel_rfl) (fun w hT => run_load1 (by kernel_rfl) (Row.cell (hT.ok 2 _ rfl) (0) _ (ivals_get (by omega)))) ?_
  refine bS [0, 0] 6 3 [(199, .bool ((atC W1q H1q px1 0 0) == (px1.getD 0 0)))] ?_
  refine cont_forget 2 rfl ?_
  refine cont_recast 199 (.bool ((atC W1q H1q px1 0 0) == (px1.getD 0 0))) (.bool true) rfl (congrArg Value.bool (by rw [atC_zero hk1]; exact beq_self_eq_true _)) ?_
  refine pl_step 7 2 rfl rfl ?_
  refine call_pure (d := 200) (.bool true) (by kernel_rfl) (fun w hT => lives18  w) ?_
  refine bS [0, 0] 9 0 [(6, .bool true)] ?_
  refine cont_done ?_
  refine then_normal ?_
  refine cont_ret ?_
  refine ret_one (.inl rfl) rfl 0 (.bool true) (by kernel_rfl) (by kernel_rfl) (fun w hT => ?_)
  exact ⟨rfl, hT.post rfl⟩
 ·
  refine cont_norm [(2, .slice A n cap), (7, .pointer (pB b2)), (8, .pointer (pB b3)), (10, iq (n6 : Int)), (11, .slice (pB gb) n6 n6), (12, .slice (pB gf) n6 n6), (13, iq (i : Int))] _ (by kernel_rfl) rfl ?_
  refine cont_fact (F := (0 < n6 → (pB gb : Option Addr) = pB gb) ∧ px1.length = n6 ∧ n6 ≤ n6 ∧ n6 ≤ maxLen) (fun w hT => Row.facts (hT.ok 1 _ rfl)) (fun hr54_ => ?_)
  obtain ⟨hr54_a, hr54_l, hr54_c, hr54_m⟩ := hr54_
  unfold maxLen at hr54_m
  refine cont_fact (F := (0 < n6 → (pB gf : Option Addr) = pB gf) ∧ px0.length = n6 ∧ n6 ≤ n6 ∧ n6 ≤ maxLen) (fun w hT => Row.facts (hT.ok 0 _ rfl)) (fun hr55_ => ?_)
  obtain ⟨hr55_a, hr55_l, hr55_c, hr55_m⟩ := hr55_
  unfold maxLen at hr55_m
  refine cont_seq ?_
  refine cont_seq ?_
  refine cont_region 8 rfl ?_
  refine bS [0, 0, 0, 0, 0] 5 3 [(2, .slice A n cap), (7, .pointer (pB b2)), (8, .pointer (pB b3)), (10, iq (n6 : Int)), (11, .slice (pB gb) n6 n6), (12, .slice (pB gf) n6 n6), (13, iq (i : Int)), (58, .bool (decide ((i : Int) < (n : Int))))] ?_
  refine cont_split 58 (decide ((i : Int) < (n : Int))) rfl (fun c56_ => ?_) (fun c56_ => ?_)
  ·
   replace c56_ := of_decide_eq_true c56_
   refine bS [0, 0, 0] 8 0 [(2, .slice A n cap), (7, .pointer (pB b2)), (8, .pointer (pB b3)), (10, iq (n6 : Int)), (11, .slice (pB gb) n6 n6), (12, .slice (pB gf) n6 n6), (13, iq (i : Int)), (59, iq (i : Int)), (60, .bool (decide ((i : Int) < 25))), (61, .bool (decide ((i : Int) < 25)))] ?_
   refine cont_done ?_
   refine then_normal ?_
   refine cont_split 61 (decide ((i : Int) < 25)) rfl (fun c57_ => ?_) (fun c57_ => ?_)
   ·
    refine cont_recast 60 (.bool (decide ((i : Int) < 25))) (.bool true) rfl (congrArg Value.bool c57_) ?_
    replace c57_ := of_decide_eq_true c57_
    refine cont_true rfl ?_
    refine cont_skip ?_
    refine then_normal ?_
    refine cont_seq ?_
    refine cont_block ?_
    refine cont_seq ?_
    refine cont_seq ?_
    refine cont_region 8 rfl ?_
    refine bS [0] 1 7 [(2, .slice A n cap), (7, .pointer (pB b2)), (8, .pointer (pB b3)), (10, iq (n6 : Int)), (11, .slice (pB gb) n6 n6), (12, .slice (pB gf) n6 n6), (13, iq (i : Int)), (59, iq (i : Int)), (60, .bool true), (64, .pointer (pB b3))] ?_
    refine pl_step 2 6 rfl rfl ?_
    refine call_pure (d := 65) (.pointer (pB m17)) (by kernel_rfl) (fun w hT => outBack1 b3 m4 m17 Ax Ay kx cx ky cy w0 w1 fr w (hT.viewRo (.cons (i := 2) rfl Vw.roc .nil) rfl)) ?_
    refine bS [0, 0, 0] 5 3 [(2, .slice A n cap), (7, .pointer (pB b2)), (8, .pointer (pB b3)), (10, iq (n6 : Int)), (11, .slice (pB gb) n6 n6), (12, .slice (pB gf) n6 n6), (13, iq (i : Int)), (59, iq (i : Int)), (60, .bool true), (67, .bool false), (68, .pointer (pB b3))] ?_
    refine pl_step 6 2 rfl rfl ?_
    refine call_gen (d := 69) (α := Nat × Nat × Nat) (fun x_ => .pointer (pB x_.1)) (fun x_ => [.cells x_.1 [iq W1q, iq H1q, .slice (pB x_.2.1) n6 x_.2.2] 115 true, .gen (rowE (pB x_.2.1) x_.2.1 n6 x_.2.2 54 1 (ivals .u32 px0) true), .gen (rowE (pB gf) gf n6 n6 54 1 (ivals .u32 px0) true), .gen (rowE (pB gb) gb n6 n6 54 1 (ivals .u32 px1) true), .cells b3 [.pointer (pB m4), .pointer (pB m17), .slice Ax kx cx, .slice Ay ky cy, iq w0, iq w1, iq fr, iq 1] 98 true, .cells m4 [iq W1q, iq H1q, .slice (pB r5) n6 n6] 115 true, .gen (rowE (pB r5) r5 n6 n6 54 1 (ivals .u32 px0) true), .cells m17 [iq W1q, iq H1q, .slice (pB r18) n19 n19] 115 true, .gen (rowE (pB r18) r18 n19 n19 54 1 (ivals .u32 px1) true), .cells b2 [iq 0, iq 0, iq W1q, iq H1q] 28 true, .gen (rdE (A) g o n 7 (dvals Deed18.cells xs)), .gen (subE n (fun i_ => rdE ((dget xs i_).A1) (dget xs i_).g1 (dget xs i_).o1 (dget xs i_).m1 4 (rvals (dget xs i_).x1)))]) (fun _ => True) (by kernel_rfl) (fun w hT => (outFront1 b3 m4 m17 Ax Ay kx cx ky cy w0 w1 fr W1q H1q r5 n6 n6 px0 w (hT.view (.cons (i := 2) rfl Vw.roc (.cons (i := 3) rfl Vw.roc (.cons (i := 4) rfl Vw.rowRd .nil))) (by decide)) (Row.capLe (hT.ok 4 _ rfl)) hk0).mono fun e w' ⟨b_, g_, c_, he_, hi_⟩ => ⟨(b_, g_, c_), he_, trivial, hT.addImg hi_⟩) ?_
    rintro ⟨cb58, cg58, cc58⟩ -
    refine cont_norm [(2, .slice A n cap), (7, .pointer (pB b2)), (8, .pointer (pB b3)), (10, iq (n6 : Int)), (11, .slice (pB gb) n6 n6), (12, .slice (pB gf) n6 n6), (13, iq (i : Int)), (59, iq (i : Int)), (60, .bool true), (67, .bool false), (68, .pointer (pB b3)), (69, .pointer (pB cb58))] _ (by kernel_rfl) rfl ?_
    refine bS [0, 0] 8 0 [(2, .slice A n cap), (7, .pointer (pB b2)), (8, .pointer (pB b3)), (10, iq (n6 : Int)), (11, .slice (pB gb) n6 n6), (12, .slice (pB gf) n6 n6), (13, iq (i : Int)), (59, iq (i : Int)), (60, .bool true), (68, .pointer (pB b3)), (69, .pointer (pB cb58)), (70, .bool false), (71, .bool false)] ?_
    refine cont_done ?_
    refine then_normal ?_
    refine cont_false rfl ?_
    refine cont_skip ?_
    refine then_normal ?_
    refine cont_seq ?_
    refine cont_seq ?_
    refine cont_region 6 rfl ?_
    refine cont_sub 11 i n (fun i_ => rdE ((dget xs i_).A1) (dget xs i_).g1 (dget xs i_).o1 (dget xs i_).m1 4 (rvals (dget xs i_).x1)) rfl (by omega) rfl rfl ?_
    refine cont_norm [(2, .slice A n cap), (7, .pointer (pB b2)), (8, .pointer (pB b3)), (10, iq (n6 : Int)), (11, .slice (pB gb) n6 n6), (12, .slice (pB gf) n6 n6), (13, iq (i : Int)), (59, iq (i : Int)), (60, .bool true), (68, .pointer (pB b3)), (69, .pointer (pB cb58)), (70, .bool false), (71, .bool false)] _ (by kernel_rfl) rfl ?_
    generalize hel : dget xs i = el
    have helg := hge i (by omega)
    rw [hel] at helg
    refine bS [0, 0] 2 4 [(2, .slice A n cap), (7, .pointer (pB b2)), (8, .pointer (pB b3)), (10, iq (n6 : Int)), (11, .slice (pB gb) n6 n6), (12, .slice (pB gf) n6 n6), (13, iq (i : Int)), (59, iq (i : Int)), (60, .bool true), (68, .pointer (pB b3)), (69, .pointer (pB cb58)), (70, .bool false), (72, .slice A n cap), (73, iq (i : Int))] ?_
    refine pl_step 3 3 rfl rfl ?_
    refine cont_recast 72 (.slice A n cap) (.slice (some ⟨g, o, none⟩) n cap) rfl (by rw [hra (by omega)]) ?_
    refine sem_step 74 (Instr.indexAt 59 (.slice (some ⟨g, o, none⟩) n cap) (iq (i : Int))) (.pointer (some ⟨g, o + i * 7, none⟩)) (by kernel_rfl) (fun w hT => run_indexAt (e := 64) (sz := 7) _ (by kernel_rfl) (by kernel_rfl) (by omega) (by omega) (by omega) w) ?_
    refine bS [0] 4 2 [(2, .slice A n cap), (7, .pointer (pB b2)), (8, .pointer (pB b3)), (10, iq (n6 : Int)), (11, .slice (pB gb) n6 n6), (12, .slice (pB gf) n6 n6), (13, iq (i : Int)), (59, iq (i : Int)), (60, .bool true), (68, .pointer (pB b3)), (69, .pointer (pB cb58)), (70, .bool false), (75, .pointer (some ⟨g, o + i * 7, none⟩))] ?_
    refine pl_step 5 1 rfl rfl ?_
    refine sem_step 76 (Instr.loadAt 3 (.pointer (some ⟨g, o + i * 7, none⟩))) (iq el.x0) (by kernel_rfl) (fun w hT => run_load1 (by kernel_rfl) (Rd.dcell1 Deed18.size (hT.ok 11 _ rfl) (i := i) (by omega) 0 (by rw [hel]; rfl))) ?_
    refine bS [0] 6 0 [(2, .slice A n cap), (7, .pointer (pB b2)), (8, .pointer (pB b3)), (10, iq (n6 : Int)), (11, .slice (pB gb) n6 n6), (12, .slice (pB gf) n6 n6), (13, iq (i : Int)), (59, iq (i : Int)), (60, .bool true), (68, .pointer (pB b3)), (69, .pointer (pB cb58)), (70, .bool false), (77, .bool (el.x0 == 2))] ?_
    refine cont_done ?_
    refine then_normal ?_
    refine cont_split 77 (el.x0 == 2) rfl (fun c59_ => ?_) (fun c59_ => ?_)
    ·
     replace c59_ := eq_of_beqt c59_
     refine cont_true rfl ?_
     refine cont_seq ?_
     refine cont_region 2 rfl ?_
     refine bS [0] 1 1 [(2, .slice A n cap), (7, .pointer (pB b2)), (8, .pointer (pB b3)), (10, iq (n6 : Int)), (11, .slice (pB gb) n6 n6), (12, .slice (pB gf) n6 n6), (13, iq (i : Int)), (59, iq (i : Int)), (60, .bool true), (68, .pointer (pB b3)), (69, .pointer (pB cb58)), (70, .bool false), (78, .pointer (pB b3))] ?_
     refine pl_step 2 0 rfl rfl ?_
     refine call_gen (d := 79) (α := Unit) (fun _ => iq (fr + 1)) (fun _ => [.gen (rdE (el.A1) el.g1 el.o1 el.m1 4 (rvals el.x1)), .cells cb58 [iq W1q, iq H1q, .slice (pB cg58) n6 cc58] 115 true, .gen (rowE (pB cg58) cg58 n6 cc58 54 1 (ivals .u32 px0) true), .gen (rowE (pB gf) gf n6 n6 54 1 (ivals .u32 px0) true), .gen (rowE (pB gb) gb n6 n6 54 1 (ivals .u32 px1) true), .cells b3 [.pointer (pB m4), .pointer (pB m17), .slice Ax kx cx, .slice none 0 0, iq w0, iq (fr + 1), iq (fr + 1), iq 0] 98 true, .cells m4 [iq W1q, iq H1q, .slice (pB r5) n6 n6] 115 true, .gen (rowE (pB r5) r5 n6 n6 54 1 (ivals .u32 px0) true), .cells m17 [iq W1q, iq H1q, .slice (pB r18) n19 n19] 115 true, .gen (rowE (pB r18) r18 n19 n19 54 1 (ivals .u32 px1) true), .cells b2 [iq 0, iq 0, iq W1q, iq H1q] 28 true, .gen (rdE (A) g o n 7 (dvals Deed18.cells xs)), .gen (subE n (fun i_ => rdE ((dget xs i_).A1) (dget xs i_).g1 (dget xs i_).o1 (dget xs i_).m1 4 (rvals (dget xs i_).x1)))]) (fun _ => True) (by kernel_rfl) (fun w hT => (outFlip1 b3 m4 m17 Ax Ay kx cx ky cy w0 w1 fr w (hT.view (.cons (i := 5) rfl Vw.rw .nil) (by decide)) (by omega)).mono fun e w' ⟨he_, ht_⟩ => ⟨(), he_, trivial, hT.merge (N := []) (s := [5]) ht_ (.cons (i := 5) rfl Mg.cells .nil) (by decide) (fun i e h => by simp at h)⟩) (fun _ _ => ?_)
     refine cont_done ?_
     refine then_normal ?_
     refine cont_seq ?_
     refine cont_region 2 rfl ?_
     refine bS [0, 0] 2 0 [(2, .slice A n cap), (7, .pointer (pB b2)), (8, .pointer (pB b3)), (10, iq (n6 : Int)), (12, .slice (pB gf) n6 n6), (13, iq (i : Int)), (14, .slice (pB gb) n6 n6), (59, iq (i : Int)), (60, .bool true), (68, .pointer (pB b3)), (69, .pointer (pB cb58)), (70, .bool false)] ?_
     refine cont_done ?_
     refine then_normal ?_
     refine cont_seq ?_
     refine cont_region 2 rfl ?_
     refine bS [0, 0] 2 0 [(2, .slice A n cap), (7, .pointer (pB b2)), (8, .pointer (pB b3)), (10, iq (n6 : Int)), (11, .slice (pB gf) n6 n6), (13, iq (i : Int)), (14, .slice (pB gb) n6 n6), (59, iq (i : Int)), (60, .bool true), (68, .pointer (pB b3)), (69, .pointer (pB cb58)), (70, .bool false)] ?_
     refine cont_done ?_
     refine then_normal ?_
     refine cont_seq ?_
     refine cont_region 2 rfl ?_
     refine bS [0, 0] 2 0 [(2, .slice A n cap), (7, .pointer (pB b2)), (8, .pointer (pB b3)), (10, iq (n6 : Int)), (11, .slice (pB gf) n6 n6), (12, .slice (pB gb) n6 n6), (13, iq (i : Int)), (59, iq (i : Int)), (60, .bool true), (68, .pointer (pB b3)), (69, .pointer (pB cb58)), (70, .bool false)] ?_
     refine cont_done ?_
     refine then_normal ?_
     refine cont_exit ?_
     refine then_exit ?_
     refine blk_exit ?_
     refine then_normal ?_
     refine cont_region 3 rfl ?_
     refine bS [0, 0] 2 1 [(2, .slice A n cap), (7, .pointer (pB b2)), (8, .pointer (pB b3)), (10, iq (n6 : Int)), (11, .slice (pB gf) n6 n6), (12, .slice (pB gb) n6 n6), (59, iq (i : Int)), (60, .bool true), (63, iq (IntKind.i64.wrap ((i : Int) + 1))), (68, .pointer (pB b3)), (69, .pointer (pB cb58)), (70, .bool false)] ?_
     refine cont_recast 63 (iq (IntKind.i64.wrap ((i : Int) + 1))) (iq ((i : Int) + 1)) rfl (wrapI (by omega) (by omega)) ?_
     refine bS [0] 3 0 [(2, .slice A n cap), (7, .pointer (pB b2)), (8, .pointer (pB b3)), (10, iq (n6 : Int)), (11, .slice (pB gf) n6 n6), (12, .slice (pB gb) n6 n6), (13, iq ((i : Int) + 1)), (59, iq (i : Int)), (60, .bool true), (68, .pointer (pB b3)), (69, .pointer (pB cb58)), (70, .bool false)] ?_
     refine cont_done ?_
     refine then_normal ?_
     refine cont_pick [4, 3, 5, 6, 7, 8, 9, 10, 11, 12] [.gen (rowE (pB gb) gb n6 n6 54 1 (ivals .u32 px1) true), .gen (rowE (pB gf) gf n6 n6 54 1 (ivals .u32 px0) true), .cells b3 [.pointer (pB m4), .pointer (pB m17), .slice Ax kx cx, .slice none 0 0, iq w0, iq (fr + 1), iq (fr + 1), iq 0] 98 true, .cells m4 [iq W1q, iq H1q, .slice (pB r5) n6 n6] 115 true, .gen (rowE (pB r5) r5 n6 n6 54 1 (ivals .u32 px0) true), .cells m17 [iq W1q, iq H1q, .slice (pB r18) n19 n19] 115 true, .gen (rowE (pB r18) r18 n19 n19 54 1 (ivals .u32 px1) true), .cells b2 [iq 0, iq 0, iq W1q, iq H1q] 28 true, .gen (rdE (A) g o n 7 (dvals Deed18.cells xs)), .gen (subE n (fun i_ => rdE ((dget xs i_).A1) (dget xs i_).g1 (dget xs i_).o1 (dget xs i_).m1 4 (rvals (dget xs i_).x1)))] (by decide) rfl rfl ?_
     refine cont_norm [(2, .slice A n cap), (7, .pointer (pB b2)), (8, .pointer (pB b3)), (10, iq (n6 : Int)), (11, .slice (pB gf) n6 n6), (12, .slice (pB gb) n6 n6), (13, iq ((i : Int) + 1)), (59, iq (i : Int)), (60, .bool true), (68, .pointer (pB b3)), (69, .pointer (pB cb58)), (70, .bool false)] _ (by kernel_rfl) rfl ?_
     refine cont_again ((i + 1 : Nat), 0, w0, fr + 1, fr + 1, px0, px1, gf, gb, Ax, kx, cx, none, 0, 0) (show ((i + 1 : Nat)) ≤ 25 ∧ ((i + 1 : Nat)) ≤ n ∧ (0) ≤ 1 ∧ 0 ≤ (fr + 1) ∧ (fr + 1) ≤ (((i + 1 : Nat)) : Int) ∧ 0 ≤ (w0) ∧ (w0) ≤ (fr + 1) ∧ 0 ≤ (fr + 1) ∧ (fr + 1) ≤ (fr + 1) ∧ ImgOk W1q H1q n6 (px0) ∧ ImgOk W1q H1q n19 (px1) from ⟨by omega, by omega, by omega, by omega, by omega, by omega, by omega, by omega, by omega, hk0, hk1⟩) (show 40 - ((i + 1 : Nat)) < 40 - i from by omega) (by kernel_rfl) (by kernel_rfl)
    replace c59_ := ne_of_beqf c59_
    refine cont_false rfl ?_
    refine cont_skip ?_
    refine then_normal ?_
    refine cont_seq ?_
    refine cont_region 7 rfl ?_
    have h6_ : InC el.x6 := helg.w6
    have h6p_ := h6_
    obtain ⟨h60, h61⟩ := h6p_
    refine bS [0, 0] 2 5 [(2, .slice A n cap), (7, .pointer (pB b2)), (8, .pointer (pB b3)), (10, iq (n6 : Int)), (11, .slice (pB gb) n6 n6), (12, .slice (pB gf) n6 n6), (13, iq (i : Int)), (59, iq (i : Int)), (60, .bool true), (68, .pointer (pB b3)), (69, .pointer (pB cb58)), (70, .bool false), (83, .slice A n cap), (84, iq (i : Int))] ?_
    refine pl_step 3 4 rfl rfl ?_
    refine cont_recast 83 (.slice A n cap) (.slice (some ⟨g, o, none⟩) n cap) rfl (by rw [hra (by omega)]) ?_
    refine sem_step 85 (Instr.indexAt 59 (.slice (some ⟨g, o, none⟩) n cap) (iq (i : Int))) (.pointer (some ⟨g, o + i * 7, none⟩)) (by kernel_rfl) (fun w hT => run_indexAt (e := 64) (sz := 7) _ (by kernel_rfl) (by kernel_rfl) (by omega) (by omega) (by omega) w) ?_
    refine bS [0] 4 3 [(2, .slice A n cap), (7, .pointer (pB b2)), (8, .pointer (pB b3)), (10, iq (n6 : Int)), (11, .slice (pB gb) n6 n6), (12, .slice (pB gf) n6 n6), (13, iq (i : Int)), (59, iq (i : Int)), (60, .bool true), (68, .pointer (pB b3)), (69, .pointer (pB cb58)), (70, .bool false), (86, .pointer (some ⟨g, o + i * 7 + 6, none⟩))] ?_
    refine pl_step 5 2 rfl rfl ?_
    refine sem_step 87 (Instr.loadAt 54 (.pointer (some ⟨g, o + i * 7 + 6, none⟩))) (.int .u32 el.x6) (by kernel_rfl) (fun w hT => run_load1 (by kernel_rfl) (Rd.dcell1 Deed18.size (hT.ok 11 _ rfl) (i := i) (by omega) 6 (by rw [hel]; rfl))) ?_
    refine pl_step 6 1 rfl rfl ?_
    refine call_pure (d := 88) (.int .u32 (goodC el.x6)) (by kernel_rfl) (fun w hT => refGood3 el.x6 w (by omega) (by omega)) ?_
    refine bS [0] 7 0 [(2, .slice A n cap), (7, .pointer (pB b2)), (8, .pointer (pB b3)), (10, iq (n6 : Int)), (11, .slice (pB gb) n6 n6), (12, .slice (pB gf) n6 n6), (13, iq (i : Int)), (15, .int .u32 (goodC el.x6)), (59, iq (i : Int)), (60, .bool true), (68, .pointer (pB b3)), (69, .pointer (pB cb58)), (70, .bool false)] ?_
    refine cont_done ?_
    refine then_normal ?_
    refine cont_seq ?_
    refine cont_region 8 rfl ?_
    have h2r_ : R64 (⟨el.x2, el.x3, el.x4, el.x5⟩ : Rect) := ⟨helg.w2, helg.w3, helg.w4, helg.w5⟩
    obtain ⟨h20, h21⟩ := helg.w2
    obtain ⟨h30, h31⟩ := helg.w3
    obtain ⟨h40, h41⟩ := helg.w4
    obtain ⟨h50, h51⟩ := helg.w5
    refine bS [0, 0] 2 6 [(2, .slice A n cap), (7, .pointer (pB b2)), (8, .pointer (pB b3)), (10, iq (n6 : Int)), (11, .slice (pB gb) n6 n6), (12, .slice (pB gf) n6 n6), (13, iq (i : Int)), (15, .int .u32 (goodC el.x6)), (59, iq (i : Int)), (60, .bool true), (68, .pointer (pB b3)), (69, .pointer (pB cb58)), (70, .bool false), (89, .slice A n cap), (90, iq (i : Int))] ?_
    refine pl_step 3 5 rfl rfl ?_
    refine cont_recast 89 (.slice A n cap) (.slice (some ⟨g, o, none⟩) n cap) rfl (by rw [hra (by omega)]) ?_
    refine sem_step 91 (Instr.indexAt 59 (.slice (some ⟨g, o, none⟩) n cap) (iq (i : Int))) (.pointer (some ⟨g, o + i * 7, none⟩)) (by kernel_rfl) (fun w hT => run_indexAt (e := 64) (sz := 7) _ (by kernel_rfl) (by kernel_rfl) (by omega) (by omega) (by omega) w) ?_
    refine bS [0] 4 4 [(2, .slice A n cap), (7, .pointer (pB b2)), (8, .pointer (pB b3)), (10, iq (n6 : Int)), (11, .slice (pB gb) n6 n6), (12, .slice (pB gf) n6 n6), (13, iq (i : Int)), (15, .int .u32 (goodC el.x6)), (59, iq (i : Int)), (60, .bool true), (68, .pointer (pB b3)), (69, .pointer (pB cb58)), (70, .bool false), (92, .pointer (some ⟨g, o + i * 7 + 2, none⟩))] ?_
    refine pl_step 5 3 rfl rfl ?_
    refine sem_step 93 (Instr.loadAt 28 (.pointer (some ⟨g, o + i * 7 + 2, none⟩))) (.agg #[iq el.x2, iq el.x3, iq el.x4, iq el.x5]) (by kernel_rfl) (fun w hT => run_loadN (m := 4) (cs := [iq el.x2, iq el.x3, iq el.x4, iq el.x5]) (by kernel_rfl) (by kernel_rfl) rfl (by have h_ := Rd.dsub Deed18.size (hT.ok 11 _ rfl) (i := i) (by omega) 2 4 rfl; rw [hel] at h_; exact h_)) ?_
    refine pl_step 6 2 rfl rfl ?_
    refine call_pure (d := 94) (.agg #[iq ((smallR (⟨el.x2, el.x3, el.x4, el.x5⟩)).x0), iq ((smallR (⟨el.x2, el.x3, el.x4, el.x5⟩)).y0), iq ((smallR (⟨el.x2, el.x3, el.x4, el.x5⟩)).x1), iq ((smallR (⟨el.x2, el.x3, el.x4, el.x5⟩)).y1)]) (by kernel_rfl) (fun w hT => refSmallQ (⟨el.x2, el.x3, el.x4, el.x5⟩) w (by assumption)) ?_
    refine batch1 [0, 0] 8 0 (fun b60 => [(2, .slice A n cap), (7, .pointer (pB b2)), (8, .pointer (pB b3)), (10, iq (n6 : Int)), (11, .slice (pB gb) n6 n6), (12, .slice (pB gf) n6 n6), (13, iq (i : Int)), (15, .int .u32 (goodC el.x6)), (16, .pointer (pB b60)), (59, iq (i : Int)), (60, .bool true), (68, .pointer (pB b3)), (69, .pointer (pB cb58)), (70, .bool false)]) (fun b60 => [.cells b60 [iq ((smallR (⟨el.x2, el.x3, el.x4, el.x5⟩)).x0), iq ((smallR (⟨el.x2, el.x3, el.x4, el.x5⟩)).y0), iq ((smallR (⟨el.x2, el.x3, el.x4, el.x5⟩)).x1), iq ((smallR (⟨el.x2, el.x3, el.x4, el.x5⟩)).y1)] 28 true, .gen (rdE (el.A1) el.g1 el.o1 el.m1 4 (rvals el.x1)), .cells cb58 [iq W1q, iq H1q, .slice (pB cg58) n6 cc58] 115 true, .gen (rowE (pB cg58) cg58 n6 cc58 54 1 (ivals .u32 px0) true), .gen (rowE (pB gf) gf n6 n6 54 1 (ivals .u32 px0) true), .gen (rowE (pB gb) gb n6 n6 54 1 (ivals .u32 px1) true), .cells b3 [.pointer (pB m4), .pointer (pB m17), .slice Ax kx cx, .slice Ay ky cy, iq w0, iq w1, iq fr, iq 1] 98 true, .cells m4 [iq W1q, iq H1q, .slice (pB r5) n6 n6] 115 true, .gen (rowE (pB r5) r5 n6 n6 54 1 (ivals .u32 px0) true), .cells m17 [iq W1q, iq H1q, .slice (pB r18) n19 n19] 115 true, .gen (rowE (pB r18) r18 n19 n19 54 1 (ivals .u32 px1) true), .cells b2 [iq 0, iq 0, iq W1q, iq H1q] 28 true, .gen (rdE (A) g o n 7 (dvals Deed18.cells xs)), .gen (subE n (fun i_ => rdE ((dget xs i_).A1) (dget xs i_).g1 (dget xs i_).o1 (dget xs i_).m1 4 (rvals (dget xs i_).x1)))]) rfl rfl [2, 7, 8, 10, 11, 12, 13, 15, 16, 59, 60, 68, 69, 70] (fun _ => rfl) (fun b60 => by kernel_rfl) (fun b60 => by kernel_rfl) (fun b60 => ?_)
    refine cont_done ?_
    refine then_normal ?_
    refine cont_seq ?_
    refine drawn_enter 5 [10] rfl (by kernel_rfl) ?_
    refine takes 0 [10] [(0, 0), (2, 0), (3, 0)] 2 [3, 2, 0] [(2, .slice A n cap), (7, .pointer (pB b2)), (8, .pointer (pB b3)), (10, iq (n6 : Int)), (11, .slice (pB gb) n6 n6), (12, .slice (pB gf) n6 n6), (13, iq (i : Int)), (15, .int .u32 (goodC el.x6)), (16, .pointer (pB b60)), (59, iq (i : Int)), (60, .bool true), (68, .pointer (pB b3)), (69, .pointer (pB cb58)), (70, .bool false), (95, .pointer (pB b3)), (97, .agg #[iq ((smallR (⟨el.x2, el.x3, el.x4, el.x5⟩)).x0), iq ((smallR (⟨el.x2, el.x3, el.x4, el.x5⟩)).y0), iq ((smallR (⟨el.x2, el.x3, el.x4, el.x5⟩)).x1), iq ((smallR (⟨el.x2, el.x3, el.x4, el.x5⟩)).y1)]), (98, .int .u32 (goodC el.x6))] (by kernel_rfl) (pok_then (pok_blk (pok_then (pok_then (pok_blk (pok_then pok_body)))))) (by kernel_rfl) rfl rfl (by kernel_rfl) (by kernel_rfl) ?_
    refine drawn_one 1 1 rfl (by kernel_rfl) ?_
    refine call_pure (d := 96) (.pointer (pB m17)) (by kernel_rfl) (fun w hT => outBack1 b3 m4 m17 Ax Ay kx cx ky cy w0 w1 fr w (hT.viewRo (.cons (i := 6) rfl Vw.roc .nil) rfl)) ?_
    refine drawn_next 0 [10] (by kernel_rfl) ?_
    refine drawn_one 4 0 rfl (by kernel_rfl) ?_
    refine call_gen (d := 99) (α := Unit) (fun _ => iq (fillN W1q H1q ((smallR (⟨el.x2, el.x3, el.x4, el.x5⟩)).x0) ((smallR (⟨el.x2, el.x3, el.x4, el.x5⟩)).y0) ((smallR (⟨el.x2, el.x3, el.x4, el.x5⟩)).x1) ((smallR (⟨el.x2, el.x3, el.x4, el.x5⟩)).y1) (goodC el.x6))) (fun _ => [.cells b60 [iq ((smallR (⟨el.x2, el.x3, el.x4, el.x5⟩)).x0), iq ((smallR (⟨el.x2, el.x3, el.x4, el.x5⟩)).y0), iq ((smallR (⟨el.x2, el.x3, el.x4, el.x5⟩)).x1), iq ((smallR (⟨el.x2, el.x3, el.x4, el.x5⟩)).y1)] 28 true, .gen (rdE (el.A1) el.g1 el.o1 el.m1 4 (rvals el.x1)), .cells cb58 [iq W1q, iq H1q, .slice (pB cg58) n6 cc58] 115 true, .gen (rowE (pB cg58) cg58 n6 cc58 54 1 (ivals .u32 px0) true), .gen (rowE (pB gf) gf n6 n6 54 1 (ivals .u32 px0) true), .gen (rowE (pB gb) gb n6 n6 54 1 (ivals .u32 px1) true), .cells b3 [.pointer (pB m4), .pointer (pB m17), .slice Ax kx cx, .slice Ay ky cy, iq w0, iq w1, iq fr, iq 1] 98 true, .cells m4 [iq W1q, iq H1q, .slice (pB r5) n6 n6] 115 true, .gen (rowE (pB r5) r5 n6 n6 54 1 (ivals .u32 px0) true), .cells m17 [iq W1q, iq H1q, .slice (pB r18) n19 n19] 115 true, .gen (rowE (pB r18) r18 n19 n19 54 1 (ivals .u32 (fillA W1q H1q px1 ((smallR (⟨el.x2, el.x3, el.x4, el.x5⟩)).x0) ((smallR (⟨el.x2, el.x3, el.x4, el.x5⟩)).y0) ((smallR (⟨el.x2, el.x3, el.x4, el.x5⟩)).x1) ((smallR (⟨el.x2, el.x3, el.x4, el.x5⟩)).y1) (goodC el.x6))) true), .cells b2 [iq 0, iq 0, iq W1q, iq H1q] 28 true, .gen (rdE (A) g o n 7 (dvals Deed18.cells xs)), .gen (subE n (fun i_ => rdE ((dget xs i_).A1) (dget xs i_).g1 (dget xs i_).o1 (dget xs i_).m1 4 (rvals (dget xs i_).x1)))]) (fun _ => True) (by kernel_rfl) (fun w hT => (imgFill m17 W1q H1q r18 n19 n19 px1 ((smallR (⟨el.x2, el.x3, el.x4, el.x5⟩)).x0) ((smallR (⟨el.x2, el.x3, el.x4, el.x5⟩)).y0) ((smallR (⟨el.x2, el.x3, el.x4, el.x5⟩)).x1) ((smallR (⟨el.x2, el.x3, el.x4, el.x5⟩)).y1) (goodC el.x6) w ⟨hT.ok 9 _ rfl, hT.ok 10 _ rfl, fun hne => hT.disj 9 10 _ _ (by omega) rfl rfl (.inr rfl) _ rfl ⟨hne, by simp⟩⟩ hk1 (goodC_may _ h6_).2).mono fun e w' ⟨he_, hk_, hr_⟩ => ⟨(), he_, trivial, hT.keepBut hk_ (i := 10) rfl hr_⟩) (fun _ _ => ?_)
    refine drawn_next 0 [10] (by kernel_rfl) ?_
    refine drawn_done (by kernel_rfl) ?_
    refine then_normal ?_
    refine cont_seq ?_
    refine cont_region 1 rfl ?_
    refine bS [0] 1 0 [(2, .slice A n cap), (7, .pointer (pB b2)), (8, .pointer (pB b3)), (10, iq (n6 : Int)), (11, .slice (pB gb) n6 n6), (12, .slice (pB gf) n6 n6), (13, iq (i : Int)), (15, .int .u32 (goodC el.x6)), (16, .pointer (pB b60)), (17, iq 0), (59, iq (i : Int)), (60, .bool true), (68, .pointer (pB b3)), (69, .pointer (pB cb58)), (70, .bool false)] ?_
    refine cont_done ?_
    refine then_normal ?_
    refine cont_block ?_
    refine cont_rowEq (k := .u32) 10 (fillA W1q H1q px1 ((smallR (⟨el.x2, el.x3, el.x4, el.x5⟩)).x0) ((smallR (⟨el.x2, el.x3, el.x4, el.x5⟩)).y0) ((smallR (⟨el.x2, el.x3, el.x4, el.x5⟩)).x1) ((smallR (⟨el.x2, el.x3, el.x4, el.x5⟩)).y1) (goodC el.x6)) (fillP W1q px1 ((smallR (⟨el.x2, el.x3, el.x4, el.x5⟩)).x0) ((smallR (⟨el.x2, el.x3, el.x4, el.x5⟩)).y0) ((smallR (⟨el.x2, el.x3, el.x4, el.x5⟩)).x1) ((smallR (⟨el.x2, el.x3, el.x4, el.x5⟩)).y1) (goodC el.x6)) rfl (fillA_P hk1 _ _ _ _ (goodC_may _ h6_).1) ?_
    refine cont_rowEq (k := .u32) 5 (px1) (fillM W1q px1 ((smallR (⟨el.x2, el.x3, el.x4, el.x5⟩)).x0) ((smallR (⟨el.x2, el.x3, el.x4, el.x5⟩)).y0) ((smallR (⟨el.x2, el.x3, el.x4, el.x5⟩)).x1) ((smallR (⟨el.x2, el.x3, el.x4, el.x5⟩)).y1) (goodC el.x6) 0) rfl (fillM_zero _ _ _ _ _ _ _) ?_
    refine cont_loop (α := Nat) (fun x_ : Nat => x_ ≤ n6) (fun x_ : Nat => [(2, .slice A n cap), (7, .pointer (pB b2)), (8, .pointer (pB b3)), (10, iq (n6 : Int)), (11, .slice (pB gb) n6 n6), (12, .slice (pB gf) n6 n6), (13, iq (i : Int)), (15, .int .u32 (goodC el.x6)), (16, .pointer (pB b60)), (17, iq ((x_ : Nat) : Int)), (59, iq (i : Int)), (60, .bool true), (68, .pointer (pB b3)), (69, .pointer (pB cb58)), (70, .bool false)]) (fun x_ : Nat => [.cells b60 [iq ((smallR (⟨el.x2, el.x3, el.x4, el.x5⟩)).x0), iq ((smallR (⟨el.x2, el.x3, el.x4, el.x5⟩)).y0), iq ((smallR (⟨el.x2, el.x3, el.x4, el.x5⟩)).x1), iq ((smallR (⟨el.x2, el.x3, el.x4, el.x5⟩)).y1)] 28 true, .gen (rdE (el.A1) el.g1 el.o1 el.m1 4 (rvals el.x1)), .cells cb58 [iq W1q, iq H1q, .slice (pB cg58) n6 cc58] 115 true, .gen (rowE (pB cg58) cg58 n6 cc58 54 1 (ivals .u32 px0) true), .gen (rowE (pB gf) gf n6 n6 54 1 (ivals .u32 px0) true), .gen (rowE (pB gb) gb n6 n6 54 1 (ivals .u32 (fillM W1q px1 ((smallR (⟨el.x2, el.x3, el.x4, el.x5⟩)).x0) ((smallR (⟨el.x2, el.x3, el.x4, el.x5⟩)).y0) ((smallR (⟨el.x2, el.x3, el.x4, el.x5⟩)).x1) ((smallR (⟨el.x2, el.x3, el.x4, el.x5⟩)).y1) (goodC el.x6) x_)) true), .cells b3 [.pointer (pB m4), .pointer (pB m17), .slice Ax kx cx, .slice Ay ky cy, iq w0, iq w1, iq fr, iq 1] 98 true, .cells m4 [iq W1q, iq H1q, .slice (pB r5) n6 n6] 115 true, .gen (rowE (pB r5) r5 n6 n6 54 1 (ivals .u32 px0) true), .cells m17 [iq W1q, iq H1q, .slice (pB r18) n19 n19] 115 true, .gen (rowE (pB r18) r18 n19 n19 54 1 (ivals .u32 (fillP W1q px1 ((smallR (⟨el.x2, el.x3, el.x4, el.x5⟩)).x0) ((smallR (⟨el.x2, el.x3, el.x4, el.x5⟩)).y0) ((smallR (⟨el.x2, el.x3, el.x4, el.x5⟩)).x1) ((smallR (⟨el.x2, el.x3, el.x4, el.x5⟩)).y1) (goodC el.x6))) true), .cells b2 [iq 0, iq 0, iq W1q, iq H1q] 28 true, .gen (rdE (A) g o n 7 (dvals Deed18.cells xs)), .gen (subE n (fun i_ => rdE ((dget xs i_).A1) (dget xs i_).g1 (dget xs i_).o1 (dget xs i_).m1 4 (rvals (dget xs i_).x1)))]) (fun x_ : Nat => n6 - x_) 0 (by omega) (by kernel_rfl) (by kernel_rfl) ?_
    rintro k hinv61_
    replace hinv61_ : k ≤ n6 := hinv61_
    refine cont_norm [(2, .slice A n cap), (7, .pointer (pB b2)), (8, .pointer (pB b3)), (10, iq (n6 : Int)), (11, .slice (pB gb) n6 n6), (12, .slice (pB gf) n6 n6), (13, iq (i : Int)), (15, .int .u32 (goodC el.x6)), (16, .pointer (pB b60)), (17, iq ((k : Nat) : Int)), (59, iq (i : Int)), (60, .bool true), (68, .pointer (pB b3)), (69, .pointer (pB cb58)), (70, .bool false)] _ (by kernel_rfl) rfl ?_
    have hkk := hinv61_
    have hem := emod_range k (show 1 ≤ W1q by omega)
    refine cont_seq ?_
    refine cont_seq ?_
    refine cont_region 3 rfl ?_
    refine bS [0, 0, 0] 3 0 [(2, .slice A n cap), (7, .pointer (pB b2)), (8, .pointer (pB b3)), (10, iq (n6 : Int)), (11, .slice (pB gb) n6 n6), (12, .slice (pB gf) n6 n6), (13, iq (i : Int)), (15, .int .u32 (goodC el.x6)), (16, .pointer (pB b60)), (17, iq ((k : Nat) : Int)), (59, iq (i : Int)), (60, .bool true), (68, .pointer (pB b3)), (69, .pointer (pB cb58)), (70, .bool false), (102, .bool (decide (((k : Nat) : Int) < (n6 : Int))))] ?_
    refine cont_done ?_
    refine then_normal ?_
    refine cont_split 102 (decide (((k : Nat) : Int) < (n6 : Int))) rfl (fun c62_ => ?_) (fun c62_ => ?_)
    ·
     replace c62_ := of_decide_eq_true c62_
     refine cont_true rfl ?_
     refine cont_skip ?_
     refine then_normal ?_
     refine cont_seq ?_
     refine cont_block ?_
     refine cont_seq ?_
     refine drawn_enter 10 [] rfl (by kernel_rfl) ?_
     refine takes 0 [] [(0, 0), (1, 0), (2, 0), (5, 0), (6, 0), (3, 11), (7, 11)] 3 [7, 3, 6, 5, 2, 1, 0] [(2, .slice A n cap), (7, .pointer (pB b2)), (8, .pointer (pB b3)), (10, iq (n6 : Int)), (11, .slice (pB gb) n6 n6), (12, .slice (pB gf) n6 n6), (13, iq (i : Int)), (15, .int .u32 (goodC el.x6)), (16, .pointer (pB b60)), (17, iq ((k : Nat) : Int)), (59, iq (i : Int)), (60, .bool true), (68, .pointer (pB b3)), (69, .pointer (pB cb58)), (70, .bool false), (105, .agg #[iq ((smallR (⟨el.x2, el.x3, el.x4, el.x5⟩)).x0), iq ((smallR (⟨el.x2, el.x3, el.x4, el.x5⟩)).y0), iq ((smallR (⟨el.x2, el.x3, el.x4, el.x5⟩)).x1), iq ((smallR (⟨el.x2, el.x3, el.x4, el.x5⟩)).y1)]), (106, iq ((k : Nat) : Int)), (108, iq W1q), (110, iq ((k : Nat) : Int)), (112, iq W1q)] (by kernel_rfl) (pok_then (pok_blk (pok_then (pok_then (pok_blk (pok_blk (pok_then (pok_then (pok_blk (pok_then pok_body)))))))))) (by kernel_rfl) rfl rfl (by kernel_rfl) (by kernel_rfl) ?_
     refine sem_take 0 [] 4 2 109 (bopS .rem 3 (.tmp 106) (.tmp 108) (iq ((k : Nat) : Int)) (iq W1q)) (iq (((k : Nat) : Int).tmod W1q)) (by kernel_rfl) (pok_then (pok_blk (pok_then (pok_then (pok_blk (pok_blk (pok_then (pok_then (pok_blk (pok_then pok_body)))))))))) (by kernel_rfl) rfl (by kernel_rfl) (by kernel_rfl) (fun w hT => run_rem (by omega) w) ?_
     refine cont_recast 109 (iq (((k : Nat) : Int).tmod W1q)) (iq (((k : Nat) : Int) % W1q)) rfl (tmodI (by omega)) ?_
     refine sem_take 0 [] 8 1 113 (bopS .quo 3 (.tmp 110) (.tmp 112) (iq ((k : Nat) : Int)) (iq W1q)) (iq (IntKind.i64.wrap (((k : Nat) : Int).tdiv W1q))) (by kernel_rfl) (pok_then (pok_blk (pok_then (pok_then (pok_blk (pok_blk (pok_then (pok_then (pok_blk (pok_then pok_body)))))))))) (by kernel_rfl) rfl (by kernel_rfl) (by kernel_rfl) (fun w hT => run_quo (by omega) w) ?_
     refine cont_recast 113 (iq (IntKind.i64.wrap (((k : Nat) : Int).tdiv W1q))) (iq (((k : Nat) : Int) / W1q)) rfl (tdivI (by omega) (by omega) (by omega)) ?_
     refine drawn_one 9 0 rfl (by kernel_rfl) ?_
     refine call_pure (d := 114) (.bool (hasB ((smallR (⟨el.x2, el.x3, el.x4, el.x5⟩)).x0) ((smallR (⟨el.x2, el.x3, el.x4, el.x5⟩)).y0) ((smallR (⟨el.x2, el.x3, el.x4, el.x5⟩)).x1) ((smallR (⟨el.x2, el.x3, el.x4, el.x5⟩)).y1) (((k : Nat) : Int) % W1q) (((k : Nat) : Int) / W1q))) (by kernel_rfl) (fun w hT => refHas ((smallR (⟨el.x2, el.x3, el.x4, el.x5⟩)).x0) ((smallR (⟨el.x2, el.x3, el.x4, el.x5⟩)).y0) ((smallR (⟨el.x2, el.x3, el.x4, el.x5⟩)).x1) ((smallR (⟨el.x2, el.x3, el.x4, el.x5⟩)).y1) (((k : Nat) : Int) % W1q) (((k : Nat) : Int) / W1q) w) ?_
     refine drawn_next 0 [] (by kernel_rfl) ?_
     refine drawn_done (by kernel_rfl) ?_
     refine then_normal ?_
     refine cont_split 114 (hasB ((smallR (⟨el.x2, el.x3, el.x4, el.x5⟩)).x0) ((smallR (⟨el.x2, el.x3, el.x4, el.x5⟩)).y0) ((smallR (⟨el.x2, el.x3, el.x4, el.x5⟩)).x1) ((smallR (⟨el.x2, el.x3, el.x4, el.x5⟩)).y1) (((k : Nat) : Int) % W1q) (((k : Nat) : Int) / W1q)) rfl (fun c63_ => ?_) (fun c63_ => ?_)
     ·
      have hB_ := c63_
      refine cont_true rfl ?_
      refine cont_region 5 rfl ?_
      refine cont_fact (F := (0 < n6 → (pB gb : Option Addr) = pB gb) ∧ (fillM W1q px1 ((smallR (⟨el.x2, el.x3, el.x4, el.x5⟩)).x0) ((smallR (⟨el.x2, el.x3, el.x4, el.x5⟩)).y0) ((smallR (⟨el.x2, el.x3, el.x4, el.x5⟩)).x1) ((smallR (⟨el.x2, el.x3, el.x4, el.x5⟩)).y1) (goodC el.x6) k).length = n6 ∧ n6 ≤ n6 ∧ n6 ≤ maxLen) (fun w hT => Row.facts (hT.ok 5 _ rfl)) (fun hr64_ => ?_)
      obtain ⟨hr64_a, hr64_l, hr64_c, hr64_m⟩ := hr64_
      unfold maxLen at hr64_m
      refine bS [0, 0, 0] 3 2 [(2, .slice A n cap), (7, .pointer (pB b2)), (8, .pointer (pB b3)), (10, iq (n6 : Int)), (11, .slice (pB gb) n6 n6), (12, .slice (pB gf) n6 n6), (13, iq (i : Int)), (15, .int .u32 (goodC el.x6)), (16, .pointer (pB b60)), (17, iq ((k : Nat) : Int)), (59, iq (i : Int)), (60, .bool true), (68, .pointer (pB b3)), (69, .pointer (pB cb58)), (70, .bool false), (115, .slice (pB gb) n6 n6), (116, iq ((k : Nat) : Int)), (117, .int .u32 (goodC el.x6))] ?_
      refine pl_step 4 1 rfl rfl ?_
      refine sem_step 118 (Instr.indexAt 88 (.slice (pB gb) n6 n6) (iq ((k : Nat) : Int))) (.pointer (some ⟨gb, (k : Nat), none⟩)) (by kernel_rfl) (fun w hT => run_indexAt (e := 54) (sz := 1) _ (by kernel_rfl) (by kernel_rfl) (by omega) (by omega) (by omega) w) ?_
      refine pl_step 5 0 rfl rfl ?_
      refine sem_stepU (Instr.storeAt 54 (.pointer (some ⟨gb, (k : Nat), none⟩)) (.int .u32 (goodC el.x6))) (fun _ => [.cells b60 [iq ((smallR (⟨el.x2, el.x3, el.x4, el.x5⟩)).x0), iq ((smallR (⟨el.x2, el.x3, el.x4, el.x5⟩)).y0), iq ((smallR (⟨el.x2, el.x3, el.x4, el.x5⟩)).x1), iq ((smallR (⟨el.x2, el.x3, el.x4, el.x5⟩)).y1)] 28 true, .gen (rdE (el.A1) el.g1 el.o1 el.m1 4 (rvals el.x1)), .cells cb58 [iq W1q, iq H1q, .slice (pB cg58) n6 cc58] 115 true, .gen (rowE (pB cg58) cg58 n6 cc58 54 1 (ivals .u32 px0) true), .gen (rowE (pB gf) gf n6 n6 54 1 (ivals .u32 px0) true), .gen (rowE (pB gb) gb n6 n6 54 1 (ivals .u32 ((fillM W1q px1 ((smallR (⟨el.x2, el.x3, el.x4, el.x5⟩)).x0) ((smallR (⟨el.x2, el.x3, el.x4, el.x5⟩)).y0) ((smallR (⟨el.x2, el.x3, el.x4, el.x5⟩)).x1) ((smallR (⟨el.x2, el.x3, el.x4, el.x5⟩)).y1) (goodC el.x6) k).set (k : Nat) (goodC el.x6))) true), .cells b3 [.pointer (pB m4), .pointer (pB m17), .slice Ax kx cx, .slice Ay ky cy, iq w0, iq w1, iq fr, iq 1] 98 true, .cells m4 [iq W1q, iq H1q, .slice (pB r5) n6 n6] 115 true, .gen (rowE (pB r5) r5 n6 n6 54 1 (ivals .u32 px0) true), .cells m17 [iq W1q, iq H1q, .slice (pB r18) n19 n19] 115 true, .gen (rowE (pB r18) r18 n19 n19 54 1 (ivals .u32 (fillP W1q px1 ((smallR (⟨el.x2, el.x3, el.x4, el.x5⟩)).x0) ((smallR (⟨el.x2, el.x3, el.x4, el.x5⟩)).y0) ((smallR (⟨el.x2, el.x3, el.x4, el.x5⟩)).x1) ((smallR (⟨el.x2, el.x3, el.x4, el.x5⟩)).y1) (goodC el.x6))) true), .cells b2 [iq 0, iq 0, iq W1q, iq H1q] 28 true, .gen (rdE (A) g o n 7 (dvals Deed18.cells xs)), .gen (subE n (fun i_ => rdE ((dget xs i_).A1) (dget xs i_).g1 (dget xs i_).o1 (dget xs i_).m1 4 (rvals (dget xs i_).x1)))]) (fun _ => True) (by kernel_rfl) (fun w hT => store_row hT (i := 5) rfl (by kernel_rfl) (by omega)) (fun _ _ => ?_)
      refine cont_done ?_
      refine blk_normal ?_
      refine then_normal ?_
      refine cont_region 3 rfl ?_
      refine bS [0, 0] 2 1 [(2, .slice A n cap), (7, .pointer (pB b2)), (8, .pointer (pB b3)), (10, iq (n6 : Int)), (11, .slice (pB gb) n6 n6), (12, .slice (pB gf) n6 n6), (13, iq (i : Int)), (15, .int .u32 (goodC el.x6)), (16, .pointer (pB b60)), (59, iq (i : Int)), (60, .bool true), (68, .pointer (pB b3)), (69, .pointer (pB cb58)), (70, .bool false), (104, iq (IntKind.i64.wrap (((k : Nat) : Int) + 1)))] ?_
      refine cont_recast 104 (iq (IntKind.i64.wrap (((k : Nat) : Int) + 1))) (iq (((k : Nat) : Int) + 1)) rfl (wrapI (by omega) (by omega)) ?_
      refine bS [0] 3 0 [(2, .slice A n cap), (7, .pointer (pB b2)), (8, .pointer (pB b3)), (10, iq (n6 : Int)), (11, .slice (pB gb) n6 n6), (12, .slice (pB gf) n6 n6), (13, iq (i : Int)), (15, .int .u32 (goodC el.x6)), (16, .pointer (pB b60)), (17, iq (((k : Nat) : Int) + 1)), (59, iq (i : Int)), (60, .bool true), (68, .pointer (pB b3)), (69, .pointer (pB cb58)), (70, .bool false)] ?_
      refine cont_done ?_
      refine then_normal ?_
      refine cont_rowEq (k := .u32) 5 ((fillM W1q px1 ((smallR (⟨el.x2, el.x3, el.x4, el.x5⟩)).x0) ((smallR (⟨el.x2, el.x3, el.x4, el.x5⟩)).y0) ((smallR (⟨el.x2, el.x3, el.x4, el.x5⟩)).x1) ((smallR (⟨el.x2, el.x3, el.x4, el.x5⟩)).y1) (goodC el.x6) k).set (k : Nat) (goodC el.x6)) (fillM W1q px1 ((smallR (⟨el.x2, el.x3, el.x4, el.x5⟩)).x0) ((smallR (⟨el.x2, el.x3, el.x4, el.x5⟩)).y0) ((smallR (⟨el.x2, el.x3, el.x4, el.x5⟩)).x1) ((smallR (⟨el.x2, el.x3, el.x4, el.x5⟩)).y1) (goodC el.x6) (k + 1)) rfl (fillM_yes hB_) ?_
      refine cont_again (k + 1) (show (k + 1) ≤ n6 from (by omega)) (show n6 - (k + 1) < n6 - k from by omega) (by kernel_rfl) (by kernel_rfl)
     have hB_ := c63_
     refine cont_false rfl ?_
     refine cont_skip ?_
     refine blk_normal ?_
     refine then_normal ?_
     refine cont_region 3 rfl ?_
     refine bS [0, 0] 2 1 [(2, .slice A n cap), (7, .pointer (pB b2)), (8, .pointer (pB b3)), (10, iq (n6 : Int)), (11, .slice (pB gb) n6 n6), (12, .slice (pB gf) n6 n6), (13, iq (i : Int)), (15, .int .u32 (goodC el.x6)), (16, .pointer (pB b60)), (59, iq (i : Int)), (60, .bool true), (68, .pointer (pB b3)), (69, .pointer (pB cb58)), (70, .bool false), (104, iq (IntKind.i64.wrap (((k : Nat) : Int) + 1)))] ?_
     refine cont_recast 104 (iq (IntKind.i64.wrap (((k : Nat) : Int) + 1))) (iq (((k : Nat) : Int) + 1)) rfl (wrapI (by omega) (by omega)) ?_
     refine bS [0] 3 0 [(2, .slice A n cap), (7, .pointer (pB b2)), (8, .pointer (pB b3)), (10, iq (n6 : Int)), (11, .slice (pB gb) n6 n6), (12, .slice (pB gf) n6 n6), (13, iq (i : Int)), (15, .int .u32 (goodC el.x6)), (16, .pointer (pB b60)), (17, iq (((k : Nat) : Int) + 1)), (59, iq (i : Int)), (60, .bool true), (68, .pointer (pB b3)), (69, .pointer (pB cb58)), (70, .bool false)] ?_
     refine cont_done ?_
     refine then_normal ?_
     refine cont_rowEq (k := .u32) 5 (fillM W1q px1 ((smallR (⟨el.x2, el.x3, el.x4, el.x5⟩)).x0) ((smallR (⟨el.x2, el.x3, el.x4, el.x5⟩)).y0) ((smallR (⟨el.x2, el.x3, el.x4, el.x5⟩)).x1) ((smallR (⟨el.x2, el.x3, el.x4, el.x5⟩)).y1) (goodC el.x6) k) (fillM W1q px1 ((smallR (⟨el.x2, el.x3, el.x4, el.x5⟩)).x0) ((smallR (⟨el.x2, el.x3, el.x4, el.x5⟩)).y0) ((smallR (⟨el.x2, el.x3, el.x4, el.x5⟩)).x1) ((smallR (⟨el.x2, el.x3, el.x4, el.x5⟩)).y1) (goodC el.x6) (k + 1)) rfl (fillM_no hB_) ?_
     refine cont_again (k + 1) (show (k + 1) ≤ n6 from (by omega)) (show n6 - (k + 1) < n6 - k from by omega) (by kernel_rfl) (by kernel_rfl)
    replace c62_ := of_decide_eq_false c62_
    refine cont_false rfl ?_
    refine cont_exit ?_
    refine then_exit ?_
    refine then_exit ?_
    refine blk_exit ?_
    refine blk_normal ?_
    refine then_normal ?_
    refine cont_region 3 rfl ?_
    have hkn_ := hk1.len
    have hkm_ := hk1.num
    refine cont_rowEq (k := .u32) 5 (fillM W1q px1 ((smallR (⟨el.x2, el.x3, el.x4, el.x5⟩)).x0) ((smallR (⟨el.x2, el.x3, el.x4, el.x5⟩)).y0) ((smallR (⟨el.x2, el.x3, el.x4, el.x5⟩)).x1) ((smallR (⟨el.x2, el.x3, el.x4, el.x5⟩)).y1) (goodC el.x6) k) (fillP W1q px1 ((smallR (⟨el.x2, el.x3, el.x4, el.x5⟩)).x0) ((smallR (⟨el.x2, el.x3, el.x4, el.x5⟩)).y0) ((smallR (⟨el.x2, el.x3, el.x4, el.x5⟩)).x1) ((smallR (⟨el.x2, el.x3, el.x4, el.x5⟩)).y1) (goodC el.x6)) rfl (fillM_full _ _ _ _ _ (by omega)) ?_
    refine bS [0, 0] 2 1 [(2, .slice A n cap), (7, .pointer (pB b2)), (8, .pointer (pB b3)), (10, iq (n6 : Int)), (11, .slice (pB gb) n6 n6), (12, .slice (pB gf) n6 n6), (59, iq (i : Int)), (60, .bool true), (63, iq (IntKind.i64.wrap ((i : Int) + 1))), (68, .pointer (pB b3)), (69, .pointer (pB cb58)), (70, .bool false)] ?_
    refine cont_recast 63 (iq (IntKind.i64.wrap ((i : Int) + 1))) (iq ((i : Int) + 1)) rfl (wrapI (by omega) (by omega)) ?_
    refine cont_forget 0 rfl ?_
    refine bS [0] 3 0 [(2, .slice A n cap), (7, .pointer (pB b2)), (8, .pointer (pB b3)), (10, iq (n6 : Int)), (11, .slice (pB gb) n6 n6), (12, .slice (pB gf) n6 n6), (13, iq ((i : Int) + 1)), (59, iq (i : Int)), (60, .bool true), (68, .pointer (pB b3)), (69, .pointer (pB cb58)), (70, .bool false)] ?_
    refine cont_done ?_
    refine then_normal ?_
    refine cont_pick [3, 4, 5, 6, 7, 8, 9, 10, 11, 12] [.gen (rowE (pB gf) gf n6 n6 54 1 (ivals .u32 px0) true), .gen (rowE (pB gb) gb n6 n6 54 1 (ivals .u32 (fillP W1q px1 ((smallR (⟨el.x2, el.x3, el.x4, el.x5⟩)).x0) ((smallR (⟨el.x2, el.x3, el.x4, el.x5⟩)).y0) ((smallR (⟨el.x2, el.x3, el.x4, el.x5⟩)).x1) ((smallR (⟨el.x2, el.x3, el.x4, el.x5⟩)).y1) (goodC el.x6))) true), .cells b3 [.pointer (pB m4), .pointer (pB m17), .slice Ax kx cx, .slice Ay ky cy, iq w0, iq w1, iq fr, iq 1] 98 true, .cells m4 [iq W1q, iq H1q, .slice (pB r5) n6 n6] 115 true, .gen (rowE (pB r5) r5 n6 n6 54 1 (ivals .u32 px0) true), .cells m17 [iq W1q, iq H1q, .slice (pB r18) n19 n19] 115 true, .gen (rowE (pB r18) r18 n19 n19 54 1 (ivals .u32 (fillP W1q px1 ((smallR (⟨el.x2, el.x3, el.x4, el.x5⟩)).x0) ((smallR (⟨el.x2, el.x3, el.x4, el.x5⟩)).y0) ((smallR (⟨el.x2, el.x3, el.x4, el.x5⟩)).x1) ((smallR (⟨el.x2, el.x3, el.x4, el.x5⟩)).y1) (goodC el.x6))) true), .cells b2 [iq 0, iq 0, iq W1q, iq H1q] 28 true, .gen (rdE (A) g o n 7 (dvals Deed18.cells xs)), .gen (subE n (fun i_ => rdE ((dget xs i_).A1) (dget xs i_).g1 (dget xs i_).o1 (dget xs i_).m1 4 (rvals (dget xs i_).x1)))] (by decide) rfl rfl ?_
    refine cont_norm [(2, .slice A n cap), (7, .pointer (pB b2)), (8, .pointer (pB b3)), (10, iq (n6 : Int)), (11, .slice (pB gb) n6 n6), (12, .slice (pB gf) n6 n6), (13, iq ((i : Int) + 1)), (59, iq (i : Int)), (60, .bool true), (68, .pointer (pB b3)), (69, .pointer (pB cb58)), (70, .bool false)] _ (by kernel_rfl) rfl ?_
    refine cont_again ((i + 1 : Nat), 1, w0, w1, fr, px0, fillP W1q px1 ((smallR (⟨el.x2, el.x3, el.x4, el.x5⟩)).x0) ((smallR (⟨el.x2, el.x3, el.x4, el.x5⟩)).y0) ((smallR (⟨el.x2, el.x3, el.x4, el.x5⟩)).x1) ((smallR (⟨el.x2, el.x3, el.x4, el.x5⟩)).y1) (goodC el.x6), gb, gf, Ax, kx, cx, Ay, ky, cy) (show ((i + 1 : Nat)) ≤ 25 ∧ ((i + 1 : Nat)) ≤ n ∧ (1) ≤ 1 ∧ 0 ≤ (fr) ∧ (fr) ≤ (((i + 1 : Nat)) : Int) ∧ 0 ≤ (w0) ∧ (w0) ≤ (fr) ∧ 0 ≤ (w1) ∧ (w1) ≤ (fr) ∧ ImgOk W1q H1q n6 (px0) ∧ ImgOk W1q H1q n19 (fillP W1q px1 ((smallR (⟨el.x2, el.x3, el.x4, el.x5⟩)).x0) ((smallR (⟨el.x2, el.x3, el.x4, el.x5⟩)).y0) ((smallR (⟨el.x2, el.x3, el.x4, el.x5⟩)).x1) ((smallR (⟨el.x2, el.x3, el.x4, el.x5⟩)).y1) (goodC el.x6)) from ⟨by omega, by omega, by omega, by omega, by omega, by omega, by omega, by omega, by omega, hk0, (hk1.fill _ _ _ _ (goodC_may _ h6_).2)⟩) (show 40 - ((i + 1 : Nat)) < 40 - i from by omega) (by kernel_rfl) (by kernel_rfl)
   refine cont_recast 60 (.bool (decide ((i : Int) < 25))) (.bool false) rfl (congrArg Value.bool c57_) ?_
   replace c57_ := of_decide_eq_false c57_
   refine cont_false rfl ?_
   refine cont_exit ?_
   refine then_exit ?_
   refine then_exit ?_
   refine blk_exit ?_
   refine then_normal ?_
   refine cont_seq ?_
   refine cont_region 3 rfl ?_
   refine bS [0] 1 2 [(7, .pointer (pB b2)), (8, .pointer (pB b3)), (10, iq (n6 : Int)), (11, .slice (pB gb) n6 n6), (12, .slice (pB gf) n6 n6), (119, .pointer (pB b3))] ?_
   refine pl_step 2 1 rfl rfl ?_
   refine call_pure (d := 120) (.pointer (pB m17)) (by kernel_rfl) (fun w hT => outBack1 b3 m4 m17 Ax Ay kx cx ky cy w0 w1 fr w (hT.viewRo (.cons (i := 2) rfl Vw.roc .nil) rfl)) ?_
   refine bS [0] 3 0 [(7, .pointer (pB b2)), (8, .pointer (pB b3)), (10, iq (n6 : Int)), (11, .slice (pB gb) n6 n6), (12, .slice (pB gf) n6 n6), (18, .pointer (pB m17))] ?_
   refine cont_done ?_
   refine then_normal ?_
   refine cont_seq ?_
   refine cont_region 3 rfl ?_
   refine bS [0] 1 2 [(7, .pointer (pB b2)), (8, .pointer (pB b3)), (10, iq (n6 : Int)), (11, .slice (pB gb) n6 n6), (12, .slice (pB gf) n6 n6), (18, .pointer (pB m17)), (121, .pointer (pB b3))] ?_
   refine pl_step 2 1 rfl rfl ?_
   refine call_gen (d := 122) (α := Nat × Nat × Nat) (fun x_ => .pointer (pB x_.1)) (fun x_ => [.cells x_.1 [iq W1q, iq H1q, .slice (pB x_.2.1) n6 x_.2.2] 115 true, .gen (rowE (pB x_.2.1) x_.2.1 n6 x_.2.2 54 1 (ivals .u32 px0) true), .gen (rowE (pB gf) gf n6 n6 54 1 (ivals .u32 px0) true), .gen (rowE (pB gb) gb n6 n6 54 1 (ivals .u32 px1) true), .cells b3 [.pointer (pB m4), .pointer (pB m17), .slice Ax kx cx, .slice Ay ky cy, iq w0, iq w1, iq fr, iq 1] 98 true, .cells m4 [iq W1q, iq H1q, .slice (pB r5) n6 n6] 115 true, .gen (rowE (pB r5) r5 n6 n6 54 1 (ivals .u32 px0) true), .cells m17 [iq W1q, iq H1q, .slice (pB r18) n19 n19] 115 true, .gen (rowE (pB r18) r18 n19 n19 54 1 (ivals .u32 px1) true), .cells b2 [iq 0, iq 0, iq W1q, iq H1q] 28 true, .gen (rdE (A) g o n 7 (dvals Deed18.cells xs)), .gen (subE n (fun i_ => rdE ((dget xs i_).A1) (dget xs i_).g1 (dget xs i_).o1 (dget xs i_).m1 4 (rvals (dget xs i_).x1)))]) (fun _ => True) (by kernel_rfl) (fun w hT => (outFront1 b3 m4 m17 Ax Ay kx cx ky cy w0 w1 fr W1q H1q r5 n6 n6 px0 w (hT.view (.cons (i := 2) rfl Vw.roc (.cons (i := 3) rfl Vw.roc (.cons (i := 4) rfl Vw.rowRd .nil))) (by decide)) (Row.capLe (hT.ok 4 _ rfl)) hk0).mono fun e w' ⟨b_, g_, c_, he_, hi_⟩ => ⟨(b_, g_, c_), he_, trivial, hT.addImg hi_⟩) ?_
   rintro ⟨cb65, cg65, cc65⟩ -
   refine cont_norm [(7, .pointer (pB b2)), (8, .pointer (pB b3)), (10, iq (n6 : Int)), (11, .slice (pB gb) n6 n6), (12, .slice (pB gf) n6 n6), (18, .pointer (pB m17)), (121, .pointer (pB b3)), (122, .pointer (pB cb65))] _ (by kernel_rfl) rfl ?_
   refine bS [0] 3 0 [(7, .pointer (pB b2)), (8, .pointer (pB b3)), (10, iq (n6 : Int)), (11, .slice (pB gb) n6 n6), (12, .slice (pB gf) n6 n6), (18, .pointer (pB m17)), (19, .pointer (pB cb65))] ?_
   refine cont_done ?_
   refine then_normal ?_
   refine cont_seq ?_
   refine cont_seq ?_
   refine cont_region 6 rfl ?_
   refine bS [0, 0, 0, 0, 0, 0] 6 0 [(7, .pointer (pB b2)), (8, .pointer (pB b3)), (10, iq (n6 : Int)), (11, .slice (pB gb) n6 n6), (12, .slice (pB gf) n6 n6), (18, .pointer (pB m17)), (19, .pointer (pB cb65)), (128, .bool false)] ?_
   refine cont_done ?_
   refine then_normal ?_
   refine cont_false rfl ?_
   refine cont_skip ?_
   refine then_normal ?_
   refine cont_seq ?_
   refine cont_seq ?_
   refine cont_region 1 rfl ?_
   refine bS [0] 1 0 [(7, .pointer (pB b2)), (8, .pointer (pB b3)), (10, iq (n6 : Int)), (11, .slice (pB gb) n6 n6), (12, .slice (pB gf) n6 n6), (18, .pointer (pB m17)), (19, .pointer (pB cb65)), (20, iq 0)] ?_
   refine cont_done ?_
   refine then_normal ?_
   refine cont_block ?_
   refine cont_loop (α := Nat) (fun x_ : Nat => x_ ≤ n6) (fun x_ : Nat => [(7, .pointer (pB b2)), (8, .pointer (pB b3)), (10, iq (n6 : Int)), (11, .slice (pB gb) n6 n6), (12, .slice (pB gf) n6 n6), (18, .pointer (pB m17)), (19, .pointer (pB cb65)), (20, iq ((x_ : Nat) : Int))]) (fun x_ : Nat => [.cells cb65 [iq W1q, iq H1q, .slice (pB cg65) n6 cc65] 115 true, .gen (rowE (pB cg65) cg65 n6 cc65 54 1 (ivals .u32 px0) true), .gen (rowE (pB gf) gf n6 n6 54 1 (ivals .u32 px0) true), .gen (rowE (pB gb) gb n6 n6 54 1 (ivals .u32 px1) true), .cells b3 [.pointer (pB m4), .pointer (pB m17), .slice Ax kx cx, .slice Ay ky cy, iq w0, iq w1, iq fr, iq 1] 98 true, .cells m4 [iq W1q, iq H1q, .slice (pB r5) n6 n6] 115 true, .gen (rowE (pB r5) r5 n6 n6 54 1 (ivals .u32 px0) true), .cells m17 [iq W1q, iq H1q, .slice (pB r18) n19 n19] 115 true, .gen (rowE (pB r18) r18 n19 n19 54 1 (ivals .u32 px1) true), .cells b2 [iq 0, iq 0, iq W1q, iq H1q] 28 true, .gen (rdE (A) g o n 7 (dvals Deed18.cells xs)), .gen (subE n (fun i_ => rdE ((dget xs i_).A1) (dget xs i_).g1 (dget xs i_).o1 (dget xs i_).m1 4 (rvals (dget xs i_).x1)))]) (fun x_ : Nat => n6 - x_) 0 (by omega) (by kernel_rfl) (by kernel_rfl) ?_
   rintro k hinv66_
   replace hinv66_ : k ≤ n6 := hinv66_
   refine cont_norm [(7, .pointer (pB b2)), (8, .pointer (pB b3)), (10, iq (n6 : Int)), (11, .slice (pB gb) n6 n6), (12, .slice (pB gf) n6 n6), (18, .pointer (pB m17)), (19, .pointer (pB cb65)), (20, iq ((k : Nat) : Int))] _ (by kernel_rfl) rfl ?_
   have hkk := hinv66_
   have hem := emod_range k (show 1 ≤ W1q by omega)
   refine cont_seq ?_
   refine cont_seq ?_
   refine cont_region 3 rfl ?_
   refine bS [0, 0, 0] 3 0 [(7, .pointer (pB b2)), (8, .pointer (pB b3)), (10, iq (n6 : Int)), (11, .slice (pB gb) n6 n6), (12, .slice (pB gf) n6 n6), (18, .pointer (pB m17)), (19, .pointer (pB cb65)), (20, iq ((k : Nat) : Int)), (131, .bool (decide (((k : Nat) : Int) < (n6 : Int))))] ?_
   refine cont_done ?_
   refine then_normal ?_
   refine cont_split 131 (decide (((k : Nat) : Int) < (n6 : Int))) rfl (fun c67_ => ?_) (fun c67_ => ?_)
   ·
    replace c67_ := of_decide_eq_true c67_
    refine cont_true rfl ?_
    refine cont_skip ?_
    refine then_normal ?_
    refine cont_seq ?_
    refine cont_block ?_
    refine cont_seq ?_
    refine drawn_enter 15 [] rfl (by kernel_rfl) ?_
    refine takes 0 [] [(0, 0), (1, 0), (2, 0), (5, 0), (6, 0), (3, 9), (7, 9)] 8 [7, 3, 6, 5, 2, 1, 0] [(7, .pointer (pB b2)), (8, .pointer (pB b3)), (10, iq (n6 : Int)), (11, .slice (pB gb) n6 n6), (12, .slice (pB gf) n6 n6), (18, .pointer (pB m17)), (19, .pointer (pB cb65)), (20, iq ((k : Nat) : Int)), (135, .pointer (pB m17)), (136, iq ((k : Nat) : Int)), (138, iq W1q), (140, iq ((k : Nat) : Int)), (142, iq W1q)] (by kernel_rfl) (pok_then (pok_blk (pok_then (pok_then (pok_blk (pok_then pok_body)))))) (by kernel_rfl) rfl rfl (by kernel_rfl) (by kernel_rfl) ?_
    refine sem_take 0 [] 4 7 139 (bopS .rem 3 (.tmp 136) (.tmp 138) (iq ((k : Nat) : Int)) (iq W1q)) (iq (((k : Nat) : Int).tmod W1q)) (by kernel_rfl) (pok_then (pok_blk (pok_then (pok_then (pok_blk (pok_then pok_body)))))) (by kernel_rfl) rfl (by kernel_rfl) (by kernel_rfl) (fun w hT => run_rem (by omega) w) ?_
    refine cont_recast 139 (iq (((k : Nat) : Int).tmod W1q)) (iq (((k : Nat) : Int) % W1q)) rfl (tmodI (by omega)) ?_
    refine sem_take 0 [] 8 6 143 (bopS .quo 3 (.tmp 140) (.tmp 142) (iq ((k : Nat) : Int)) (iq W1q)) (iq (IntKind.i64.wrap (((k : Nat) : Int).tdiv W1q))) (by kernel_rfl) (pok_then (pok_blk (pok_then (pok_then (pok_blk (pok_then pok_body)))))) (by kernel_rfl) rfl (by kernel_rfl) (by kernel_rfl) (fun w hT => run_quo (by omega) w) ?_
    refine cont_recast 143 (iq (IntKind.i64.wrap (((k : Nat) : Int).tdiv W1q))) (iq (((k : Nat) : Int) / W1q)) rfl (tdivI (by omega) (by omega) (by omega)) ?_
    refine drawn_one 9 5 rfl (by kernel_rfl) ?_
    refine call_pure (d := 144) (.tuple #[.int .u32 (atC W1q H1q px1 (((k : Nat) : Int) % W1q) (((k : Nat) : Int) / W1q)), .bool (hasB 0 0 W1q H1q (((k : Nat) : Int) % W1q) (((k : Nat) : Int) / W1q))]) (by kernel_rfl) (fun w hT => imgAt m17 W1q H1q r18 n19 n19 px1 (((k : Nat) : Int) % W1q) (((k : Nat) : Int) / W1q) w ⟨hT.ok 7 _ rfl, Row.rd (hT.ok 8 _ rfl), Row.capLe (hT.ok 8 _ rfl)⟩ hk1) ?_
    refine drawn_next 0 [] (by kernel_rfl) ?_
    refine takes 0 [] [(10, 0), (11, 0), (12, 0), (13, 0), (14, 0)] 0 [14, 13, 12, 11, 10, 9, 8, 4, 7, 3, 6, 5, 2, 1, 0] [(7, .pointer (pB b2)), (8, .pointer (pB b3)), (10, iq (n6 : Int)), (11, .slice (pB gb) n6 n6), (12, .slice (pB gf) n6 n6), (18, .pointer (pB m17)), (19, .pointer (pB cb65)), (20, iq ((k : Nat) : Int)), (21, .int .u32 (atC W1q H1q px1 (((k : Nat) : Int) % W1q) (((k : Nat) : Int) / W1q))), (22, .bool (hasB 0 0 W1q H1q (((k : Nat) : Int) % W1q) (((k : Nat) : Int) / W1q)))] (by kernel_rfl) (pok_then (pok_blk (pok_then (pok_then (pok_blk (pok_then pok_body)))))) (by kernel_rfl) rfl rfl (by kernel_rfl) (by kernel_rfl) ?_
    refine drawn_done (by kernel_rfl) ?_
    refine then_normal ?_
    refine cont_seq ?_
    refine drawn_enter 15 [] rfl (by kernel_rfl) ?_
    refine takes 0 [] [(0, 0), (1, 0), (2, 0), (5, 0), (6, 0), (3, 9), (7, 9)] 8 [7, 3, 6, 5, 2, 1, 0] [(7, .pointer (pB b2)), (8, .pointer (pB b3)), (10, iq (n6 : Int)), (11, .slice (pB gb) n6 n6), (12, .slice (pB gf) n6 n6), (18, .pointer (pB m17)), (19, .pointer (pB cb65)), (20, iq ((k : Nat) : Int)), (21, .int .u32 (atC W1q H1q px1 (((k : Nat) : Int) % W1q) (((k : Nat) : Int) / W1q))), (22, .bool (hasB 0 0 W1q H1q (((k : Nat) : Int) % W1q) (((k : Nat) : Int) / W1q))), (148, .pointer (pB cb65)), (149, iq ((k : Nat) : Int)), (151, iq W1q), (153, iq ((k : Nat) : Int)), (155, iq W1q)] (by kernel_rfl) (pok_then (pok_blk (pok_then (pok_then (pok_blk (pok_then pok_body)))))) (by kernel_rfl) rfl rfl (by kernel_rfl) (by kernel_rfl) ?_
    refine sem_take 0 [] 4 7 152 (bopS .rem 3 (.tmp 149) (.tmp 151) (iq ((k : Nat) : Int)) (iq W1q)) (iq (((k : Nat) : Int).tmod W1q)) (by kernel_rfl) (pok_then (pok_blk (pok_then (pok_then (pok_blk (pok_then pok_body)))))) (by kernel_rfl) rfl (by kernel_rfl) (by kernel_rfl) (fun w hT => run_rem (by omega) w) ?_
    refine cont_recast 152 (iq (((k : Nat) : Int).tmod W1q)) (iq (((k : Nat) : Int) % W1q)) rfl (tmodI (by omega)) ?_
    refine sem_take 0 [] 8 6 156 (bopS .quo 3 (.tmp 153) (.tmp 155) (iq ((k : Nat) : Int)) (iq W1q)) (iq (IntKind.i64.wrap (((k : Nat) : Int).tdiv W1q))) (by kernel_rfl) (pok_then (pok_blk (pok_then (pok_then (pok_blk (pok_then pok_body)))))) (by kernel_rfl) rfl (by kernel_rfl) (by kernel_rfl) (fun w hT => run_quo (by omega) w) ?_
    refine cont_recast 156 (iq (IntKind.i64.wrap (((k : Nat) : Int).tdiv W1q))) (iq (((k : Nat) : Int) / W1q)) rfl (tdivI (by omega) (by omega) (by omega)) ?_
    refine drawn_one 9 5 rfl (by kernel_rfl) ?_
    refine call_pure (d := 157) (.tuple #[.int .u32 (atC W1q H1q px0 (((k : Nat) : Int) % W1q) (((k : Nat) : Int) / W1q)), .bool (hasB 0 0 W1q H1q (((k : Nat) : Int) % W1q) (((k : Nat) : Int) / W1q))]) (by kernel_rfl) (fun w hT => imgAt cb65 W1q H1q cg65 n6 cc65 px0 (((k : Nat) : Int) % W1q) (((k : Nat) : Int) / W1q) w ⟨hT.ok 0 _ rfl, Row.rd (hT.ok 1 _ rfl), Row.capLe (hT.ok 1 _ rfl)⟩ hk0) ?_
    refine drawn_next 0 [] (by kernel_rfl) ?_
    refine takes 0 [] [(10, 0), (11, 0), (12, 0), (13, 0), (14, 0)] 0 [14, 13, 12, 11, 10, 9, 8, 4, 7, 3, 6, 5, 2, 1, 0] [(7, .pointer (pB b2)), (8, .pointer (pB b3)), (10, iq (n6 : Int)), (11, .slice (pB gb) n6 n6), (12, .slice (pB gf) n6 n6), (18, .pointer (pB m17)), (19, .pointer (pB cb65)), (20, iq ((k : Nat) : Int)), (21, .int .u32 (atC W1q H1q px1 (((k : Nat) : Int) % W1q) (((k : Nat) : Int) / W1q))), (22, .bool (hasB 0 0 W1q H1q (((k : Nat) : Int) % W1q) (((k : Nat) : Int) / W1q))), (23, .int .u32 (atC W1q H1q px0 (((k : Nat) : Int) % W1q) (((k : Nat) : Int) / W1q))), (24, .bool (hasB 0 0 W1q H1q (((k : Nat) : Int) % W1q) (((k : Nat) : Int) / W1q)))] (by kernel_rfl) (pok_then (pok_blk (pok_then (pok_then (pok_blk (pok_then pok_body)))))) (by kernel_rfl) rfl rfl (by kernel_rfl) (by kernel_rfl) ?_
    refine drawn_done (by kernel_rfl) ?_
    refine then_normal ?_
    refine cont_seq ?_
    refine cont_region 22 rfl ?_
    refine bS [0, 0, 0] 3 19 [(7, .pointer (pB b2)), (8, .pointer (pB b3)), (10, iq (n6 : Int)), (11, .slice (pB gb) n6 n6), (12, .slice (pB gf) n6 n6), (18, .pointer (pB m17)), (19, .pointer (pB cb65)), (20, iq ((k : Nat) : Int)), (21, .int .u32 (atC W1q H1q px1 (((k : Nat) : Int) % W1q) (((k : Nat) : Int) / W1q))), (23, .int .u32 (atC W1q H1q px0 (((k : Nat) : Int) % W1q) (((k : Nat) : Int) / W1q))), (24, .bool (hasB 0 0 W1q H1q (((k : Nat) : Int) % W1q) (((k : Nat) : Int) / W1q))), (162, .bool (!(hasB 0 0 W1q H1q (((k : Nat) : Int) % W1q) (((k : Nat) : Int) / W1q))))] ?_
    refine cont_recast 162 (.bool (!(hasB 0 0 W1q H1q (((k : Nat) : Int) % W1q) (((k : Nat) : Int) / W1q)))) (.bool false) rfl (congrArg Value.bool (by rw [show (hasB 0 0 W1q H1q (((k : Nat) : Int) % W1q) (((k : Nat) : Int) / W1q)) = true from (in_box (by omega) hk0.num (by omega))]; rfl)) ?_
    refine bS [0, 0, 0, 0] 7 15 [(7, .pointer (pB b2)), (8, .pointer (pB b3)), (10, iq (n6 : Int)), (11, .slice (pB gb) n6 n6), (12, .slice (pB gf) n6 n6), (18, .pointer (pB m17)), (19, .pointer (pB cb65)), (20, iq ((k : Nat) : Int)), (21, .int .u32 (atC W1q H1q px1 (((k : Nat) : Int) % W1q) (((k : Nat) : Int) / W1q))), (23, .int .u32 (atC W1q H1q px0 (((k : Nat) : Int) % W1q) (((k : Nat) : Int) / W1q))), (163, .bool (hasB 0 0 W1q H1q (((k : Nat) : Int) % W1q) (((k : Nat) : Int) / W1q))), (164, .bool (!(hasB 0 0 W1q H1q (((k : Nat) : Int) % W1q) (((k : Nat) : Int) / W1q)))), (166, .bool (!(hasB 0 0 W1q H1q (((k : Nat) : Int) % W1q) (((k : Nat) : Int) / W1q))))] ?_
    refine cont_recast 166 (.bool (!(hasB 0 0 W1q H1q (((k : Nat) : Int) % W1q) (((k : Nat) : Int) / W1q)))) (.bool false) rfl (congrArg Value.bool (by rw [show (hasB 0 0 W1q H1q (((k : Nat) : Int) % W1q) (((k : Nat) : Int) / W1q)) = true from (in_box (by omega) hk0.num (by omega))]; rfl)) ?_
    refine cont_recast 164 (.bool (!(hasB 0 0 W1q H1q (((k : Nat) : Int) % W1q) (((k : Nat) : Int) / W1q)))) (.bool false) rfl (congrArg Value.bool (by rw [show (hasB 0 0 W1q H1q (((k : Nat) : Int) % W1q) (((k : Nat) : Int) / W1q)) = true from (in_box (by omega) hk0.num (by omega))]; rfl)) ?_
    refine bS [0, 0, 0] 10 12 [(7, .pointer (pB b2)), (8, .pointer (pB b3)), (10, iq (n6 : Int)), (11, .slice (pB gb) n6 n6), (12, .slice (pB gf) n6 n6), (18, .pointer (pB m17)), (19, .pointer (pB cb65)), (20, iq ((k : Nat) : Int)), (23, .int .u32 (atC W1q H1q px0 (((k : Nat) : Int) % W1q) (((k : Nat) : Int) / W1q))), (163, .bool (hasB 0 0 W1q H1q (((k : Nat) : Int) % W1q) (((k : Nat) : Int) / W1q))), (164, .bool false), (166, .bool false), (167, .int .u32 (atC W1q H1q px1 (((k : Nat) : Int) % W1q) (((k : Nat) : Int) / W1q))), (168, .slice (pB gb) n6 n6), (169, iq ((k : Nat) : Int))] ?_
    refine pl_step 11 11 rfl rfl ?_
    refine sem_step 170 (Instr.indexAt 88 (.slice (pB gb) n6 n6) (iq ((k : Nat) : Int))) (.pointer (some ⟨gb, (k : Nat), none⟩)) (by kernel_rfl) (fun w hT => run_indexAt (e := 54) (sz := 1) _ (by kernel_rfl) (by kernel_rfl) (by omega) (by omega) (by omega) w) ?_
    refine pl_step 12 10 rfl rfl ?_
    refine sem_step 171 (Instr.loadAt 54 (.pointer (some ⟨gb, (k : Nat), none⟩))) (.int .u32 (px1.getD (k : Nat) 0)) (by kernel_rfl) (fun w hT => run_load1 (by kernel_rfl) (Row.cell (hT.ok 3 _ rfl) ((k : Nat)) _ (ivals_get (by omega)))) ?_
    refine bS [0, 0, 0] 15 7 [(7, .pointer (pB b2)), (8, .pointer (pB b3)), (10, iq (n6 : Int)), (11, .slice (pB gb) n6 n6), (12, .slice (pB gf) n6 n6), (18, .pointer (pB m17)), (19, .pointer (pB cb65)), (20, iq ((k : Nat) : Int)), (23, .int .u32 (atC W1q H1q px0 (((k : Nat) : Int) % W1q) (((k : Nat) : Int) / W1q))), (163, .bool (hasB 0 0 W1q H1q (((k : Nat) : Int) % W1q) (((k : Nat) : Int) / W1q))), (164, .bool false), (167, .int .u32 (atC W1q H1q px1 (((k : Nat) : Int) % W1q) (((k : Nat) : Int) / W1q))), (168, .slice (pB gb) n6 n6), (169, iq ((k : Nat) : Int)), (170, .pointer (some ⟨gb, (k : Nat), none⟩)), (171, .int .u32 (px1.getD (k : Nat) 0)), (172, .bool ((atC W1q H1q px1 (((k : Nat) : Int) % W1q) (((k : Nat) : Int) / W1q)) != (px1.getD (k : Nat) 0))), (174, .bool ((atC W1q H1q px1 (((k : Nat) : Int) % W1q) (((k : Nat) : Int) / W1q)) != (px1.getD (k : Nat) 0)))] ?_
    refine cont_recast 174 (.bool ((atC W1q H1q px1 (((k : Nat) : Int) % W1q) (((k : Nat) : Int) / W1q)) != (px1.getD (k : Nat) 0))) (.bool false) rfl (congrArg Value.bool (by rw [atC_at px1 (by omega) hk1.num (by omega)]; exact bne_self_eq_false _)) ?_
    refine cont_recast 172 (.bool ((atC W1q H1q px1 (((k : Nat) : Int) % W1q) (((k : Nat) : Int) / W1q)) != (px1.getD (k : Nat) 0))) (.bool false) rfl (congrArg Value.bool (by rw [atC_at px1 (by omega) hk1.num (by omega)]; exact bne_self_eq_false _)) ?_
    refine bS [0, 0, 0] 18 4 [(7, .pointer (pB b2)), (8, .pointer (pB b3)), (10, iq (n6 : Int)), (11, .slice (pB gb) n6 n6), (12, .slice (pB gf) n6 n6), (18, .pointer (pB m17)), (19, .pointer (pB cb65)), (20, iq ((k : Nat) : Int)), (163, .bool (hasB 0 0 W1q H1q (((k : Nat) : Int) % W1q) (((k : Nat) : Int) / W1q))), (164, .bool false), (167, .int .u32 (atC W1q H1q px1 (((k : Nat) : Int) % W1q) (((k : Nat) : Int) / W1q))), (168, .slice (pB gb) n6 n6), (169, iq ((k : Nat) : Int)), (170, .pointer (some ⟨gb, (k : Nat), none⟩)), (171, .int .u32 (px1.getD (k : Nat) 0)), (172, .bool false), (174, .bool false), (175, .int .u32 (atC W1q H1q px0 (((k : Nat) : Int) % W1q) (((k : Nat) : Int) / W1q))), (176, .slice (pB gf) n6 n6), (177, iq ((k : Nat) : Int))] ?_
    refine pl_step 19 3 rfl rfl ?_
    refine sem_step 178 (Instr.indexAt 88 (.slice (pB gf) n6 n6) (iq ((k : Nat) : Int))) (.pointer (some ⟨gf, (k : Nat), none⟩)) (by kernel_rfl) (fun w hT => run_indexAt (e := 54) (sz := 1) _ (by kernel_rfl) (by kernel_rfl) (by omega) (by omega) (by omega) w) ?_
    refine pl_step 20 2 rfl rfl ?_
    refine sem_step 179 (Instr.loadAt 54 (.pointer (some ⟨gf, (k : Nat), none⟩))) (.int .u32 (px0.getD (k : Nat) 0)) (by kernel_rfl) (fun w hT => run_load1 (by kernel_rfl) (Row.cell (hT.ok 2 _ rfl) ((k : Nat)) _ (ivals_get (by omega)))) ?_
    refine bS [0, 0] 22 0 [(7, .pointer (pB b2)), (8, .pointer (pB b3)), (10, iq (n6 : Int)), (11, .slice (pB gb) n6 n6), (12, .slice (pB gf) n6 n6), (18, .pointer (pB m17)), (19, .pointer (pB cb65)), (20, iq ((k : Nat) : Int)), (163, .bool (hasB 0 0 W1q H1q (((k : Nat) : Int) % W1q) (((k : Nat) : Int) / W1q))), (164, .bool false), (167, .int .u32 (atC W1q H1q px1 (((k : Nat) : Int) % W1q) (((k : Nat) : Int) / W1q))), (168, .slice (pB gb) n6 n6), (169, iq ((k : Nat) : Int)), (170, .pointer (some ⟨gb, (k : Nat), none⟩)), (171, .int .u32 (px1.getD (k : Nat) 0)), (172, .bool false), (175, .int .u32 (atC W1q H1q px0 (((k : Nat) : Int) % W1q) (((k : Nat) : Int) / W1q))), (176, .slice (pB gf) n6 n6), (177, iq ((k : Nat) : Int)), (178, .pointer (some ⟨gf, (k : Nat), none⟩)), (179, .int .u32 (px0.getD (k : Nat) 0)), (180, .bool ((atC W1q H1q px0 (((k : Nat) : Int) % W1q) (((k : Nat) : Int) / W1q)) != (px0.getD (k : Nat) 0))), (181, .bool ((atC W1q H1q px0 (((k : Nat) : Int) % W1q) (((k : Nat) : Int) / W1q)) != (px0.getD (k : Nat) 0)))] ?_
    refine cont_done ?_
    refine then_normal ?_
    refine cont_recast 181 (.bool ((atC W1q H1q px0 (((k : Nat) : Int) % W1q) (((k : Nat) : Int) / W1q)) != (px0.getD (k : Nat) 0))) (.bool false) rfl (congrArg Value.bool (by rw [atC_at px0 (by omega) hk0.num (by omega)]; exact bne_self_eq_false _)) ?_
    refine cont_recast 180 (.bool ((atC W1q H1q px0 (((k : Nat) : Int) % W1q) (((k : Nat) : Int) / W1q)) != (px0.getD (k : Nat) 0))) (.bool false) rfl (congrArg Value.bool (by rw [atC_at px0 (by omega) hk0.num (by omega)]; exact bne_self_eq_false _)) ?_
    refine cont_false rfl ?_
    refine cont_skip ?_
    refine blk_normal ?_
    refine then_normal ?_
    refine cont_region 3 rfl ?_
    refine bS [0, 0] 2 1 [(7, .pointer (pB b2)), (8, .pointer (pB b3)), (10, iq (n6 : Int)), (11, .slice (pB gb) n6 n6), (12, .slice (pB gf) n6 n6), (18, .pointer (pB m17)), (19, .pointer (pB cb65)), (133, iq (IntKind.i64.wrap (((k : Nat) : Int) + 1))), (163, .bool (hasB 0 0 W1q H1q (((k : Nat) : Int) % W1q) (((k : Nat) : Int) / W1q))), (164, .bool false), (167, .int .u32 (atC W1q H1q px1 (((k : Nat) : Int) % W1q) (((k : Nat) : Int) / W1q))), (168, .slice (pB gb) n6 n6), (169, iq ((k : Nat) : Int)), (170, .pointer (some ⟨gb, (k : Nat), none⟩)), (171, .int .u32 (px1.getD (k : Nat) 0)), (172, .bool false), (175, .int .u32 (atC W1q H1q px0 (((k : Nat) : Int) % W1q) (((k : Nat) : Int) / W1q))), (176, .slice (pB gf) n6 n6), (177, iq ((k : Nat) : Int)), (178, .pointer (some ⟨gf, (k : Nat), none⟩)), (179, .int .u32 (px0.getD (k : Nat) 0)), (180, .bool false)] ?_
    refine cont_recast 133 (iq (IntKind.i64.wrap (((k : Nat) : Int) + 1))) (iq (((k : Nat) : Int) + 1)) rfl (wrapI (by omega) (by omega)) ?_
    refine bS [0] 3 0 [(7, .pointer (pB b2)), (8, .pointer (pB b3)), (10, iq (n6 : Int)), (11, .slice (pB gb) n6 n6), (12, .slice (pB gf) n6 n6), (18, .pointer (pB m17)), (19, .pointer (pB cb65)), (20, iq (((k : Nat) : Int) + 1)), (163, .bool (hasB 0 0 W1q H1q (((k : Nat) : Int) % W1q) (((k : Nat) : Int) / W1q))), (164, .bool false), (167, .int .u32 (atC W1q H1q px1 (((k : Nat) : Int) % W1q) (((k : Nat) : Int) / W1q))), (168, .slice (pB gb) n6 n6), (169, iq ((k : Nat) : Int)), (170, .pointer (some ⟨gb, (k : Nat), none⟩)), (171, .int .u32 (px1.getD (k : Nat) 0)), (172, .bool false), (175, .int .u32 (atC W1q H1q px0 (((k : Nat) : Int) % W1q) (((k : Nat) : Int) / W1q))), (176, .slice (pB gf) n6 n6), (177, iq ((k : Nat) : Int)), (178, .pointer (some ⟨gf, (k : Nat), none⟩)), (179, .int .u32 (px0.getD (k : Nat) 0)), (180, .bool false)] ?_
    refine cont_done ?_
    refine then_normal ?_
    refine cont_again (k + 1) (show (k + 1) ≤ n6 from (by omega)) (show n6 - (k + 1) < n6 - k from by omega) (by kernel_rfl) (by kernel_rfl)
   replace c67_ := of_decide_eq_false c67_
   refine cont_false rfl ?_
   refine cont_exit ?_
   refine then_exit ?_
   refine then_exit ?_
   refine blk_exit ?_
   refine then_normal ?_
   refine cont_seq ?_
   refine cont_region 3 rfl ?_
   refine bS [0, 9] 2 1 [(8, .pointer (pB b3)), (12, .slice (pB gf) n6 n6), (182, .pointer (pB cb65)), (183, .agg #[iq 0, iq 0, iq W1q, iq H1q])] ?_
   refine cont_forget 3 rfl ?_
   refine cont_forget 8 rfl ?_
   refine pl_step 3 0 rfl rfl ?_
   refine call_gen (d := 184) (α := Unit) (fun _ => iq (fillN W1q H1q 0 0 W1q H1q 4294967295)) (fun _ => [.cells cb65 [iq W1q, iq H1q, .slice (pB cg65) n6 cc65] 115 true, .gen (rowE (pB cg65) cg65 n6 cc65 54 1 (ivals .u32 (fillA W1q H1q px0 0 0 W1q H1q 4294967295)) true), .gen (rowE (pB gf) gf n6 n6 54 1 (ivals .u32 px0) true), .cells b3 [.pointer (pB m4), .pointer (pB m17), .slice Ax kx cx, .slice Ay ky cy, iq w0, iq w1, iq fr, iq 1] 98 true, .cells m4 [iq W1q, iq H1q, .slice (pB r5) n6 n6] 115 true, .gen (rowE (pB r5) r5 n6 n6 54 1 (ivals .u32 px0) true), .cells m17 [iq W1q, iq H1q, .slice (pB r18) n19 n19] 115 true, .gen (rowE (pB r18) r18 n19 n19 54 1 (ivals .u32 px1) true), .gen (rdE (A) g o n 7 (dvals Deed18.cells xs)), .gen (subE n (fun i_ => rdE ((dget xs i_).A1) (dget xs i_).g1 (dget xs i_).o1 (dget xs i_).m1 4 (rvals (dget xs i_).x1)))]) (fun _ => True) (by kernel_rfl) (fun w hT => (imgFill cb65 W1q H1q cg65 n6 cc65 px0 0 0 W1q H1q 4294967295 w ⟨hT.ok 0 _ rfl, hT.ok 1 _ rfl, fun hne => hT.disj 0 1 _ _ (by omega) rfl rfl (.inr rfl) _ rfl ⟨hne, by simp⟩⟩ hk0 ⟨by omega, by omega⟩).mono fun e w' ⟨he_, hk_, hr_⟩ => ⟨(), he_, trivial, hT.keepBut hk_ (i := 1) rfl hr_⟩) (fun _ _ => ?_)
   refine cont_done ?_
   refine then_normal ?_
   refine cont_seq ?_
   refine cont_region 3 rfl ?_
   refine bS [0] 1 2 [(12, .slice (pB gf) n6 n6), (185, .pointer (pB b3))] ?_
   refine cont_forget 0 rfl ?_
   refine pl_step 2 1 rfl rfl ?_
   refine call_gen (d := 186) (α := Nat × Nat × Nat) (fun x_ => .pointer (pB x_.1)) (fun x_ => [.cells x_.1 [iq W1q, iq H1q, .slice (pB x_.2.1) n6 x_.2.2] 115 true, .gen (rowE (pB x_.2.1) x_.2.1 n6 x_.2.2 54 1 (ivals .u32 px0) true), .gen (rowE (pB cg65) cg65 n6 cc65 54 1 (ivals .u32 (fillA W1q H1q px0 0 0 W1q H1q 4294967295)) true), .gen (rowE (pB gf) gf n6 n6 54 1 (ivals .u32 px0) true), .cells b3 [.pointer (pB m4), .pointer (pB m17), .slice Ax kx cx, .slice Ay ky cy, iq w0, iq w1, iq fr, iq 1] 98 true, .cells m4 [iq W1q, iq H1q, .slice (pB r5) n6 n6] 115 true, .gen (rowE (pB r5) r5 n6 n6 54 1 (ivals .u32 px0) true), .cells m17 [iq W1q, iq H1q, .slice (pB r18) n19 n19] 115 true, .gen (rowE (pB r18) r18 n19 n19 54 1 (ivals .u32 px1) true), .gen (rdE (A) g o n 7 (dvals Deed18.cells xs)), .gen (subE n (fun i_ => rdE ((dget xs i_).A1) (dget xs i_).g1 (dget xs i_).o1 (dget xs i_).m1 4 (rvals (dget xs i_).x1)))]) (fun _ => True) (by kernel_rfl) (fun w hT => (outFront1 b3 m4 m17 Ax Ay kx cx ky cy w0 w1 fr W1q H1q r5 n6 n6 px0 w (hT.view (.cons (i := 2) rfl Vw.roc (.cons (i := 3) rfl Vw.roc (.cons (i := 4) rfl Vw.rowRd .nil))) (by decide)) (Row.capLe (hT.ok 4 _ rfl)) hk0).mono fun e w' ⟨b_, g_, c_, he_, hi_⟩ => ⟨(b_, g_, c_), he_, trivial, hT.addImg hi_⟩) ?_
   rintro ⟨cb72, cg72, cc72⟩ -
   refine cont_norm [(12, .slice (pB gf) n6 n6), (185, .pointer (pB b3)), (186, .pointer (pB cb72))] _ (by kernel_rfl) rfl ?_
   refine bS [0] 3 0 [(12, .slice (pB gf) n6 n6), (25, .pointer (pB cb72))] ?_
   refine cont_forget 4 rfl ?_
   refine cont_forget 4 rfl ?_
   refine cont_forget 5 rfl ?_
   refine cont_done ?_
   refine then_normal ?_
   refine cont_seq ?_
   refine cont_seq ?_
   refine cont_region 2 rfl ?_
   refine bS [0, 0] 2 0 [(12, .slice (pB gf) n6 n6), (25, .pointer (pB cb72)), (188, .bool false)] ?_
   refine cont_done ?_
   refine then_normal ?_
   refine cont_false rfl ?_
   refine cont_skip ?_
   refine then_normal ?_
   refine cont_seq ?_
   refine cont_region 7 rfl ?_
   refine bS [0] 1 6 [(12, .slice (pB gf) n6 n6), (190, .pointer (pB cb72))] ?_
   refine pl_step 2 5 rfl rfl ?_
   refine call_pure (d := 191) (.tuple #[.int .u32 (atC W1q H1q px0 0 0), .bool (hasB 0 0 W1q H1q 0 0)]) (by kernel_rfl) (fun w hT => imgAt cb72 W1q H1q cg72 n6 cc72 px0 0 0 w ⟨hT.ok 0 _ rfl, Row.rd (hT.ok 1 _ rfl), Row.capLe (hT.ok 1 _ rfl)⟩ hk0) ?_
   refine bS [0, 0, 0, 0, 0] 7 0 [(12, .slice (pB gf) n6 n6), (26, .int .u32 (atC W1q H1q px0 0 0))] ?_
   refine cont_forget 0 rfl ?_
   refine cont_done ?_
   refine then_normal ?_
   refine cont_seq ?_
   refine cont_region 9 rfl ?_
   refine bS [0, 0] 2 7 [(194, .int .u32 (atC W1q H1q px0 0 0)), (195, .slice (pB gf) n6 n6)] ?_
   refine pl_step 3 6 rfl rfl ?_
   refine sem_step 196 (Instr.indexAt 88 (.slice (pB gf) n6 n6) (iq 0)) (.pointer (pB gf)) (by kernel_rfl) (fun w hT => run_indexAt (e := 54) (sz := 1) _ (by kernel_rfl) (by kernel_rfl) (by omega) (by omega) (by omega) w) ?_
   refine pl_step 4 5 rfl rfl ?_
   refine sem_step 197 (Instr.loadAt 54 (.pointer (pB gf))) (.int .u32 (px0.getD 0 0)) (by kernel_rfl) (fun w hT => run_load1 (by kernel_rfl) (Row.cell (hT.ok 2 _ rfl) (0) _ (ivals_get (by omega)))) ?_
   refine bS [0, 0] 6 3 [(199, .bool ((atC W1q H1q px0 0 0) == (px0.getD 0 0)))] ?_
   refine cont_forget 2 rfl ?_
   refine cont_recast 199 (.bool ((atC W1q H1q px0 0 0) == (px0.getD 0 0))) (.bool true) rfl (congrArg Value.bool (by rw [atC_zero hk0]; exact beq_self_eq_true _)) ?_
   refine pl_step 7 2 rfl rfl ?_
   refine call_pure (d := 200) (.bool true) (by kernel_rfl) (fun w hT => lives18  w) ?_
   refine bS [0, 0] 9 0 [(6, .bool true)] ?_
   refine cont_done ?_
   refine then_normal ?_
   refine cont_ret ?_
   refine ret_one (.inl rfl) rfl 0 (.bool true) (by kernel_rfl) (by kernel_rfl) (fun w hT => ?_)
   exact ⟨rfl, hT.post rfl⟩
  replace c56_ := of_decide_eq_false c56_
  refine bS [0, 0, 0] 8 0 [(2, .slice A n cap), (7, .pointer (pB b2)), (8, .pointer (pB b3)), (10, iq (n6 : Int)), (11, .slice (pB gb) n6 n6), (12, .slice (pB gf) n6 n6), (13, iq (i : Int)), (59, undef), (60, undef), (61, .bool false)] ?_
  refine cont_done ?_
  refine then_normal ?_
  refine cont_false rfl ?_
  refine cont_exit ?_
  refine then_exit ?_
  refine then_exit ?_
  refine blk_exit ?_
  refine then_normal ?_
  refine cont_seq ?_
  refine cont_region 3 rfl ?_
  refine bS [0] 1 2 [(7, .pointer (pB b2)), (8, .pointer (pB b3)), (10, iq (n6 : Int)), (11, .slice (pB gb) n6 n6), (12, .slice (pB gf) n6 n6), (119, .pointer (pB b3))] ?_
  refine pl_step 2 1 rfl rfl ?_
  refine call_pure (d := 120) (.pointer (pB m17)) (by kernel_rfl) (fun w hT => outBack1 b3 m4 m17 Ax Ay kx cx ky cy w0 w1 fr w (hT.viewRo (.cons (i := 2) rfl Vw.roc .nil) rfl)) ?_
  refine bS [0] 3 0 [(7, .pointer (pB b2)), (8, .pointer (pB b3)), (10, iq (n6 : Int)), (11, .slice (pB gb) n6 n6), (12, .slice (pB gf) n6 n6), (18, .pointer (pB m17))] ?_
  refine cont_done ?_
  refine then_normal ?_
  refine cont_seq ?_
  refine cont_region 3 rfl ?_
  refine bS [0] 1 2 [(7, .pointer (pB b2)), (8, .pointer (pB b3)), (10, iq (n6 : Int)), (11, .slice (pB gb) n6 n6), (12, .slice (pB gf) n6 n6), (18, .pointer (pB m17)), (121, .pointer (pB b3))] ?_
  refine pl_step 2 1 rfl rfl ?_
  refine call_gen (d := 122) (α := Nat × Nat × Nat) (fun x_ => .pointer (pB x_.1)) (fun x_ => [.cells x_.1 [iq W1q, iq H1q, .slice (pB x_.2.1) n6 x_.2.2] 115 true, .gen (rowE (pB x_.2.1) x_.2.1 n6 x_.2.2 54 1 (ivals .u32 px0) true), .gen (rowE (pB gf) gf n6 n6 54 1 (ivals .u32 px0) true), .gen (rowE (pB gb) gb n6 n6 54 1 (ivals .u32 px1) true), .cells b3 [.pointer (pB m4), .pointer (pB m17), .slice Ax kx cx, .slice Ay ky cy, iq w0, iq w1, iq fr, iq 1] 98 true, .cells m4 [iq W1q, iq H1q, .slice (pB r5) n6 n6] 115 true, .gen (rowE (pB r5) r5 n6 n6 54 1 (ivals .u32 px0) true), .cells m17 [iq W1q, iq H1q, .slice (pB r18) n19 n19] 115 true, .gen (rowE (pB r18) r18 n19 n19 54 1 (ivals .u32 px1) true), .cells b2 [iq 0, iq 0, iq W1q, iq H1q] 28 true, .gen (rdE (A) g o n 7 (dvals Deed18.cells xs)), .gen (subE n (fun i_ => rdE ((dget xs i_).A1) (dget xs i_).g1 (dget xs i_).o1 (dget xs i_).m1 4 (rvals (dget xs i_).x1)))]) (fun _ => True) (by kernel_rfl) (fun w hT => (outFront1 b3 m4 m17 Ax Ay kx cx ky cy w0 w1 fr W1q H1q r5 n6 n6 px0 w (hT.view (.cons (i := 2) rfl Vw.roc (.cons (i := 3) rfl Vw.roc (.cons (i := 4) rfl Vw.rowRd .nil))) (by decide)) (Row.capLe (hT.ok 4 _ rfl)) hk0).mono fun e w' ⟨b_, g_, c_, he_, hi_⟩ => ⟨(b_, g_, c_), he_, trivial, hT.addImg hi_⟩) ?_
  rintro ⟨cb74, cg74, cc74⟩ -
  refine cont_norm [(7, .pointer (pB b2)), (8, .pointer (pB b3)), (10, iq (n6 : Int)), (11, .slice (pB gb) n6 n6), (12, .slice (pB gf) n6 n6), (18, .pointer (pB m17)), (121, .pointer (pB b3)), (122, .pointer (pB cb74))] _ (by kernel_rfl) rfl ?_
  refine bS [0] 3 0 [(7, .pointer (pB b2)), (8, .pointer (pB b3)), (10, iq (n6 : Int)), (11, .slice (pB gb) n6 n6), (12, .slice (pB gf) n6 n6), (18, .pointer (pB m17)), (19, .pointer (pB cb74))] ?_
  refine cont_done ?_
  refine then_normal ?_
  refine cont_seq ?_
  refine cont_seq ?_
  refine cont_region 6 rfl ?_
  refine bS [0, 0, 0, 0, 0, 0] 6 0 [(7, .pointer (pB b2)), (8, .pointer (pB b3)), (10, iq (n6 : Int)), (11, .slice (pB gb) n6 n6), (12, .slice (pB gf) n6 n6), (18, .pointer (pB m17)), (19, .pointer (pB cb74)), (128, .bool false)] ?_
  refine cont_done ?_
  refine then_normal ?_
  refine cont_false rfl ?_
  refine cont_skip ?_
  refine then_normal ?_
  refine cont_seq ?_
  refine cont_seq ?_
  refine cont_region 1 rfl ?_
  refine bS [0] 1 0 [(7, .pointer (pB b2)), (8, .pointer (pB b3)), (10, iq (n6 : Int)), (11, .slice (pB gb) n6 n6), (12, .slice (pB gf) n6 n6), (18, .pointer (pB m17)), (19, .pointer (pB cb74)), (20, iq 0)] ?_
  refine cont_done ?_
  refine then_normal ?_
  refine cont_block ?_
  refine cont_loop (α := Nat) (fun x_ : Nat => x_ ≤ n6) (fun x_ : Nat => [(7, .pointer (pB b2)), (8, .pointer (pB b3)), (10, iq (n6 : Int)), (11, .slice (pB gb) n6 n6), (12, .slice (pB gf) n6 n6), (18, .pointer (pB m17)), (19, .pointer (pB cb74)), (20, iq ((x_ : Nat) : Int))]) (fun x_ : Nat => [.cells cb74 [iq W1q, iq H1q, .slice (pB cg74) n6 cc74] 115 true, .gen (rowE (pB cg74) cg74 n6 cc74 54 1 (ivals .u32 px0) true), .gen (rowE (pB gf) gf n6 n6 54 1 (ivals .u32 px0) true), .gen (rowE (pB gb) gb n6 n6 54 1 (ivals .u32 px1) true), .cells b3 [.pointer (pB m4), .pointer (pB m17), .slice Ax kx cx, .slice Ay ky cy, iq w0, iq w1, iq fr, iq 1] 98 true, .cells m4 [iq W1q, iq H1q, .slice (pB r5) n6 n6] 115 true, .gen (rowE (pB r5) r5 n6 n6 54 1 (ivals .u32 px0) true), .cells m17 [iq W1q, iq H1q, .slice (pB r18) n19 n19] 115 true, .gen (rowE (pB r18) r18 n19 n19 54 1 (ivals .u32 px1) true), .cells b2 [iq 0, iq 0, iq W1q, iq H1q] 28 true, .gen (rdE (A) g o n 7 (dvals Deed18.cells xs)), .gen (subE n (fun i_ => rdE ((dget xs i_).A1) (dget xs i_).g1 (dget xs i_).o1 (dget xs i_).m1 4 (rvals (dget xs i_).x1)))]) (fun x_ : Nat => n6 - x_) 0 (by omega) (by kernel_rfl) (by kernel_rfl) ?_
  rintro k hinv75_
  replace hinv75_ : k ≤ n6 := hinv75_
  refine cont_norm [(7, .pointer (pB b2)), (8, .pointer (pB b3)), (10, iq (n6 : Int)), (11, .slice (pB gb) n6 n6), (12, .slice (pB gf) n6 n6), (18, .pointer (pB m17)), (19, .pointer (pB cb74)), (20, iq ((k : Nat) : Int))] _ (by kernel_rfl) rfl ?_
  have hkk := hinv75_
  have hem := emod_range k (show 1 ≤ W1q by omega)
  refine cont_seq ?_
  refine cont_seq ?_
  refine cont_region 3 rfl ?_
  refine bS [0, 0, 0] 3 0 [(7, .pointer (pB b2)), (8, .pointer (pB b3)), (10, iq (n6 : Int)), (11, .slice (pB gb) n6 n6), (12, .slice (pB gf) n6 n6), (18, .pointer (pB m17)), (19, .pointer (pB cb74)), (20, iq ((k : Nat) : Int)), (131, .bool (decide (((k : Nat) : Int) < (n6 : Int))))] ?_
  refine cont_done ?_
  refine then_normal ?_
  refine cont_split 131 (decide (((k : Nat) : Int) < (n6 : Int))) rfl (fun c76_ => ?_) (fun c76_ => ?_)
  ·
   replace c76_ := of_decide_eq_true c76_
   refine cont_true rfl ?_
   refine cont_skip ?_
   refine then_normal ?_
   refine cont_seq ?_
   refine cont_block ?_
   refine cont_seq ?_
   refine drawn_enter 15 [] rfl (by kernel_rfl) ?_
   refine takes 0 [] [(0, 0), (1, 0), (2, 0), (5, 0), (6, 0), (3, 9), (7, 9)] 8 [7, 3, 6, 5, 2, 1, 0] [(7, .pointer (pB b2)), (8, .pointer (pB b3)), (10, iq (n6 : Int)), (11, .slice (pB gb) n6 n6), (12, .slice (pB gf) n6 n6), (18, .pointer (pB m17)), (19, .pointer (pB cb74)), (20, iq ((k : Nat) : Int)), (135, .pointer (pB m17)), (136, iq ((k : Nat) : Int)), (138, iq W1q), (140, iq ((k : Nat) : Int)), (142, iq W1q)] (by kernel_rfl) (pok_then (pok_blk (pok_then (pok_then (pok_blk (pok_then pok_body)))))) (by kernel_rfl) rfl rfl (by kernel_rfl) (by kernel_rfl) ?_
   refine sem_take 0 [] 4 7 139 (bopS .rem 3 (.tmp 136) (.tmp 138) (iq ((k : Nat) : Int)) (iq W1q)) (iq (((k : Nat) : Int).tmod W1q)) (by kernel_rfl) (pok_then (pok_blk (pok_then (pok_then (pok_blk (pok_then pok_body)))))) (by kernel_rfl) rfl (by kernel_rfl) (by kernel_rfl) (fun w hT => run_rem (by omega) w) ?_
   refine cont_recast 139 (iq (((k : Nat) : Int).tmod W1q)) (iq (((k : Nat) : Int) % W1q)) rfl (tmodI (by omega)) ?_
   refine sem_take 0 [] 8 6 143 (bopS .quo 3 (.tmp 140) (.tmp 142) (iq ((k : Nat) : Int)) (iq W1q)) (iq (IntKind.i64.wrap (((k : Nat) : Int).tdiv W1q))) (by kernel_rfl) (pok_then (pok_blk (pok_then (pok_then (pok_blk (pok_then pok_body)))))) (by kernel_rfl) rfl (by kernel_rfl) (by kernel_rfl) (fun w hT => run_quo (by omega) w) ?_
   refine cont_recast 143 (iq (IntKind.i64.wrap (((k : Nat) : Int).tdiv W1q))) (iq (((k : Nat) : Int) / W1q)) rfl (tdivI (by omega) (by omega) (by omega)) ?_
   refine drawn_one 9 5 rfl (by kernel_rfl) ?_
   refine call_pure (d := 144) (.tuple #[.int .u32 (atC W1q H1q px1 (((k : Nat) : Int) % W1q) (((k : Nat) : Int) / W1q)), .bool (hasB 0 0 W1q H1q (((k : Nat) : Int) % W1q) (((k : Nat) : Int) / W1q))]) (by kernel_rfl) (fun w hT => imgAt m17 W1q H1q r18 n19 n19 px1 (((k : Nat) : Int) % W1q) (((k : Nat) : Int) / W1q) w ⟨hT.ok 7 _ rfl, Row.rd (hT.ok 8 _ rfl), Row.capLe (hT.ok 8 _ rfl)⟩ hk1) ?_
   refine drawn_next 0 [] (by kernel_rfl) ?_
   refine takes 0 [] [(10, 0), (11, 0), (12, 0), (13, 0), (14, 0)] 0 [14, 13, 12, 11, 10, 9, 8, 4, 7, 3, 6, 5, 2, 1, 0] [(7, .pointer (pB b2)), (8, .pointer (pB b3)), (10, iq (n6 : Int)), (11, .slice (pB gb) n6 n6), (12, .slice (pB gf) n6 n6), (18, .pointer (pB m17)), (19, .pointer (pB cb74)), (20, iq ((k : Nat) : Int)), (21, .int .u32 (atC W1q H1q px1 (((k : Nat) : Int) % W1q) (((k : Nat) : Int) / W1q))), (22, .bool (hasB 0 0 W1q H1q (((k : Nat) : Int) % W1q) (((k : Nat) : Int) / W1q)))] (by kernel_rfl) (pok_then (pok_blk (pok_then (pok_then (pok_blk (pok_then pok_body)))))) (by kernel_rfl) rfl rfl (by kernel_rfl) (by kernel_rfl) ?_
   refine drawn_done (by kernel_rfl) ?_
   refine then_normal ?_
   refine cont_seq ?_
   refine drawn_enter 15 [] rfl (by kernel_rfl) ?_
   refine takes 0 [] [(0, 0), (1, 0), (2, 0), (5, 0), (6, 0), (3, 9), (7, 9)] 8 [7, 3, 6, 5, 2, 1, 0] [(7, .pointer (pB b2)), (8, .pointer (pB b3)), (10, iq (n6 : Int)), (11, .slice (pB gb) n6 n6), (12, .slice (pB gf) n6 n6), (18, .pointer (pB m17)), (19, .pointer (pB cb74)), (20, iq ((k : Nat) : Int)), (21, .int .u32 (atC W1q H1q px1 (((k : Nat) : Int) % W1q) (((k : Nat) : Int) / W1q))), (22, .bool (hasB 0 0 W1q H1q (((k : Nat) : Int) % W1q) (((k : Nat) : Int) / W1q))), (148, .pointer (pB cb74)), (149, iq ((k : Nat) : Int)), (151, iq W1q), (153, iq ((k : Nat) : Int)), (155, iq W1q)] (by kernel_rfl) (pok_then (pok_blk (pok_then (pok_then (pok_blk (pok_then pok_body)))))) (by kernel_rfl) rfl rfl (by kernel_rfl) (by kernel_rfl) ?_
   refine sem_take 0 [] 4 7 152 (bopS .rem 3 (.tmp 149) (.tmp 151) (iq ((k : Nat) : Int)) (iq W1q)) (iq (((k : Nat) : Int).tmod W1q)) (by kernel_rfl) (pok_then (pok_blk (pok_then (pok_then (pok_blk (pok_then pok_body)))))) (by kernel_rfl) rfl (by kernel_rfl) (by kernel_rfl) (fun w hT => run_rem (by omega) w) ?_
   refine cont_recast 152 (iq (((k : Nat) : Int).tmod W1q)) (iq (((k : Nat) : Int) % W1q)) rfl (tmodI (by omega)) ?_
   refine sem_take 0 [] 8 6 156 (bopS .quo 3 (.tmp 153) (.tmp 155) (iq ((k : Nat) : Int)) (iq W1q)) (iq (IntKind.i64.wrap (((k : Nat) : Int).tdiv W1q))) (by kernel_rfl) (pok_then (pok_blk (pok_then (pok_then (pok_blk (pok_then pok_body)))))) (by kernel_rfl) rfl (by kernel_rfl) (by kernel_rfl) (fun w hT => run_quo (by omega) w) ?_
   refine cont_recast 156 (iq (IntKind.i64.wrap (((k : Nat) : Int).tdiv W1q))) (iq (((k : Nat) : Int) / W1q)) rfl (tdivI (by omega) (by omega) (by omega)) ?_
   refine drawn_one 9 5 rfl (by kernel_rfl) ?_
   refine call_pure (d := 157) (.tuple #[.int .u32 (atC W1q H1q px0 (((k : Nat) : Int) % W1q) (((k : Nat) : Int) / W1q)), .bool (hasB 0 0 W1q H1q (((k : Nat) : Int) % W1q) (((k : Nat) : Int) / W1q))]) (by kernel_rfl) (fun w hT => imgAt cb74 W1q H1q cg74 n6 cc74 px0 (((k : Nat) : Int) % W1q) (((k : Nat) : Int) / W1q) w ⟨hT.ok 0 _ rfl, Row.rd (hT.ok 1 _ rfl), Row.capLe (hT.ok 1 _ rfl)⟩ hk0) ?_
   refine drawn_next 0 [] (by kernel_rfl) ?_
   refine takes 0 [] [(10, 0), (11, 0), (12, 0), (13, 0), (14, 0)] 0 [14, 13, 12, 11, 10, 9, 8, 4, 7, 3, 6, 5, 2, 1, 0] [(7, .pointer (pB b2)), (8, .pointer (pB b3)), (10, iq (n6 : Int)), (11, .slice (pB gb) n6 n6), (12, .slice (pB gf) n6 n6), (18, .pointer (pB m17)), (19, .pointer (pB cb74)), (20, iq ((k : Nat) : Int)), (21, .int .u32 (atC W1q H1q px1 (((k : Nat) : Int) % W1q) (((k : Nat) : Int) / W1q))), (22, .bool (hasB 0 0 W1q H1q (((k : Nat) : Int) % W1q) (((k : Nat) : Int) / W1q))), (23, .int .u32 (atC W1q H1q px0 (((k : Nat) : Int) % W1q) (((k : Nat) : Int) / W1q))), (24, .bool (hasB 0 0 W1q H1q (((k : Nat) : Int) % W1q) (((k : Nat) : Int) / W1q)))] (by kernel_rfl) (pok_then (pok_blk (pok_then (pok_then (pok_blk (pok_then pok_body)))))) (by kernel_rfl) rfl rfl (by kernel_rfl) (by kernel_rfl) ?_
   refine drawn_done (by kernel_rfl) ?_
   refine then_normal ?_
   refine cont_seq ?_
   refine cont_region 22 rfl ?_
   refine bS [0, 0, 0] 3 19 [(7, .pointer (pB b2)), (8, .pointer (pB b3)), (10, iq (n6 : Int)), (11, .slice (pB gb) n6 n6), (12, .slice (pB gf) n6 n6), (18, .pointer (pB m17)), (19, .pointer (pB cb74)), (20, iq ((k : Nat) : Int)), (21, .int .u32 (atC W1q H1q px1 (((k : Nat) : Int) % W1q) (((k : Nat) : Int) / W1q))), (23, .int .u32 (atC W1q H1q px0 (((k : Nat) : Int) % W1q) (((k : Nat) : Int) / W1q))), (24, .bool (hasB 0 0 W1q H1q (((k : Nat) : Int) % W1q) (((k : Nat) : Int) / W1q))), (162, .bool (!(hasB 0 0 W1q H1q (((k : Nat) : Int) % W1q) (((k : Nat) : Int) / W1q))))] ?_
   refine cont_recast 162 (.bool (!(hasB 0 0 W1q H1q (((k : Nat) : Int) % W1q) (((k : Nat) : Int) / W1q)))) (.bool false) rfl (congrArg Value.bool (by rw [show (hasB 0 0 W1q H1q (((k : Nat) : Int) % W1q) (((k : Nat) : Int) / W1q)) = true from (in_box (by omega) hk0.num (by omega))]; rfl)) ?_
   refine bS [0, 0, 0, 0] 7 15 [(7, .pointer (pB b2)), (8, .pointer (pB b3)), (10, iq (n6 : Int)), (11, .slice (pB gb) n6 n6), (12, .slice (pB gf) n6 n6), (18, .pointer (pB m17)), (19, .pointer (pB cb74)), (20, iq ((k : Nat) : Int)), (21, .int .u32 (atC W1q H1q px1 (((k : Nat) : Int) % W1q) (((k : Nat) : Int) / W1q))), (23, .int .u32 (atC W1q H1q px0 (((k : Nat) : Int) % W1q) (((k : Nat) : Int) / W1q))), (163, .bool (hasB 0 0 W1q H1q (((k : Nat) : Int) % W1q) (((k : Nat) : Int) / W1q))), (164, .bool (!(hasB 0 0 W1q H1q (((k : Nat) : Int) % W1q) (((k : Nat) : Int) / W1q)))), (166, .bool (!(hasB 0 0 W1q H1q (((k : Nat) : Int) % W1q) (((k : Nat) : Int) / W1q))))] ?_
   refine cont_recast 166 (.bool (!(hasB 0 0 W1q H1q (((k : Nat) : Int) % W1q) (((k : Nat) : Int) / W1q)))) (.bool false) rfl (congrArg Value.bool (by rw [show (hasB 0 0 W1q H1q (((k : Nat) : Int) % W1q) (((k : Nat) : Int) / W1q)) = true from (in_box (by omega) hk0.num (by omega))]; rfl)) ?_
   refine cont_recast 164 (.bool (!(hasB 0 0 W1q H1q (((k : Nat) : Int) % W1q) (((k : Nat) : Int) / W1q)))) (.bool false) rfl (congrArg Value.bool (by rw [show (hasB 0 0 W1q H1q (((k : Nat) : Int) % W1q) (((k : Nat) : Int) / W1q)) = true from (in_box (by omega) hk0.num (by omega))]; rfl)) ?_
   refine bS [0, 0, 0] 10 12 [(7, .pointer (pB b2)), (8, .pointer (pB b3)), (10, iq (n6 : Int)), (11, .slice (pB gb) n6 n6), (12, .slice (pB gf) n6 n6), (18, .pointer (pB m17)), (19, .pointer (pB cb74)), (20, iq ((k : Nat) : Int)), (23, .int .u32 (atC W1q H1q px0 (((k : Nat) : Int) % W1q) (((k : Nat) : Int) / W1q))), (163, .bool (hasB 0 0 W1q H1q (((k : Nat) : Int) % W1q) (((k : Nat) : Int) / W1q))), (164, .bool false), (166, .bool false), (167, .int .u32 (atC W1q H1q px1 (((k : Nat) : Int) % W1q) (((k : Nat) : Int) / W1q))), (168, .slice (pB gb) n6 n6), (169, iq ((k : Nat) : Int))] ?_
   refine pl_step 11 11 rfl rfl ?_
   refine sem_step 170 (Instr.indexAt 88 (.slice (pB gb) n6 n6) (iq ((k : Nat) : Int))) (.pointer (some ⟨gb, (k : Nat), none⟩)) (by kernel_rfl) (fun w hT => run_indexAt (e := 54) (sz := 1) _ (by kernel_rfl) (by kernel_rfl) (by omega) (by omega) (by omega) w) ?_
   refine pl_step 12 10 rfl rfl ?_
   refine sem_step 171 (Instr.loadAt 54 (.pointer (some ⟨gb, (k : Nat), none⟩))) (.int .u32 (px1.getD (k : Nat) 0)) (by kernel_rfl) (fun w hT => run_load1 (by kernel_rfl) (Row.cell (hT.ok 3 _ rfl) ((k : Nat)) _ (ivals_get (by omega)))) ?_
   refine bS [0, 0, 0] 15 7 [(7, .pointer (pB b2)), (8, .pointer (pB b3)), (10, iq (n6 : Int)), (11, .slice (pB gb) n6 n6), (12, .slice (pB gf) n6 n6), (18, .pointer (pB m17)), (19, .pointer (pB cb74)), (20, iq ((k : Nat) : Int)), (23, .int .u32 (atC W1q H1q px0 (((k : Nat) : Int) % W1q) (((k : Nat) : Int) / W1q))), (163, .bool (hasB 0 0 W1q H1q (((k : Nat) : Int) % W1q) (((k : Nat) : Int) / W1q))), (164, .bool false), (167, .int .u32 (atC W1q H1q px1 (((k : Nat) : Int) % W1q) (((k : Nat) : Int) / W1q))), (168, .slice (pB gb) n6 n6), (169, iq ((k : Nat) : Int)), (170, .pointer (some ⟨gb, (k : Nat), none⟩)), (171, .int .u32 (px1.getD (k : Nat) 0)), (172, .bool ((atC W1q H1q px1 (((k : Nat) : Int) % W1q) (((k : Nat) : Int) / W1q)) != (px1.getD (k : Nat) 0))), (174, .bool ((atC W1q H1q px1 (((k : Nat) : Int) % W1q) (((k : Nat) : Int) / W1q)) != (px1.getD (k : Nat) 0)))] ?_
   refine cont_recast 174 (.bool ((atC W1q H1q px1 (((k : Nat) : Int) % W1q) (((k : Nat) : Int) / W1q)) != (px1.getD (k : Nat) 0))) (.bool false) rfl (congrArg Value.bool (by rw [atC_at px1 (by omega) hk1.num (by omega)]; exact bne_self_eq_false _)) ?_
   refine cont_recast 172 (.bool ((atC W1q H1q px1 (((k : Nat) : Int) % W1q) (((k : Nat) : Int) / W1q)) != (px1.getD (k : Nat) 0))) (.bool false) rfl (congrArg Value.bool (by rw [atC_at px1 (by omega) hk1.num (by omega)]; exact bne_self_eq_false _)) ?_
   refine bS [0, 0, 0] 18 4 [(7, .pointer (pB b2)), (8, .pointer (pB b3)), (10, iq (n6 : Int)), (11, .slice (pB gb) n6 n6), (12, .slice (pB gf) n6 n6), (18, .pointer (pB m17)), (19, .pointer (pB cb74)), (20, iq ((k : Nat) : Int)), (163, .bool (hasB 0 0 W1q H1q (((k : Nat) : Int) % W1q) (((k : Nat) : Int) / W1q))), (164, .bool false), (167, .int .u32 (atC W1q H1q px1 (((k : Nat) : Int) % W1q) (((k : Nat) : Int) / W1q))), (168, .slice (pB gb) n6 n6), (169, iq ((k : Nat) : Int)), (170, .pointer (some ⟨gb, (k : Nat), none⟩)), (171, .int .u32 (px1.getD (k : Nat) 0)), (172, .bool false), (174, .bool false), (175, .int .u32 (atC W1q H1q px0 (((k : Nat) : Int) % W1q) (((k : Nat) : Int) / W1q))), (176, .slice (pB gf) n6 n6), (177, iq ((k : Nat) : Int))] ?_
   refine pl_step 19 3 rfl rfl ?_
   refine sem_step 178 (Instr.indexAt 88 (.slice (pB gf) n6 n6) (iq ((k : Nat) : Int))) (.pointer (some ⟨gf, (k : Nat), none⟩)) (by kernel_rfl) (fun w hT => run_indexAt (e := 54) (sz := 1) _ (by kernel_rfl) (by kernel_rfl) (by omega) (by omega) (by omega) w) ?_
   refine pl_step 20 2 rfl rfl ?_
   refine sem_step 179 (Instr.loadAt 54 (.pointer (some ⟨gf, (k : Nat), none⟩))) (.int .u32 (px0.getD (k : Nat) 0)) (by kernel_rfl) (fun w hT => run_load1 (by kernel_rfl) (Row.cell (hT.ok 2 _ rfl) ((k : Nat)) _ (ivals_get (by omega)))) ?_
   refine bS [0, 0] 22 0 [(7, .pointer (pB b2)), (8, .pointer (pB b3)), (10, iq (n6 : Int)), (11, .slice (pB gb) n6 n6), (12, .slice (pB gf) n6 n6), (18, .pointer (pB m17)), (19, .pointer (pB cb74)), (20, iq ((k : Nat) : Int)), (163, .bool (hasB 0 0 W1q H1q (((k : Nat) : Int) % W1q) (((k : Nat) : Int) / W1q))), (164, .bool false), (167, .int .u32 (atC W1q H1q px1 (((k : Nat) : Int) % W1q) (((k : Nat) : Int) / W1q))), (168, .slice (pB gb) n6 n6), (169, iq ((k : Nat) : Int)), (170, .pointer (some ⟨gb, (k : Nat), none⟩)), (171, .int .u32 (px1.getD (k : Nat) 0)), (172, .bool false), (175, .int .u32 (atC W1q H1q px0 (((k : Nat) : Int) % W1q) (((k : Nat) : Int) / W1q))), (176, .slice (pB gf) n6 n6), (177, iq ((k : Nat) : Int)), (178, .pointer (some ⟨gf, (k : Nat), none⟩)), (179, .int .u32 (px0.getD (k : Nat) 0)), (180, .bool ((atC W1q H1q px0 (((k : Nat) : Int) % W1q) (((k : Nat) : Int) / W1q)) != (px0.getD (k : Nat) 0))), (181, .bool ((atC W1q H1q px0 (((k : Nat) : Int) % W1q) (((k : Nat) : Int) / W1q)) != (px0.getD (k : Nat) 0)))] ?_
   refine cont_done ?_
   refine then_normal ?_
   refine cont_recast 181 (.bool ((atC W1q H1q px0 (((k : Nat) : Int) % W1q) (((k : Nat) : Int) / W1q)) != (px0.getD (k : Nat) 0))) (.bool false) rfl (congrArg Value.bool (by rw [atC_at px0 (by omega) hk0.num (by omega)]; exact bne_self_eq_false _)) ?_
   refine cont_recast 180 (.bool ((atC W1q H1q px0 (((k : Nat) : Int) % W1q) (((k : Nat) : Int) / W1q)) != (px0.getD (k : Nat) 0))) (.bool false) rfl (congrArg Value.bool (by rw [atC_at px0 (by omega) hk0.num (by omega)]; exact bne_self_eq_false _)) ?_
   refine cont_false rfl ?_
   refine cont_skip ?_
   refine blk_normal ?_
   refine then_normal ?_
   refine cont_region 3 rfl ?_
   refine bS [0, 0] 2 1 [(7, .pointer (pB b2)), (8, .pointer (pB b3)), (10, iq (n6 : Int)), (11, .slice (pB gb) n6 n6), (12, .slice (pB gf) n6 n6), (18, .pointer (pB m17)), (19, .pointer (pB cb74)), (133, iq (IntKind.i64.wrap (((k : Nat) : Int) + 1))), (163, .bool (hasB 0 0 W1q H1q (((k : Nat) : Int) % W1q) (((k : Nat) : Int) / W1q))), (164, .bool false), (167, .int .u32 (atC W1q H1q px1 (((k : Nat) : Int) % W1q) (((k : Nat) : Int) / W1q))), (168, .slice (pB gb) n6 n6), (169, iq ((k : Nat) : Int)), (170, .pointer (some ⟨gb, (k : Nat), none⟩)), (171, .int .u32 (px1.getD (k : Nat) 0)), (172, .bool false), (175, .int .u32 (atC W1q H1q px0 (((k : Nat) : Int) % W1q) (((k : Nat) : Int) / W1q))), (176, .slice (pB gf) n6 n6), (177, iq ((k : Nat) : Int)), (178, .pointer (some ⟨gf, (k : Nat), none⟩)), (179, .int .u32 (px0.getD (k : Nat) 0)), (180, .bool false)] ?_
   refine cont_recast 133 (iq (IntKind.i64.wrap (((k : Nat) : Int) + 1))) (iq (((k : Nat) : Int) + 1)) rfl (wrapI (by omega) (by omega)) ?_
   refine bS [0] 3 0 [(7, .pointer (pB b2)), (8, .pointer (pB b3)), (10, iq (n6 : Int)), (11, .slice (pB gb) n6 n6), (12, .slice (pB gf) n6 n6), (18, .pointer (pB m17)), (19, .pointer (pB cb74)), (20, iq (((k : Nat) : Int) + 1)), (163, .bool (hasB 0 0 W1q H1q (((k : Nat) : Int) % W1q) (((k : Nat) : Int) / W1q))), (164, .bool false), (167, .int .u32 (atC W1q H1q px1 (((k : Nat) : Int) % W1q) (((k : Nat) : Int) / W1q))), (168, .slice (pB gb) n6 n6), (169, iq ((k : Nat) : Int)), (170, .pointer (some ⟨gb, (k : Nat), none⟩)), (171, .int .u32 (px1.getD (k : Nat) 0)), (172, .bool false), (175, .int .u32 (atC W1q H1q px0 (((k : Nat) : Int) % W1q) (((k : Nat) : Int) / W1q))), (176, .slice (pB gf) n6 n6), (177, iq ((k : Nat) : Int)), (178, .pointer (some ⟨gf, (k : Nat), none⟩)), (179, .int .u32 (px0.getD (k : Nat) 0)), (180, .bool false)] ?_
   refine cont_done ?_
   refine then_normal ?_
   refine cont_again (k + 1) (show (k + 1) ≤ n6 from (by omega)) (show n6 - (k + 1) < n6 - k from by omega) (by kernel_rfl) (by kernel_rfl)
  replace c76_ := of_decide_eq_false c76_
  refine cont_false rfl ?_
  refine cont_exit ?_
  refine then_exit ?_
  refine then_exit ?_
  refine blk_exit ?_
  refine then_normal ?_
  refine cont_seq ?_
  refine cont_region 3 rfl ?_
  refine bS [0, 9] 2 1 [(8, .pointer (pB b3)), (12, .slice (pB gf) n6 n6), (182, .pointer (pB cb74)), (183, .agg #[iq 0, iq 0, iq W1q, iq H1q])] ?_
  refine cont_forget 3 rfl ?_
  refine cont_forget 8 rfl ?_
  refine pl_step 3 0 rfl rfl ?_
  refine call_gen (d := 184) (α := Unit) (fun _ => iq (fillN W1q H1q 0 0 W1q H1q 4294967295)) (fun _ => [.cells cb74 [iq W1q, iq H1q, .slice (pB cg74) n6 cc74] 115 true, .gen (rowE (pB cg74) cg74 n6 cc74 54 1 (ivals .u32 (fillA W1q H1q px0 0 0 W1q H1q 4294967295)) true), .gen (rowE (pB gf) gf n6 n6 54 1 (ivals .u32 px0) true), .cells b3 [.pointer (pB m4), .pointer (pB m17), .slice Ax kx cx, .slice Ay ky cy, iq w0, iq w1, iq fr, iq 1] 98 true, .cells m4 [iq W1q, iq H1q, .slice (pB r5) n6 n6] 115 true, .gen (rowE (pB r5) r5 n6 n6 54 1 (ivals .u32 px0) true), .cells m17 [iq W1q, iq H1q, .slice (pB r18) n19 n19] 115 true, .gen (rowE (pB r18) r18 n19 n19 54 1 (ivals .u32 px1) true), .gen (rdE (A) g o n 7 (dvals Deed18.cells xs)), .gen (subE n (fun i_ => rdE ((dget xs i_).A1) (dget xs i_).g1 (dget xs i_).o1 (dget xs i_).m1 4 (rvals (dget xs i_).x1)))]) (fun _ => True) (by kernel_rfl) (fun w hT => (imgFill cb74 W1q H1q cg74 n6 cc74 px0 0 0 W1q H1q 4294967295 w ⟨hT.ok 0 _ rfl, hT.ok 1 _ rfl, fun hne => hT.disj 0 1 _ _ (by omega) rfl rfl (.inr rfl) _ rfl ⟨hne, by simp⟩⟩ hk0 ⟨by omega, by omega⟩).mono fun e w' ⟨he_, hk_, hr_⟩ => ⟨(), he_, trivial, hT.keepBut hk_ (i := 1) rfl hr_⟩) (fun _ _ => ?_)
  refine cont_done ?_
  refine then_normal ?_
  refine cont_seq ?_
  refine cont_region 3 rfl ?_
  refine bS [0] 1 2 [(12, .slice (pB gf) n6 n6), (185, .pointer (pB b3))] ?_
  refine cont_forget 0 rfl ?_
  refine pl_step 2 1 rfl rfl ?_
  refine call_gen (d := 186) (α := Nat × Nat × Nat) (fun x_ => .pointer (pB x_.1)) (fun x_ => [.cells x_.1 [iq W1q, iq H1q, .slice (pB x_.2.1) n6 x_.2.2] 115 true, .gen (rowE (pB x_.2.1) x_.2.1 n6 x_.2.2 54 1 (ivals .u32 px0) true), .gen (rowE (pB cg74) cg74 n6 cc74 54 1 (ivals .u32 (fillA W1q H1q px0 0 0 W1q H1q 4294967295)) true), .gen (rowE (pB gf) gf n6 n6 54 1 (ivals .u32 px0) true), .cells b3 [.pointer (pB m4), .pointer (pB m17), .slice Ax kx cx, .slice Ay ky cy, iq w0, iq w1, iq fr, iq 1] 98 true, .cells m4 [iq W1q, iq H1q, .slice (pB r5) n6 n6] 115 true, .gen (rowE (pB r5) r5 n6 n6 54 1 (ivals .u32 px0) true), .cells m17 [iq W1q, iq H1q, .slice (pB r18) n19 n19] 115 true, .gen (rowE (pB r18) r18 n19 n19 54 1 (ivals .u32 px1) true), .gen (rdE (A) g o n 7 (dvals Deed18.cells xs)), .gen (subE n (fun i_ => rdE ((dget xs i_).A1) (dget xs i_).g1 (dget xs i_).o1 (dget xs i_).m1 4 (rvals (dget xs i_).x1)))]) (fun _ => True) (by kernel_rfl) (fun w hT => (outFront1 b3 m4 m17 Ax Ay kx cx ky cy w0 w1 fr W1q H1q r5 n6 n6 px0 w (hT.view (.cons (i := 2) rfl Vw.roc (.cons (i := 3) rfl Vw.roc (.cons (i := 4) rfl Vw.rowRd .nil))) (by decide)) (Row.capLe (hT.ok 4 _ rfl)) hk0).mono fun e w' ⟨b_, g_, c_, he_, hi_⟩ => ⟨(b_, g_, c_), he_, trivial, hT.addImg hi_⟩) ?_
  rintro ⟨cb81, cg81, cc81⟩ -
  refine cont_norm [(12, .slice (pB gf) n6 n6), (185, .pointer (pB b3)), (186, .pointer (pB cb81))] _ (by kernel_rfl) rfl ?_
  refine bS [0] 3 0 [(12, .slice (pB gf) n6 n6), (25, .pointer (pB cb81))] ?_
  refine cont_forget 4 rfl ?_
  refine cont_forget 4 rfl ?_
  refine cont_forget 5 rfl ?_
  refine cont_done ?_
  refine then_normal ?_
  refine cont_seq ?_
  refine cont_seq ?_
  refine cont_region 2 rfl ?_
  refine bS [0, 0] 2 0 [(12, .slice (pB gf) n6 n6), (25, .pointer (pB cb81)), (188, .bool false)] ?_
  refine cont_done ?_
  refine then_normal ?_
  refine cont_false rfl ?_
  refine cont_skip ?_
  refine then_normal ?_
  refine cont_seq ?_
  refine cont_region 7 rfl ?_
  refine bS [0] 1 6 [(12, .slice (pB gf) n6 n6), (190, .pointer (pB cb81))] ?_
  refine pl_step 2 5 rfl rfl ?_
  refine call_pure (d := 191) (.tuple #[.int .u32 (atC W1q H1q px0 0 0), .bool (hasB 0 0 W1q H1q 0 0)]) (by kernel_rfl) (fun w hT => imgAt cb81 W1q H1q cg81 n6 cc81 px0 0 0 w ⟨hT.ok 0 _ rfl, Row.rd (hT.ok 1 _ rfl), Row.capLe (hT.ok 1 _ rfl)⟩ hk0) ?_
  refine bS [0, 0, 0, 0, 0] 7 0 [(12, .slice (pB gf) n6 n6), (26, .int .u32 (atC W1q H1q px0 0 0))] ?_
  refine cont_forget 0 rfl ?_
  refine cont_done ?_
  refine then_normal ?_
  refine cont_seq ?_
  refine cont_region 9 rfl ?_
  refine bS [0, 0] 2 7 [(194, .int .u32 (atC W1q H1q px0 0 0)), (195, .slice (pB gf) n6 n6)] ?_
  refine pl_step 3 6 rfl rfl ?_
  refine sem_step 196 (Instr.indexAt 88 (.slice (pB gf) n6 n6) (iq 0)) (.pointer (pB gf)) (by kernel_rfl) (fun w hT => run_indexAt (e := 54) (sz := 1) _ (by kernel_rfl) (by kernel_rfl) (by omega) (by omega) (by omega) w) ?_
  refine pl_step 4 5 rfl rfl ?_
  refine sem_step 197 (Instr.loadAt 54 (.pointer (pB gf))) (.int .u32 (px0.getD 0 0)) (by kernel_rfl) (fun w hT => run_load1 (by kernel_rfl) (Row.cell (hT.ok 2 _ rfl) (0) _ (ivals_get (by omega)))) ?_
  refine bS [0, 0] 6 3 [(199, .bool ((atC W1q H1q px0 0 0) == (px0.getD 0 0)))] ?_
  refine cont_forget 2 rfl ?_
  refine cont_recast 199 (.bool ((atC W1q H1q px0 0 0) == (px0.getD 0 0))) (.bool true) rfl (congrArg Value.bool (by rw [atC_zero hk0]; exact beq_self_eq_true _)) ?_
  refine pl_step 7 2 rfl rfl ?_
  refine call_pure (d := 200) (.bool true) (by kernel_rfl) (fun w hT => lives18  w) ?_
  refine bS [0, 0] 9 0 [(6, .bool true)] ?_
  refine cont_done ?_
  refine then_normal ?_
  refine cont_ret ?_
  refine ret_one (.inl rfl) rfl 0 (.bool true) (by kernel_rfl) (by kernel_rfl) (fun w hT => ?_)
  exact ⟨rfl, hT.post rfl⟩

end Go.Proofs.Ytgmonhehilcegaa

