/- Contracts of functions of the given program, printed by a program of this project. -/
import Derived.Test.YtgmonhehilcegaaPcW18
import Derived.Test.YtgmonhehilcegaaProg
import Derived.Test.YtgmonhehilcegaaPcL18b
import Derived.Test.YtgmonhehilcegaaPcDk18
set_option linter.unusedVariables false
set_option linter.unusedSimpArgs false
namespace Go.Proofs.Ytgmonhehilcegaa
open Go Go.RowKit
set_option maxRecDepth 100000
set_option maxHeartbeats 8000000

theorem walkOutputPlays (w_ h_ : Int) (A : Option Addr) (g o n cap : Nat) (xs : List Deed18) (w : World) (hww : -9223372036854775808 ≤ w_ ∧ w_ ≤ 9223372036854775807) (hhh : -9223372036854775808 ≤ h_ ∧ h_ ≤ 9223372036854775807) (hr : Rd w A g o n 7 (dvals Deed18.cells xs)) (hl : xs.length = n) (hc : n ≤ cap) (hm : cap ≤ maxLen) (hg : ∀ d ∈ xs, Deed18.Good w d) :
    Calls Try.prog 9 #[.int .i64 w_, .int .i64 h_, .slice A n cap] w fun e w' => e = .returned (.bool true) ∧ Below w.heap.size w w' := by
 unfold maxLen at hm
 obtain ⟨hra, _⟩ := Rd.factsD Deed18.size (by decide) hr
 have hge : ∀ i, i < n → Deed18.Good w (dget xs i) := fun i hi => hg _ (dget_mem (by omega))
 refine enter 110 [(0, iq w_), (1, iq h_), (2, .slice A n cap)] [.gen (rdE (A) g o n 7 (dvals Deed18.cells xs)), .gen (subE n (fun i_ => rdE ((dget xs i_).A1) (dget xs i_).g1 (dget xs i_).o1 (dget xs i_).m1 4 (rvals (dget xs i_).x1)))] Try.func9 rfl Try.ntmps9 rfl (by kernel_rfl) (Tab.olds (fun i_ e_ he_ => by
   match i_, he_ with
   | 0, he_ => cases he_; exact ⟨hr, rfl, rfl⟩
   | 1, he_ => cases he_; exact ⟨fun i_ hi_ => (hge i_ hi_).r1, rfl, rfl⟩
   | _ + 2, he_ => cases he_)) ?_
 refine cont_seq ?_
 refine cont_region 1 rfl ?_
 refine bS [0] 1 0 [(0, iq w_), (1, iq h_), (2, .slice A n cap)] ?_
 refine cont_done ?_
 refine then_normal ?_
 refine cont_seq ?_
 refine cont_region 5 rfl ?_
 refine bS [0, 0] 2 3 [(2, .slice A n cap), (14, iq w_), (15, iq h_)] ?_
 refine pl_step 3 2 rfl rfl ?_
 obtain ⟨W1q, hW1q⟩ : ∃ y_ : Int, y_ = 1 + aroundI w_ 16 := ⟨_, rfl⟩
 have hW1qr := aroundI_range w_ (m := 16) (by omega)
 have hW1qi : 1 ≤ W1q ∧ W1q ≤ 16 := by omega
 obtain ⟨H1q, hH1q⟩ : ∃ y_ : Int, y_ = 1 + aroundI h_ 16 := ⟨_, rfl⟩
 have hH1qr := aroundI_range h_ (m := 16) (by omega)
 have hH1qi : 1 ≤ H1q ∧ H1q ≤ 16 := by omega
 refine call_pure (d := 16) (.agg #[iq 0, iq 0, iq W1q, iq H1q]) (by kernel_rfl) (fun w hT => refBox17 w_ h_ W1q H1q w hW1q hH1q (by omega) (by omega)) ?_
 refine batch1 [0, 0] 5 0 (fun b2 => [(2, .slice A n cap), (7, .pointer (pB b2))]) (fun b2 => [.cells b2 [iq 0, iq 0, iq W1q, iq H1q] 28 true, .gen (rdE (A) g o n 7 (dvals Deed18.cells xs)), .gen (subE n (fun i_ => rdE ((dget xs i_).A1) (dget xs i_).g1 (dget xs i_).o1 (dget xs i_).m1 4 (rvals (dget xs i_).x1)))]) rfl rfl [2, 7] (fun _ => rfl) (fun b2 => by kernel_rfl) (fun b2 => by kernel_rfl) (fun b2 => ?_)
 refine cont_done ?_
 refine then_normal ?_
 refine cont_seq ?_
 refine cont_region 10 rfl ?_
 refine bS [0, 0, 0, 0] 4 6 [(2, .slice A n cap), (7, .pointer (pB b2)), (19, iq W1q), (21, iq H1q)] ?_
 refine pl_step 5 5 rfl rfl ?_
 refine call_gen (d := 22) (α := Nat × Nat × Nat × Nat × Nat × Nat × Nat × Option Addr × Nat × Nat × Nat × Option Addr × Nat × Nat × Nat) (fun x_ => .tuple #[.pointer (pB x_.1), iq 0]) (fun x_ => [.cells x_.1 [.pointer (pB x_.2.1), .pointer (pB x_.2.2.2.2.1), .slice x_.2.2.2.2.2.2.2.1 x_.2.2.2.2.2.2.2.2.2.1 x_.2.2.2.2.2.2.2.2.2.2.1, .slice x_.2.2.2.2.2.2.2.2.2.2.2.1 x_.2.2.2.2.2.2.2.2.2.2.2.2.2.1 x_.2.2.2.2.2.2.2.2.2.2.2.2.2.2, iq 0, iq 0, iq 0, iq 0] 98 true, .cells x_.2.1 [iq W1q, iq H1q, .slice (pB x_.2.2.1) x_.2.2.2.1 x_.2.2.2.1] 115 true, .gen (rowE (pB x_.2.2.1) x_.2.2.1 x_.2.2.2.1 x_.2.2.2.1 54 1 (ivals .u32 (List.replicate x_.2.2.2.1 0)) true), .cells x_.2.2.2.2.1 [iq W1q, iq H1q, .slice (pB x_.2.2.2.2.2.1) x_.2.2.2.2.2.2.1 x_.2.2.2.2.2.2.1] 115 true, .gen (rowE (pB x_.2.2.2.2.2.1) x_.2.2.2.2.2.1 x_.2.2.2.2.2.2.1 x_.2.2.2.2.2.2.1 54 1 (ivals .u32 (List.replicate x_.2.2.2.2.2.2.1 0)) true), .gen (rowE (x_.2.2.2.2.2.2.2.1) x_.2.2.2.2.2.2.2.2.1 x_.2.2.2.2.2.2.2.2.2.1 x_.2.2.2.2.2.2.2.2.2.2.1 28 4 (rvals (canR [(⟨0, 0, W1q, H1q⟩ : Rect)])) true), .gen (rowE (x_.2.2.2.2.2.2.2.2.2.2.2.1) x_.2.2.2.2.2.2.2.2.2.2.2.2.1 x_.2.2.2.2.2.2.2.2.2.2.2.2.2.1 x_.2.2.2.2.2.2.2.2.2.2.2.2.2.2 28 4 (rvals (canR [(⟨0, 0, W1q, H1q⟩ : Rect)])) true), .cells b2 [iq 0, iq 0, iq W1q, iq H1q] 28 true, .gen (rdE (A) g o n 7 (dvals Deed18.cells xs)), .gen (subE n (fun i_ => rdE ((dget xs i_).A1) (dget xs i_).g1 (dget xs i_).o1 (dget xs i_).m1 4 (rvals (dget xs i_).x1)))]) (fun x_ => (x_.2.2.2.1 : Int) = W1q * H1q ∧ (x_.2.2.2.2.2.2.1 : Int) = W1q * H1q) (by kernel_rfl) (fun w hT => (outNew W1q H1q w (by omega)).mono fun e w' ⟨b3, m4, r5, n6, m17, r18, n19, A10, g11, k12, cp13, B14, gB15, kB16, cB17, he_, hf_, ht_⟩ => ⟨(b3, m4, r5, n6, m17, r18, n19, A10, g11, k12, cp13, B14, gB15, kB16, cB17), he_, hf_, hT.news ht_ rfl⟩) ?_
 rintro ⟨b3, m4, r5, n6, m17, r18, n19, A10, g11, k12, cp13, B14, gB15, kB16, cB17⟩ hf18_
 replace hf18_ : (n6 : Int) = W1q * H1q ∧ (n19 : Int) = W1q * H1q := hf18_
 refine cont_norm [(2, .slice A n cap), (7, .pointer (pB b2)), (19, iq W1q), (21, iq H1q), (22, .tuple #[.pointer (pB b3), iq 0])] _ (by kernel_rfl) rfl ?_
 obtain ⟨hf18_a, hf18_b⟩ := hf18_
 have hcl19_ := canR_small (l := [(⟨0, 0, W1q, H1q⟩ : Rect)]) (by simp)
 refine cont_fact (F := (0 < k12 → (A10 : Option Addr) = pB g11) ∧ (canR [(⟨0, 0, W1q, H1q⟩ : Rect)]).length = k12 ∧ k12 ≤ cp13 ∧ cp13 ≤ maxLen) (fun w hT => Row.factsR (hT.ok 5 _ rfl)) (fun hr20_ => ?_)
 obtain ⟨hr20_a, hr20_l, hr20_c, hr20_m⟩ := hr20_
 unfold maxLen at hr20_m
 refine cont_fact (F := (0 < kB16 → (B14 : Option Addr) = pB gB15) ∧ (canR [(⟨0, 0, W1q, H1q⟩ : Rect)]).length = kB16 ∧ kB16 ≤ cB17 ∧ cB17 ≤ maxLen) (fun w hT => Row.factsR (hT.ok 6 _ rfl)) (fun hr21_ => ?_)
 obtain ⟨hr21_a, hr21_l, hr21_c, hr21_m⟩ := hr21_
 unfold maxLen at hr21_m
 refine bS [0, 0, 0, 0, 0] 10 0 [(2, .slice A n cap), (7, .pointer (pB b2)), (8, .pointer (pB b3)), (9, iq 0)] ?_
 refine cont_done ?_
 refine then_normal ?_
 refine cont_seq ?_
 refine cont_seq ?_
 refine cont_region 6 rfl ?_
 refine bS [0, 0, 0, 0, 0, 0] 6 0 [(2, .slice A n cap), (7, .pointer (pB b2)), (8, .pointer (pB b3)), (30, .bool false)] ?_
 refine cont_done ?_
 refine then_normal ?_
 refine cont_false rfl ?_
 refine cont_skip ?_
 refine then_normal ?_
 refine cont_seq ?_
 refine cont_region 4 rfl ?_
 refine cont_forget 4 rfl ?_
 refine cont_forget 3 rfl ?_
 refine cont_norm [(2, .slice A n cap), (7, .pointer (pB b2)), (8, .pointer (pB b3)), (30, .bool false)] _ (by kernel_rfl) rfl ?_
 refine bS [5] 1 3 [(2, .slice A n cap), (7, .pointer (pB b2)), (8, .pointer (pB b3)), (31, .agg #[iq 0, iq 0, iq W1q, iq H1q])] ?_
 refine pl_step 2 2 rfl rfl ?_
 refine call_gen (d := 32) (α := Option Addr × Nat × Nat × Nat × Option Addr × Nat × Nat × Nat) (fun x_ => .agg #[iq 0, iq 0, iq W1q, iq H1q, .slice x_.1 x_.2.2.1 x_.2.2.2.1, .slice x_.2.2.2.2.1 x_.2.2.2.2.2.2.1 x_.2.2.2.2.2.2.2, iq 0, iq 0, iq 0]) (fun x_ => [.gen (rowE (x_.1) x_.2.1 x_.2.2.1 x_.2.2.2.1 28 4 (rvals [(⟨0, 0, W1q, H1q⟩ : Rect)]) true), .gen (rowE (x_.2.2.2.2.1) x_.2.2.2.2.2.1 x_.2.2.2.2.2.2.1 x_.2.2.2.2.2.2.2 28 4 (rvals [(⟨0, 0, W1q, H1q⟩ : Rect)]) true), .cells b3 [.pointer (pB m4), .pointer (pB m17), .slice A10 k12 cp13, .slice B14 kB16 cB17, iq 0, iq 0, iq 0, iq 0] 98 true, .cells m4 [iq W1q, iq H1q, .slice (pB r5) n6 n6] 115 true, .gen (rowE (pB r5) r5 n6 n6 54 1 (ivals .u32 (List.replicate n6 0)) true), .gen (rowE (A10) g11 k12 cp13 28 4 (rvals (canR [(⟨0, 0, W1q, H1q⟩ : Rect)])) true), .gen (rowE (B14) gB15 kB16 cB17 28 4 (rvals (canR [(⟨0, 0, W1q, H1q⟩ : Rect)])) true), .cells b2 [iq 0, iq 0, iq W1q, iq H1q] 28 true, .gen (rdE (A) g o n 7 (dvals Deed18.cells xs)), .gen (subE n (fun i_ => rdE ((dget xs i_).A1) (dget xs i_).g1 (dget xs i_).o1 (dget xs i_).m1 4 (rvals (dget xs i_).x1)))]) (fun x_ => True) (by kernel_rfl) (fun w hT => (refNew18 W1q H1q w).mono fun e w' ⟨A22, g23, k24, cp25, B26, gB27, kB28, cB29, he_, ht_⟩ => ⟨(A22, g23, k24, cp25, B26, gB27, kB28, cB29), he_, trivial, hT.news ht_ rfl⟩) ?_
 rintro ⟨A22, g23, k24, cp25, B26, gB27, kB28, cB29⟩ hf30_
 refine cont_norm [(2, .slice A n cap), (7, .pointer (pB b2)), (8, .pointer (pB b3)), (31, .agg #[iq 0, iq 0, iq W1q, iq H1q]), (32, .agg #[iq 0, iq 0, iq W1q, iq H1q, .slice A22 k24 cp25, .slice B26 kB28 cB29, iq 0, iq 0, iq 0])] _ (by kernel_rfl) rfl ?_
 refine cont_fact (F := (0 < k24 → (A22 : Option Addr) = pB g23) ∧ [(⟨0, 0, W1q, H1q⟩ : Rect)].length = k24 ∧ k24 ≤ cp25 ∧ cp25 ≤ maxLen) (fun w hT => Row.factsR (hT.ok 0 _ rfl)) (fun hr31_ => ?_)
 obtain ⟨hr31_a, hr31_l, hr31_c, hr31_m⟩ := hr31_
 unfold maxLen at hr31_m
 refine cont_fact (F := (0 < kB28 → (B26 : Option Addr) = pB gB27) ∧ [(⟨0, 0, W1q, H1q⟩ : Rect)].length = kB28 ∧ kB28 ≤ cB29 ∧ cB29 ≤ maxLen) (fun w hT => Row.factsR (hT.ok 1 _ rfl)) (fun hr32_ => ?_)
 obtain ⟨hr32_a, hr32_l, hr32_c, hr32_m⟩ := hr32_
 unfold maxLen at hr32_m
 refine batch1 [0, 0] 4 0 (fun b33 => [(2, .slice A n cap), (7, .pointer (pB b2)), (8, .pointer (pB b3)), (10, .pointer (pB b33))]) (fun b33 => [.cells b33 [iq 0, iq 0, iq W1q, iq H1q, .slice A22 k24 cp25, .slice B26 kB28 cB29, iq 0, iq 0, iq 0] 81 true, .gen (rowE (A22) g23 k24 cp25 28 4 (rvals [(⟨0, 0, W1q, H1q⟩ : Rect)]) true), .gen (rowE (B26) gB27 kB28 cB29 28 4 (rvals [(⟨0, 0, W1q, H1q⟩ : Rect)]) true), .cells b3 [.pointer (pB m4), .pointer (pB m17), .slice A10 k12 cp13, .slice B14 kB16 cB17, iq 0, iq 0, iq 0, iq 0] 98 true, .cells m4 [iq W1q, iq H1q, .slice (pB r5) n6 n6] 115 true, .gen (rowE (pB r5) r5 n6 n6 54 1 (ivals .u32 (List.replicate n6 0)) true), .gen (rowE (A10) g11 k12 cp13 28 4 (rvals (canR [(⟨0, 0, W1q, H1q⟩ : Rect)])) true), .gen (rowE (B14) gB15 kB16 cB17 28 4 (rvals (canR [(⟨0, 0, W1q, H1q⟩ : Rect)])) true), .cells b2 [iq 0, iq 0, iq W1q, iq H1q] 28 true, .gen (rdE (A) g o n 7 (dvals Deed18.cells xs)), .gen (subE n (fun i_ => rdE ((dget xs i_).A1) (dget xs i_).g1 (dget xs i_).o1 (dget xs i_).m1 4 (rvals (dget xs i_).x1)))]) rfl rfl [2, 7, 8, 10] (fun _ => rfl) (fun b33 => by kernel_rfl) (fun b33 => by kernel_rfl) (fun b33 => ?_)
 refine cont_done ?_
 refine then_normal ?_
 refine cont_seq ?_
 refine cont_seq ?_
 refine cont_region 1 rfl ?_
 refine bS [0] 1 0 [(2, .slice A n cap), (7, .pointer (pB b2)), (8, .pointer (pB b3)), (10, .pointer (pB b33)), (11, iq 0)] ?_
 refine cont_done ?_
 refine then_normal ?_
 refine cont_block ?_
 have hbx : emptyR (⟨0, 0, W1q, H1q⟩ : Rect) = false := emptyB_false.2 ⟨by simp only; omega, by simp only; omega⟩
 have hl1_ : ([(⟨0, 0, W1q, H1q⟩ : Rect)]).length = 1 := rfl
 refine cont_rowEqR 6 (canR [(⟨0, 0, W1q, H1q⟩ : Rect)]) ([(⟨0, 0, W1q, H1q⟩ : Rect)]) rfl (can_one hbx) ?_
 refine cont_rowEqR 7 (canR [(⟨0, 0, W1q, H1q⟩ : Rect)]) ([(⟨0, 0, W1q, H1q⟩ : Rect)]) rfl (can_one hbx) ?_
 refine cont_fact (F := (0 < k12 → (A10 : Option Addr) = pB g11) ∧ [(⟨0, 0, W1q, H1q⟩ : Rect)].length = k12 ∧ k12 ≤ cp13 ∧ cp13 ≤ maxLen) (fun w hT => Row.factsR (hT.ok 6 _ rfl)) (fun hr34_ => ?_)
 obtain ⟨hr34_a, hr34_l, hr34_c, hr34_m⟩ := hr34_
 unfold maxLen at hr34_m
 refine cont_fact (F := (0 < kB16 → (B14 : Option Addr) = pB gB15) ∧ [(⟨0, 0, W1q, H1q⟩ : Rect)].length = kB16 ∧ kB16 ≤ cB17 ∧ cB17 ≤ maxLen) (fun w hT => Row.factsR (hT.ok 7 _ rfl)) (fun hr35_ => ?_)
 obtain ⟨hr35_a, hr35_l, hr35_c, hr35_m⟩ := hr35_
 unfold maxLen at hr35_m
 refine cont_loop (α := Nat × Nat × Int × Int × Int × List Rect × Option Addr × Nat × Nat × Nat × List Rect × Option Addr × Nat × Nat × Nat × Option Addr × Nat × Nat × Nat × Option Addr × Nat × Nat × Nat) (fun x_ : Nat × Nat × Int × Int × Int × List Rect × Option Addr × Nat × Nat × Nat × List Rect × Option Addr × Nat × Nat × Nat × Option Addr × Nat × Nat × Nat × Option Addr × Nat × Nat × Nat => x_.1 ≤ 30 ∧ x_.1 ≤ n ∧ x_.2.1 ≤ 1 ∧ 0 ≤ x_.2.2.2.2.1 ∧ x_.2.2.2.2.1 ≤ (x_.1 : Int) ∧ 0 ≤ x_.2.2.1 ∧ x_.2.2.1 ≤ x_.2.2.2.2.1 ∧ 0 ≤ x_.2.2.2.1 ∧ x_.2.2.2.1 ≤ x_.2.2.2.2.1 ∧ x_.2.2.2.2.2.2.2.2.1 ≤ 64 ∧ x_.2.2.2.2.2.2.2.2.2.2.2.2.2.1 ≤ 64 ∧ x_.2.2.2.2.2.2.2.2.2.2.2.2.2.2.2.2.2.1 ≤ 64 ∧ x_.2.2.2.2.2.2.2.2.2.2.2.2.2.2.2.2.2.2.2.2.2.1 ≤ 64) (fun x_ : Nat × Nat × Int × Int × Int × List Rect × Option Addr × Nat × Nat × Nat × List Rect × Option Addr × Nat × Nat × Nat × Option Addr × Nat × Nat × Nat × Option Addr × Nat × Nat × Nat => [(2, .slice A n cap), (7, .pointer (pB b2)), (8, .pointer (pB b3)), (10, .pointer (pB b33)), (11, iq (x_.1 : Int))]) (fun x_ : Nat × Nat × Int × Int × Int × List Rect × Option Addr × Nat × Nat × Nat × List Rect × Option Addr × Nat × Nat × Nat × Option Addr × Nat × Nat × Nat × Option Addr × Nat × Nat × Nat => [.cells b33 [iq 0, iq 0, iq W1q, iq H1q, .slice x_.2.2.2.2.2.2.2.2.2.2.2.2.2.2.2.1 x_.2.2.2.2.2.2.2.2.2.2.2.2.2.2.2.2.2.1 x_.2.2.2.2.2.2.2.2.2.2.2.2.2.2.2.2.2.2.1, .slice x_.2.2.2.2.2.2.2.2.2.2.2.2.2.2.2.2.2.2.2.1 x_.2.2.2.2.2.2.2.2.2.2.2.2.2.2.2.2.2.2.2.2.2.1 x_.2.2.2.2.2.2.2.2.2.2.2.2.2.2.2.2.2.2.2.2.2.2, iq (if x_.2.1 = 0 then x_.2.2.1 else x_.2.2.2.1), iq (if x_.2.1 = 0 then x_.2.2.2.1 else x_.2.2.1), iq x_.2.2.2.2.1] 81 true, .gen (rowE (x_.2.2.2.2.2.2.2.2.2.2.2.2.2.2.2.1) x_.2.2.2.2.2.2.2.2.2.2.2.2.2.2.2.2.1 x_.2.2.2.2.2.2.2.2.2.2.2.2.2.2.2.2.2.1 x_.2.2.2.2.2.2.2.2.2.2.2.2.2.2.2.2.2.2.1 28 4 (rvals (if x_.2.1 = 0 then x_.2.2.2.2.2.1 else x_.2.2.2.2.2.2.2.2.2.2.1)) true), .gen (rowE (x_.2.2.2.2.2.2.2.2.2.2.2.2.2.2.2.2.2.2.2.1) x_.2.2.2.2.2.2.2.2.2.2.2.2.2.2.2.2.2.2.2.2.1 x_.2.2.2.2.2.2.2.2.2.2.2.2.2.2.2.2.2.2.2.2.2.1 x_.2.2.2.2.2.2.2.2.2.2.2.2.2.2.2.2.2.2.2.2.2.2 28 4 (rvals (if x_.2.1 = 0 then x_.2.2.2.2.2.2.2.2.2.2.1 else x_.2.2.2.2.2.1)) true), .cells b3 [.pointer (pB m4), .pointer (pB m17), .slice x_.2.2.2.2.2.2.1 x_.2.2.2.2.2.2.2.2.1 x_.2.2.2.2.2.2.2.2.2.1, .slice x_.2.2.2.2.2.2.2.2.2.2.2.1 x_.2.2.2.2.2.2.2.2.2.2.2.2.2.1 x_.2.2.2.2.2.2.2.2.2.2.2.2.2.2.1, iq x_.2.2.1, iq x_.2.2.2.1, iq x_.2.2.2.2.1, iq (x_.2.1 : Int)] 98 true, .cells m4 [iq W1q, iq H1q, .slice (pB r5) n6 n6] 115 true, .gen (rowE (pB r5) r5 n6 n6 54 1 (ivals .u32 (List.replicate n6 0)) true), .gen (rowE (x_.2.2.2.2.2.2.1) x_.2.2.2.2.2.2.2.1 x_.2.2.2.2.2.2.2.2.1 x_.2.2.2.2.2.2.2.2.2.1 28 4 (rvals x_.2.2.2.2.2.1) true), .gen (rowE (x_.2.2.2.2.2.2.2.2.2.2.2.1) x_.2.2.2.2.2.2.2.2.2.2.2.2.1 x_.2.2.2.2.2.2.2.2.2.2.2.2.2.1 x_.2.2.2.2.2.2.2.2.2.2.2.2.2.2.1 28 4 (rvals x_.2.2.2.2.2.2.2.2.2.2.1) true), .cells b2 [iq 0, iq 0, iq W1q, iq H1q] 28 true, .gen (rdE (A) g o n 7 (dvals Deed18.cells xs)), .gen (subE n (fun i_ => rdE ((dget xs i_).A1) (dget xs i_).g1 (dget xs i_).o1 (dget xs i_).m1 4 (rvals (dget xs i_).x1)))]) (fun x_ : Nat × Nat × Int × Int × Int × List Rect × Option Addr × Nat × Nat × Nat × List Rect × Option Addr × Nat × Nat × Nat × Option Addr × Nat × Nat × Nat × Option Addr × Nat × Nat × Nat => 40 - x_.1) (0, 0, 0, 0, 0, [(⟨0, 0, W1q, H1q⟩ : Rect)], A10, g11, k12, cp13, [(⟨0, 0, W1q, H1q⟩ : Rect)], B14, gB15, kB16, cB17, A22, g23, k24, cp25, B26, gB27, kB28, cB29) (show (0) ≤ 30 ∧ (0) ≤ n ∧ (0) ≤ 1 ∧ 0 ≤ (0) ∧ (0) ≤ ((0) : Int) ∧ 0 ≤ (0) ∧ (0) ≤ (0) ∧ 0 ≤ (0) ∧ (0) ≤ (0) ∧ (k12) ≤ 64 ∧ (kB16) ≤ 64 ∧ (k24) ≤ 64 ∧ (kB28) ≤ 64 from ⟨by omega, by omega, by omega, by omega, by omega, by omega, by omega, by omega, by omega, by omega, by omega, by omega, by omega⟩) (by kernel_rfl) (by kernel_rfl) ?_
 rintro ⟨i, bk, w0, w1, fr, xs0, Ax, gx, kx, cx, xs1, Ay, gy, ky, cy, Au, gu, ku, cu, Av, gv, kv, cv⟩ hinv36_
 replace hinv36_ : i ≤ 30 ∧ i ≤ n ∧ bk ≤ 1 ∧ 0 ≤ fr ∧ fr ≤ (i : Int) ∧ 0 ≤ w0 ∧ w0 ≤ fr ∧ 0 ≤ w1 ∧ w1 ≤ fr ∧ kx ≤ 64 ∧ ky ≤ 64 ∧ ku ≤ 64 ∧ kv ≤ 64 := hinv36_
 refine cont_norm [(2, .slice A n cap), (7, .pointer (pB b2)), (8, .pointer (pB b3)), (10, .pointer (pB b33)), (11, iq (i : Int))] _ (by kernel_rfl) rfl ?_
 obtain ⟨hi1, hi2, hbk, hf0, hf1, hw0, hw1, hw2, hw3, hkx, hky, hku, hkv⟩ := hinv36_
 rcases (show bk = 0 ∨ bk = 1 by omega) with rfl | rfl
 ·
  refine cont_norm [(2, .slice A n cap), (7, .pointer (pB b2)), (8, .pointer (pB b3)), (10, .pointer (pB b33)), (11, iq (i : Int))] _ (by kernel_rfl) rfl ?_
  refine cont_fact (F := (0 < kx → (Ax : Option Addr) = pB gx) ∧ xs0.length = kx ∧ kx ≤ cx ∧ cx ≤ maxLen) (fun w hT => Row.factsR (hT.ok 6 _ rfl)) (fun hr37_ => ?_)
  obtain ⟨hr37_a, hr37_l, hr37_c, hr37_m⟩ := hr37_
  unfold maxLen at hr37_m
  refine cont_fact (F := (0 < ky → (Ay : Option Addr) = pB gy) ∧ xs1.length = ky ∧ ky ≤ cy ∧ cy ≤ maxLen) (fun w hT => Row.factsR (hT.ok 7 _ rfl)) (fun hr38_ => ?_)
  obtain ⟨hr38_a, hr38_l, hr38_c, hr38_m⟩ := hr38_
  unfold maxLen at hr38_m
  refine cont_fact (F := (0 < ku → (Au : Option Addr) = pB gu) ∧ xs0.length = ku ∧ ku ≤ cu ∧ cu ≤ maxLen) (fun w hT => Row.factsR (hT.ok 1 _ rfl)) (fun hr39_ => ?_)
  obtain ⟨hr39_a, hr39_l, hr39_c, hr39_m⟩ := hr39_
  unfold maxLen at hr39_m
  refine cont_fact (F := (0 < kv → (Av : Option Addr) = pB gv) ∧ xs1.length = kv ∧ kv ≤ cv ∧ cv ≤ maxLen) (fun w hT => Row.factsR (hT.ok 2 _ rfl)) (fun hr40_ => ?_)
  obtain ⟨hr40_a, hr40_l, hr40_c, hr40_m⟩ := hr40_
  unfold maxLen at hr40_m
  refine cont_seq ?_
  refine cont_seq ?_
  refine cont_region 8 rfl ?_
  refine bS [0, 0, 0, 0, 0] 5 3 [(2, .slice A n cap), (7, .pointer (pB b2)), (8, .pointer (pB b3)), (10, .pointer (pB b33)), (11, iq (i : Int)), (37, .bool (decide ((i : Int) < (n : Int))))] ?_
  refine cont_split 37 (decide ((i : Int) < (n : Int))) rfl (fun c41_ => ?_) (fun c41_ => ?_)
  ·
   replace c41_ := of_decide_eq_true c41_
   refine bS [0, 0, 0] 8 0 [(2, .slice A n cap), (7, .pointer (pB b2)), (8, .pointer (pB b3)), (10, .pointer (pB b33)), (11, iq (i : Int)), (38, iq (i : Int)), (39, .bool (decide ((i : Int) < 30))), (40, .bool (decide ((i : Int) < 30)))] ?_
   refine cont_done ?_
   refine then_normal ?_
   refine cont_split 40 (decide ((i : Int) < 30)) rfl (fun c42_ => ?_) (fun c42_ => ?_)
   ·
    refine cont_recast 39 (.bool (decide ((i : Int) < 30))) (.bool true) rfl (congrArg Value.bool c42_) ?_
    replace c42_ := of_decide_eq_true c42_
    refine cont_true rfl ?_
    refine cont_skip ?_
    refine then_normal ?_
    refine cont_seq ?_
    refine cont_block ?_
    refine cont_seq ?_
    refine cont_region 6 rfl ?_
    refine cont_sub 10 i n (fun i_ => rdE ((dget xs i_).A1) (dget xs i_).g1 (dget xs i_).o1 (dget xs i_).m1 4 (rvals (dget xs i_).x1)) rfl (by omega) rfl rfl ?_
    refine cont_norm [(2, .slice A n cap), (7, .pointer (pB b2)), (8, .pointer (pB b3)), (10, .pointer (pB b33)), (11, iq (i : Int)), (38, iq (i : Int)), (39, .bool true), (40, .bool true)] _ (by kernel_rfl) rfl ?_
    generalize hel : dget xs i = el
    have helg := hge i (by omega)
    rw [hel] at helg
    refine bS [0, 0] 2 4 [(2, .slice A n cap), (7, .pointer (pB b2)), (8, .pointer (pB b3)), (10, .pointer (pB b33)), (11, iq (i : Int)), (38, iq (i : Int)), (39, .bool true), (43, .slice A n cap), (44, iq (i : Int))] ?_
    refine pl_step 3 3 rfl rfl ?_
    refine cont_recast 43 (.slice A n cap) (.slice (some ⟨g, o, none⟩) n cap) rfl (by rw [hra (by omega)]) ?_
    refine sem_step 45 (Instr.indexAt 59 (.slice (some ⟨g, o, none⟩) n cap) (iq (i : Int))) (.pointer (some ⟨g, o + i * 7, none⟩)) (by kernel_rfl) (fun w hT => run_indexAt (e := 64) (sz := 7) _ (by kernel_rfl) (by kernel_rfl) (by omega) (by omega) (by omega) w) ?_
    refine pl_step 4 2 rfl rfl ?_
    refine cont_fact (F := (0 < el.m1 → (el.A1 : Option Addr) = some ⟨el.g1, el.o1, none⟩) ∧ el.x1.length = el.m1) (fun w hT => Rd.factsR (hT.ok 0 _ rfl)) (fun hl43_ => ?_)
    obtain ⟨hl43_a, hl43_l⟩ := hl43_
    refine sem_step 46 (Instr.loadAt 64 (.pointer (some ⟨g, o + i * 7, none⟩))) (.agg #[iq el.x0, .slice el.A1 el.m1 el.k1, iq el.x2, iq el.x3, iq el.x4, iq el.x5, .int .u32 el.x6]) (by kernel_rfl) (fun w hT => run_loadN (m := 7) (cs := [iq el.x0, .slice el.A1 el.m1 el.k1, iq el.x2, iq el.x3, iq el.x4, iq el.x5, .int .u32 el.x6]) (by kernel_rfl) (by kernel_rfl) rfl (by have h_ := Rd.dcell Deed18.size (hT.ok 10 _ rfl) (i := i) (by omega); rw [hel] at h_; exact h_)) ?_
    refine batch1 [0, 0] 6 0 (fun b44 => [(2, .slice A n cap), (7, .pointer (pB b2)), (8, .pointer (pB b3)), (10, .pointer (pB b33)), (11, iq (i : Int)), (12, .pointer (pB b44)), (38, iq (i : Int)), (39, .bool true)]) (fun b44 => [.cells b44 [iq el.x0, .slice el.A1 el.m1 el.k1, iq el.x2, iq el.x3, iq el.x4, iq el.x5, .int .u32 el.x6] 64 true, .gen (rdE (el.A1) el.g1 el.o1 el.m1 4 (rvals el.x1)), .cells b33 [iq 0, iq 0, iq W1q, iq H1q, .slice Au ku cu, .slice Av kv cv, iq w0, iq w1, iq fr] 81 true, .gen (rowE (Au) gu ku cu 28 4 (rvals xs0) true), .gen (rowE (Av) gv kv cv 28 4 (rvals xs1) true), .cells b3 [.pointer (pB m4), .pointer (pB m17), .slice Ax kx cx, .slice Ay ky cy, iq w0, iq w1, iq fr, iq 0] 98 true, .cells m4 [iq W1q, iq H1q, .slice (pB r5) n6 n6] 115 true, .gen (rowE (pB r5) r5 n6 n6 54 1 (ivals .u32 (List.replicate n6 0)) true), .gen (rowE (Ax) gx kx cx 28 4 (rvals xs0) true), .gen (rowE (Ay) gy ky cy 28 4 (rvals xs1) true), .cells b2 [iq 0, iq 0, iq W1q, iq H1q] 28 true, .gen (rdE (A) g o n 7 (dvals Deed18.cells xs)), .gen (subE n (fun i_ => rdE ((dget xs i_).A1) (dget xs i_).g1 (dget xs i_).o1 (dget xs i_).m1 4 (rvals (dget xs i_).x1)))]) rfl rfl [2, 7, 8, 10, 11, 12, 38, 39] (fun _ => rfl) (fun b44 => by kernel_rfl) (fun b44 => by kernel_rfl) (fun b44 => ?_)
    refine cont_done ?_
    refine then_normal ?_
    refine cont_seq ?_
    refine cont_region 8 rfl ?_
    refine bS [0, 0, 0, 0, 0, 0] 6 2 [(2, .slice A n cap), (7, .pointer (pB b2)), (8, .pointer (pB b3)), (10, .pointer (pB b33)), (11, iq (i : Int)), (12, .pointer (pB b44)), (38, iq (i : Int)), (39, .bool true), (48, .slice el.A1 el.m1 el.k1), (52, iq (mn ((el.m1 : Nat) : Int) 4))] ?_
    obtain ⟨mq, hmq⟩ : ∃ y_ : Int, y_ = (mn ((el.m1 : Nat) : Int) 4) := ⟨_, rfl⟩
    refine cont_recast 52 (iq (mn ((el.m1 : Nat) : Int) 4)) (iq mq) rfl (congrArg (Value.int .i64) hmq.symm) ?_
    have hmq2 : 0 ≤ mq ∧ mq ≤ 4 ∧ mq ≤ ((el).m1 : Int) := by rw [hmq]; unfold mn; omega
    have hec_ := helg.c1
    have hem_ := helg.m1
    unfold maxLen at hem_
    refine pl_step 7 1 rfl rfl ?_
    refine sem_step 53 (Instr.sliceAt 62 (.slice el.A1 el.m1 el.k1) none (some (iq mq)) none) (.slice el.A1 (Int.toNat mq) el.k1) (by kernel_rfl) (fun w hT => run_sliceHiA (e := 28) (sz := 4) _ (by kernel_rfl) (by kernel_rfl) (by omega) (by omega) (by omega) w) ?_
    refine bS [0] 8 0 [(2, .slice A n cap), (7, .pointer (pB b2)), (8, .pointer (pB b3)), (10, .pointer (pB b33)), (11, iq (i : Int)), (12, .pointer (pB b44)), (13, .slice el.A1 (Int.toNat mq) el.k1), (38, iq (i : Int)), (39, .bool true)] ?_
    refine cont_done ?_
    refine then_normal ?_
    refine cont_seq ?_
    refine cont_seq ?_
    refine cont_region 2 rfl ?_
    refine bS [0, 0] 2 0 [(2, .slice A n cap), (7, .pointer (pB b2)), (8, .pointer (pB b3)), (10, .pointer (pB b33)), (11, iq (i : Int)), (13, .slice el.A1 (Int.toNat mq) el.k1), (38, iq (i : Int)), (39, .bool true), (55, iq el.x0)] ?_
    refine cont_forget 0 rfl ?_
    refine cont_done ?_
    refine then_normal ?_
    refine cont_block ?_
    refine cont_seq ?_
    refine cont_region 2 rfl ?_
    refine bS [0, 0] 2 0 [(2, .slice A n cap), (7, .pointer (pB b2)), (8, .pointer (pB b3)), (10, .pointer (pB b33)), (11, iq (i : Int)), (13, .slice el.A1 (Int.toNat mq) el.k1), (38, iq (i : Int)), (39, .bool true), (55, iq el.x0), (56, .bool (el.x0 == 0))] ?_
    refine cont_done ?_
    refine then_normal ?_
    refine cont_split 56 (el.x0 == 0) rfl (fun c45_ => ?_) (fun c45_ => ?_)
    ·
     replace c45_ := eq_of_beqt c45_
     refine cont_true rfl ?_
     refine cont_seq ?_
     refine cont_region 3 rfl ?_
     refine bS [0, 0] 2 1 [(2, .slice A n cap), (7, .pointer (pB b2)), (8, .pointer (pB b3)), (10, .pointer (pB b33)), (11, iq (i : Int)), (13, .slice el.A1 (Int.toNat mq) el.k1), (38, iq (i : Int)), (39, .bool true), (58, .pointer (pB b3)), (59, .slice el.A1 (Int.toNat mq) el.k1)] ?_
     refine pl_step 3 0 rfl rfl ?_
     refine call_gen (d := 60) (α := Option Addr × Nat × Nat × Nat × Option Addr × Nat × Nat × Nat) (fun _ => .tuple #[]) (fun x_ => [.gen (rowE (x_.1) x_.2.1 x_.2.2.1 x_.2.2.2.1 28 4 (rvals (keepL hullP (regM orB xs0 (regM andB (canR (el.x1.take (Int.toNat mq))) (canR [(⟨0, 0, W1q, H1q⟩ : Rect)]))) 64)) true), .gen (rowE (x_.2.2.2.2.1) x_.2.2.2.2.2.1 x_.2.2.2.2.2.2.1 x_.2.2.2.2.2.2.2 28 4 (rvals (keepL hullP (regM orB xs1 (regM andB (canR (el.x1.take (Int.toNat mq))) (canR [(⟨0, 0, W1q, H1q⟩ : Rect)]))) 64)) true), .gen (rdE (el.A1) el.g1 el.o1 el.m1 4 (rvals el.x1)), .cells b33 [iq 0, iq 0, iq W1q, iq H1q, .slice Au ku cu, .slice Av kv cv, iq w0, iq w1, iq fr] 81 true, .gen (rowE (Au) gu ku cu 28 4 (rvals xs0) true), .gen (rowE (Av) gv kv cv 28 4 (rvals xs1) true), .cells b3 [.pointer (pB m4), .pointer (pB m17), .slice x_.1 x_.2.2.1 x_.2.2.2.1, .slice x_.2.2.2.2.1 x_.2.2.2.2.2.2.1 x_.2.2.2.2.2.2.2, iq w0, iq w1, iq fr, iq 0] 98 true, .cells m4 [iq W1q, iq H1q, .slice (pB r5) n6 n6] 115 true, .gen (rowE (pB r5) r5 n6 n6 54 1 (ivals .u32 (List.replicate n6 0)) true), .gen (rowE (Ax) gx kx cx 28 4 (rvals xs0) true), .gen (rowE (Ay) gy ky cy 28 4 (rvals xs1) true), .cells b2 [iq 0, iq 0, iq W1q, iq H1q] 28 true, .gen (rdE (A) g o n 7 (dvals Deed18.cells xs)), .gen (subE n (fun i_ => rdE ((dget xs i_).A1) (dget xs i_).g1 (dget xs i_).o1 (dget xs i_).m1 4 (rvals (dget xs i_).x1)))]) (fun _ => True) (by kernel_rfl) (fun w hT => (outDamage b3 m4 m17 Ax Ay kx cx ky cy w0 w1 fr 0 W1q H1q r5 n6 n6 (List.replicate n6 0) gx xs0 gy xs1 el.A1 el.g1 el.o1 (Int.toNat mq) el.k1 (el.x1.take (Int.toNat mq)) w (hT.view (.cons (i := 4) rfl Vw.rw (.cons (i := 5) rfl Vw.roc (.cons (i := 6) rfl Vw.rowRd (.cons (i := 7) rfl Vw.rowRd (.cons (i := 8) rfl Vw.rowRd (.cons (i := 0) rfl (Vw.rdHeadA (n := el.m1) (m := (Int.toNat mq)) (by omega)) .nil)))))) (by decide)) (by omega) (imgOk_new (by omega) hf18_a) (by omega) (by omega) (by omega)).mono fun e w' ⟨A46q, gA47q, k48q, cp49q, B50q, gB51q, kB52q, cB53q, he_, ht_⟩ => ⟨(A46q, gA47q, k48q, cp49q, B50q, gB51q, kB52q, cB53q), he_, trivial, hT.merge (N := [.gen (rowE (A46q) gA47q k48q cp49q 28 4 (rvals (keepL hullP (regM orB xs0 (regM andB (canR (el.x1.take (Int.toNat mq))) (canR [(⟨0, 0, W1q, H1q⟩ : Rect)]))) 64)) true), .gen (rowE (B50q) gB51q kB52q cB53q 28 4 (rvals (keepL hullP (regM orB xs1 (regM andB (canR (el.x1.take (Int.toNat mq))) (canR [(⟨0, 0, W1q, H1q⟩ : Rect)]))) 64)) true)]) (s := [4, 5, 6, 7, 8, 0]) ht_ (.cons (i := 4) rfl Mg.cells (.skip rfl (.skip rfl (.skip rfl (.skip rfl (.skip rfl .nil)))))) (by decide) (allOwn_get rfl)⟩) ?_
     rintro ⟨A46q, gA47q, k48q, cp49q, B50q, gB51q, kB52q, cB53q⟩ -
     refine cont_norm [(2, .slice A n cap), (7, .pointer (pB b2)), (8, .pointer (pB b3)), (10, .pointer (pB b33)), (11, iq (i : Int)), (13, .slice el.A1 (Int.toNat mq) el.k1), (38, iq (i : Int)), (39, .bool true), (58, .pointer (pB b3)), (59, .slice el.A1 (Int.toNat mq) el.k1), (60, .tuple #[])] _ (by kernel_rfl) rfl ?_
     refine cont_fact (F := (0 < k48q → (A46q : Option Addr) = pB gA47q) ∧ (keepL hullP (regM orB xs0 (regM andB (canR (el.x1.take (Int.toNat mq))) (canR [(⟨0, 0, W1q, H1q⟩ : Rect)]))) 64).length = k48q ∧ k48q ≤ cp49q ∧ cp49q ≤ maxLen) (fun w hT => Row.factsR (hT.ok 0 _ rfl)) (fun hr54_ => ?_)
     obtain ⟨hr54_a, hr54_l, hr54_c, hr54_m⟩ := hr54_
     unfold maxLen at hr54_m
     have hr54_k : k48q ≤ 64 := by rw [← hr54_l]; exact keep_len64 _ _
     clear hr54_l
     refine cont_rowEqR 0 (keepL hullP (regM orB xs0 (regM andB (canR (el.x1.take (Int.toNat mq))) (canR [(⟨0, 0, W1q, H1q⟩ : Rect)]))) 64) (keepL hullD (regM orB xs0 (regM andB (canR (el.x1.take (Int.toNat mq))) [(⟨0, 0, W1q, H1q⟩ : Rect)])) 64) rfl (out_new _ _ hbx) ?_
     refine cont_norm [(2, .slice A n cap), (7, .pointer (pB b2)), (8, .pointer (pB b3)), (10, .pointer (pB b33)), (11, iq (i : Int)), (13, .slice el.A1 (Int.toNat mq) el.k1), (38, iq (i : Int)), (39, .bool true), (58, .pointer (pB b3)), (59, .slice el.A1 (Int.toNat mq) el.k1), (60, .tuple #[])] _ (by kernel_rfl) rfl ?_
     refine cont_fact (F := (0 < kB52q → (B50q : Option Addr) = pB gB51q) ∧ (keepL hullP (regM orB xs1 (regM andB (canR (el.x1.take (Int.toNat mq))) (canR [(⟨0, 0, W1q, H1q⟩ : Rect)]))) 64).length = kB52q ∧ kB52q ≤ cB53q ∧ cB53q ≤ maxLen) (fun w hT => Row.factsR (hT.ok 1 _ rfl)) (fun hr55_ => ?_)
     obtain ⟨hr55_a, hr55_l, hr55_c, hr55_m⟩ := hr55_
     unfold maxLen at hr55_m
     have hr55_k : kB52q ≤ 64 := by rw [← hr55_l]; exact keep_len64 _ _
     clear hr55_l
     refine cont_rowEqR 1 (keepL hullP (regM orB xs1 (regM andB (canR (el.x1.take (Int.toNat mq))) (canR [(⟨0, 0, W1q, H1q⟩ : Rect)]))) 64) (keepL hullD (regM orB xs1 (regM andB (canR (el.x1.take (Int.toNat mq))) [(⟨0, 0, W1q, H1q⟩ : Rect)])) 64) rfl (out_new _ _ hbx) ?_
     refine cont_norm [(2, .slice A n cap), (7, .pointer (pB b2)), (8, .pointer (pB b3)), (10, .pointer (pB b33)), (11, iq (i : Int)), (13, .slice el.A1 (Int.toNat mq) el.k1), (38, iq (i : Int)), (39, .bool true), (58, .pointer (pB b3)), (59, .slice el.A1 (Int.toNat mq) el.k1), (60, .tuple #[])] _ (by kernel_rfl) rfl ?_
     refine cont_done ?_
     refine then_normal ?_
     refine cont_region 4 rfl ?_
     refine bS [3, 0] 2 2 [(2, .slice A n cap), (7, .pointer (pB b2)), (8, .pointer (pB b3)), (10, .pointer (pB b33)), (11, iq (i : Int)), (38, iq (i : Int)), (39, .bool true), (61, .agg #[iq 0, iq 0, iq W1q, iq H1q, .slice Au ku cu, .slice Av kv cv, iq w0, iq w1, iq fr]), (62, .slice el.A1 (Int.toNat mq) el.k1)] ?_
     refine cont_forget 9 rfl ?_
     refine cont_forget 9 rfl ?_
     refine pl_step 3 1 rfl rfl ?_
     refine call_gen (d := 63) (α := Option Addr × Nat × Nat × Nat × Option Addr × Nat × Nat × Nat) (fun x_ => .agg #[iq 0, iq 0, iq W1q, iq H1q, .slice x_.1 x_.2.2.1 x_.2.2.2.1, .slice x_.2.2.2.2.1 x_.2.2.2.2.2.2.1 x_.2.2.2.2.2.2.2, iq w0, iq w1, iq fr]) (fun x_ => [.gen (rowE (x_.1) x_.2.1 x_.2.2.1 x_.2.2.2.1 28 4 (rvals (keepL hullD (regM orB xs0 (regM andB (canR (el.x1.take (Int.toNat mq))) [(⟨0, 0, W1q, H1q⟩ : Rect)])) 64)) true), .gen (rowE (x_.2.2.2.2.1) x_.2.2.2.2.2.1 x_.2.2.2.2.2.2.1 x_.2.2.2.2.2.2.2 28 4 (rvals (keepL hullD (regM orB xs1 (regM andB (canR (el.x1.take (Int.toNat mq))) [(⟨0, 0, W1q, H1q⟩ : Rect)])) 64)) true), .gen (rowE (A46q) gA47q k48q cp49q 28 4 (rvals (keepL hullD (regM orB xs0 (regM andB (canR (el.x1.take (Int.toNat mq))) [(⟨0, 0, W1q, H1q⟩ : Rect)])) 64)) true), .gen (rowE (B50q) gB51q kB52q cB53q 28 4 (rvals (keepL hullD (regM orB xs1 (regM andB (canR (el.x1.take (Int.toNat mq))) [(⟨0, 0, W1q, H1q⟩ : Rect)])) 64)) true), .gen (rdE (el.A1) el.g1 el.o1 el.m1 4 (rvals el.x1)), .cells b33 [iq 0, iq 0, iq W1q, iq H1q, .slice Au ku cu, .slice Av kv cv, iq w0, iq w1, iq fr] 81 true, .gen (rowE (Au) gu ku cu 28 4 (rvals xs0) true), .gen (rowE (Av) gv kv cv 28 4 (rvals xs1) true), .cells b3 [.pointer (pB m4), .pointer (pB m17), .slice A46q k48q cp49q, .slice B50q kB52q cB53q, iq w0, iq w1, iq fr, iq 0] 98 true, .cells m4 [iq W1q, iq H1q, .slice (pB r5) n6 n6] 115 true, .gen (rowE (pB r5) r5 n6 n6 54 1 (ivals .u32 (List.replicate n6 0)) true), .cells b2 [iq 0, iq 0, iq W1q, iq H1q] 28 true, .gen (rdE (A) g o n 7 (dvals Deed18.cells xs)), .gen (subE n (fun i_ => rdE ((dget xs i_).A1) (dget xs i_).g1 (dget xs i_).o1 (dget xs i_).m1 4 (rvals (dget xs i_).x1)))]) (fun x_ => True) (by kernel_rfl) (fun w hT => (refDamage18 W1q H1q Au ku cu Av kv cv w0 w1 fr gu xs0 gv xs1 el.A1 el.g1 el.o1 (Int.toNat mq) el.k1 (el.x1.take (Int.toNat mq)) w (hT.viewRo (.cons (i := 4) rfl Vw.rowRd (.cons (i := 5) rfl Vw.rowRd (.cons (i := 2) rfl (Vw.rdHeadA (n := el.m1) (m := (Int.toNat mq)) (by omega)) .nil))) rfl) (by omega) (by omega) (by omega) (by omega)).mono fun e w' ⟨A56, g57, k58, cp59, B60, gB61, kB62, cB63, he_, ht_⟩ => ⟨(A56, g57, k58, cp59, B60, gB61, kB62, cB63), he_, trivial, hT.news ht_ rfl⟩) ?_
     rintro ⟨A56, g57, k58, cp59, B60, gB61, kB62, cB63⟩ hf64_
     refine cont_norm [(2, .slice A n cap), (7, .pointer (pB b2)), (8, .pointer (pB b3)), (10, .pointer (pB b33)), (11, iq (i : Int)), (38, iq (i : Int)), (39, .bool true), (61, .agg #[iq 0, iq 0, iq W1q, iq H1q, .slice Au ku cu, .slice Av kv cv, iq w0, iq w1, iq fr]), (62, .slice el.A1 (Int.toNat mq) el.k1), (63, .agg #[iq 0, iq 0, iq W1q, iq H1q, .slice A56 k58 cp59, .slice B60 kB62 cB63, iq w0, iq w1, iq fr])] _ (by kernel_rfl) rfl ?_
     refine cont_fact (F := (0 < k58 → (A56 : Option Addr) = pB g57) ∧ (keepL hullD (regM orB xs0 (regM andB (canR (el.x1.take (Int.toNat mq))) [(⟨0, 0, W1q, H1q⟩ : Rect)])) 64).length = k58 ∧ k58 ≤ cp59 ∧ cp59 ≤ maxLen) (fun w hT => Row.factsR (hT.ok 0 _ rfl)) (fun hr65_ => ?_)
     obtain ⟨hr65_a, hr65_l, hr65_c, hr65_m⟩ := hr65_
     unfold maxLen at hr65_m
     have hr65_k : k58 ≤ 64 := by rw [← hr65_l]; exact keep_len64 _ _
     clear hr65_l
     refine cont_fact (F := (0 < kB62 → (B60 : Option Addr) = pB gB61) ∧ (keepL hullD (regM orB xs1 (regM andB (canR (el.x1.take (Int.toNat mq))) [(⟨0, 0, W1q, H1q⟩ : Rect)])) 64).length = kB62 ∧ kB62 ≤ cB63 ∧ cB63 ≤ maxLen) (fun w hT => Row.factsR (hT.ok 1 _ rfl)) (fun hr66_ => ?_)
     obtain ⟨hr66_a, hr66_l, hr66_c, hr66_m⟩ := hr66_
     unfold maxLen at hr66_m
     have hr66_k : kB62 ≤ 64 := by rw [← hr66_l]; exact keep_len64 _ _
     clear hr66_l
     refine batch0 [5] 4 0 [(2, .slice A n cap), (7, .pointer (pB b2)), (8, .pointer (pB b3)), (10, .pointer (pB b33)), (11, iq (i : Int)), (38, iq (i : Int)), (39, .bool true)] [.gen (rowE (A56) g57 k58 cp59 28 4 (rvals (keepL hullD (regM orB xs0 (regM andB (canR (el.x1.take (Int.toNat mq))) [(⟨0, 0, W1q, H1q⟩ : Rect)])) 64)) true), .gen (rowE (B60) gB61 kB62 cB63 28 4 (rvals (keepL hullD (regM orB xs1 (regM andB (canR (el.x1.take (Int.toNat mq))) [(⟨0, 0, W1q, H1q⟩ : Rect)])) 64)) true), .gen (rowE (A46q) gA47q k48q cp49q 28 4 (rvals (keepL hullD (regM orB xs0 (regM andB (canR (el.x1.take (Int.toNat mq))) [(⟨0, 0, W1q, H1q⟩ : Rect)])) 64)) true), .gen (rowE (B50q) gB51q kB52q cB53q 28 4 (rvals (keepL hullD (regM orB xs1 (regM andB (canR (el.x1.take (Int.toNat mq))) [(⟨0, 0, W1q, H1q⟩ : Rect)])) 64)) true), .gen (rdE (el.A1) el.g1 el.o1 el.m1 4 (rvals el.x1)), .cells b33 [iq 0, iq 0, iq W1q, iq H1q, .slice A56 k58 cp59, .slice B60 kB62 cB63, iq w0, iq w1, iq fr] 81 true, .gen (rowE (Au) gu ku cu 28 4 (rvals xs0) true), .gen (rowE (Av) gv kv cv 28 4 (rvals xs1) true), .cells b3 [.pointer (pB m4), .pointer (pB m17), .slice A46q k48q cp49q, .slice B50q kB52q cB53q, iq w0, iq w1, iq fr, iq 0] 98 true, .cells m4 [iq W1q, iq H1q, .slice (pB r5) n6 n6] 115 true, .gen (rowE (pB r5) r5 n6 n6 54 1 (ivals .u32 (List.replicate n6 0)) true), .cells b2 [iq 0, iq 0, iq W1q, iq H1q] 28 true, .gen (rdE (A) g o n 7 (dvals Deed18.cells xs)), .gen (subE n (fun i_ => rdE ((dget xs i_).A1) (dget xs i_).g1 (dget xs i_).o1 (dget xs i_).m1 4 (rvals (dget xs i_).x1)))] rfl rfl (by kernel_rfl) (by kernel_rfl) ?_
     refine cont_forget 6 rfl ?_
     refine cont_forget 6 rfl ?_
     refine cont_done ?_
     refine blk_normal ?_
     refine then_normal ?_
     refine cont_seq ?_
     obtain ⟨LQ67, hLQ67⟩ : ∃ y_ : List Rect, y_ = keepL hullD (regM orB xs0 (regM andB (canR (el.x1.take (Int.toNat mq))) [(⟨0, 0, W1q, H1q⟩ : Rect)])) 64 := ⟨_, rfl⟩
     refine cont_rowEqR 2 (keepL hullD (regM orB xs0 (regM andB (canR (el.x1.take (Int.toNat mq))) [(⟨0, 0, W1q, H1q⟩ : Rect)])) 64) (LQ67) rfl hLQ67.symm ?_
     obtain ⟨LQ68, hLQ68⟩ : ∃ y_ : List Rect, y_ = keepL hullD (regM orB xs1 (regM andB (canR (el.x1.take (Int.toNat mq))) [(⟨0, 0, W1q, H1q⟩ : Rect)])) 64 := ⟨_, rfl⟩
     refine cont_rowEqR 3 (keepL hullD (regM orB xs1 (regM andB (canR (el.x1.take (Int.toNat mq))) [(⟨0, 0, W1q, H1q⟩ : Rect)])) 64) (LQ68) rfl hLQ68.symm ?_
     refine cont_rowEqR 0 (keepL hullD (regM orB xs0 (regM andB (canR (el.x1.take (Int.toNat mq))) [(⟨0, 0, W1q, H1q⟩ : Rect)])) 64) (LQ67) rfl hLQ67.symm ?_
     refine cont_rowEqR 1 (keepL hullD (regM orB xs1 (regM andB (canR (el.x1.take (Int.toNat mq))) [(⟨0, 0, W1q, H1q⟩ : Rect)])) 64) (LQ68) rfl hLQ68.symm ?_
     refine cont_norm [(2, .slice A n cap), (7, .pointer (pB b2)), (8, .pointer (pB b3)), (10, .pointer (pB b33)), (11, iq (i : Int)), (38, iq (i : Int)), (39, .bool true)] _ (by kernel_rfl) rfl ?_
     clear hLQ67
     clear hLQ68
     refine cont_fact (F := (0 < k48q → (A46q : Option Addr) = pB gA47q) ∧ LQ67.length = k48q ∧ k48q ≤ cp49q ∧ cp49q ≤ maxLen) (fun w hT => Row.factsR (hT.ok 2 _ rfl)) (fun hr69_ => ?_)
     obtain ⟨hr69_a, hr69_l, hr69_c, hr69_m⟩ := hr69_
     unfold maxLen at hr69_m
     refine cont_fact (F := (0 < kB52q → (B50q : Option Addr) = pB gB51q) ∧ LQ68.length = kB52q ∧ kB52q ≤ cB53q ∧ cB53q ≤ maxLen) (fun w hT => Row.factsR (hT.ok 3 _ rfl)) (fun hr70_ => ?_)
     obtain ⟨hr70_a, hr70_l, hr70_c, hr70_m⟩ := hr70_
     unfold maxLen at hr70_m
     refine cont_fact (F := (0 < k58 → (A56 : Option Addr) = pB g57) ∧ LQ67.length = k58 ∧ k58 ≤ cp59 ∧ cp59 ≤ maxLen) (fun w hT => Row.factsR (hT.ok 0 _ rfl)) (fun hr71_ => ?_)
     obtain ⟨hr71_a, hr71_l, hr71_c, hr71_m⟩ := hr71_
     unfold maxLen at hr71_m
     refine cont_fact (F := (0 < kB62 → (B60 : Option Addr) = pB gB61) ∧ LQ68.length = kB62 ∧ kB62 ≤ cB63 ∧ cB63 ≤ maxLen) (fun w hT => Row.factsR (hT.ok 1 _ rfl)) (fun hr72_ => ?_)
     obtain ⟨hr72_a, hr72_l, hr72_c, hr72_m⟩ := hr72_
     unfold maxLen at hr72_m
     refine drawn_enter 26 [] rfl (by kernel_rfl) ?_
     refine takes 0 [] [(0, 0), (2, 0), (3, 5)] 23 [3, 2, 0] [(2, .slice A n cap), (7, .pointer (pB b2)), (8, .pointer (pB b3)), (10, .pointer (pB b33)), (11, iq (i : Int)), (38, iq (i : Int)), (39, .bool true), (83, .pointer (pB b3)), (86, .slice A56 k58 cp59)] (by kernel_rfl) (pok_then (pok_blk (pok_then (pok_then (pok_blk (pok_then pok_body)))))) (by kernel_rfl) rfl rfl (by kernel_rfl) (by kernel_rfl) ?_
     refine drawn_one 1 22 rfl (by kernel_rfl) ?_
     refine call_gen (d := 84) (α := Option Addr × Nat × Nat × Nat) (fun x_ => .slice x_.1 x_.2.2.1 x_.2.2.2) (fun x_ => [.gen (rowE (x_.1) x_.2.1 x_.2.2.1 x_.2.2.2 28 4 (rvals LQ67) true), .gen (rowE (A56) g57 k58 cp59 28 4 (rvals LQ67) true), .gen (rowE (B60) gB61 kB62 cB63 28 4 (rvals LQ68) true), .gen (rowE (A46q) gA47q k48q cp49q 28 4 (rvals LQ67) true), .gen (rowE (B50q) gB51q kB52q cB53q 28 4 (rvals LQ68) true), .gen (rdE (el.A1) el.g1 el.o1 el.m1 4 (rvals el.x1)), .cells b33 [iq 0, iq 0, iq W1q, iq H1q, .slice A56 k58 cp59, .slice B60 kB62 cB63, iq w0, iq w1, iq fr] 81 true, .cells b3 [.pointer (pB m4), .pointer (pB m17), .slice A46q k48q cp49q, .slice B50q kB52q cB53q, iq w0, iq w1, iq fr, iq 0] 98 true, .cells m4 [iq W1q, iq H1q, .slice (pB r5) n6 n6] 115 true, .gen (rowE (pB r5) r5 n6 n6 54 1 (ivals .u32 (List.replicate n6 0)) true), .cells b2 [iq 0, iq 0, iq W1q, iq H1q] 28 true, .gen (rdE (A) g o n 7 (dvals Deed18.cells xs)), .gen (subE n (fun i_ => rdE ((dget xs i_).A1) (dget xs i_).g1 (dget xs i_).o1 (dget xs i_).m1 4 (rvals (dget xs i_).x1)))]) (fun x_ => True) (by kernel_rfl) (fun w hT => (outStale0 b3 m4 m17 A46q B50q k48q cp49q kB52q cB53q w0 w1 fr gA47q LQ67 w (hT.viewRo (.cons (i := 6) rfl Vw.roc (.cons (i := 2) rfl Vw.rowRd .nil)) rfl) (by omega)).mono fun e w' ⟨A73, g74, k75, cp76, he_, ht_⟩ => ⟨(A73, g74, k75, cp76), he_, trivial, hT.news ht_ rfl⟩) ?_
     rintro ⟨A73, g74, k75, cp76⟩ hf77_
     refine cont_norm [(2, .slice A n cap), (7, .pointer (pB b2)), (8, .pointer (pB b3)), (10, .pointer (pB b33)), (11, iq (i : Int)), (38, iq (i : Int)), (39, .bool true), (83, .pointer (pB b3)), (84, .slice A73 k75 cp76), (86, .slice A56 k58 cp59)] _ (by kernel_rfl) rfl ?_
     refine cont_fact (F := (0 < k75 → (A73 : Option Addr) = pB g74) ∧ LQ67.length = k75 ∧ k75 ≤ cp76 ∧ cp76 ≤ maxLen) (fun w hT => Row.factsR (hT.ok 0 _ rfl)) (fun hr78_ => ?_)
     obtain ⟨hr78_a, hr78_l, hr78_c, hr78_m⟩ := hr78_
     unfold maxLen at hr78_m
     refine drawn_next 1 [] (by kernel_rfl) ?_
     refine drawn_one 4 21 rfl (by kernel_rfl) ?_
     refine call_pure (d := 87) (.bool (decide (LQ67 = LQ67))) (by kernel_rfl) (fun w hT => refSame A73 g74 0 k75 cp76 LQ67 A56 g57 0 k58 cp59 LQ67 w (hT.viewRo (.cons (i := 0) rfl Vw.rowRd (.cons (i := 1) rfl Vw.rowRd .nil)) rfl) (by omega)) ?_
     refine drawn_next 1 [] (by kernel_rfl) ?_
     refine takes 1 [] [(5, 0), (6, 0)] 19 [6, 5, 4, 1, 3, 2, 0] [(2, .slice A n cap), (7, .pointer (pB b2)), (8, .pointer (pB b3)), (10, .pointer (pB b33)), (11, iq (i : Int)), (38, iq (i : Int)), (39, .bool true), (89, .bool (!(decide (LQ67 = LQ67))))] (by kernel_rfl) (pok_then (pok_blk (pok_then (pok_then (pok_blk (pok_then pok_body)))))) (by kernel_rfl) rfl rfl (by kernel_rfl) (by kernel_rfl) ?_
     refine cont_recast 89 (.bool (!(decide (LQ67 = LQ67)))) (.bool false) rfl (congrArg Value.bool (by rw [show (decide (LQ67 = LQ67)) = true from (decide_eq_true rfl)]; rfl)) ?_
     refine takes 1 [] [(7, 0), (9, 0), (10, 5)] 16 [10, 9, 7, 6, 5, 4, 1, 3, 2, 0] [(2, .slice A n cap), (7, .pointer (pB b2)), (8, .pointer (pB b3)), (10, .pointer (pB b33)), (11, iq (i : Int)), (38, iq (i : Int)), (39, .bool true), (89, .bool false), (90, .pointer (pB b3)), (92, .pointer (some ⟨b33, 8, none⟩)), (93, iq fr)] (by kernel_rfl) (pok_then (pok_blk (pok_then (pok_then (pok_blk (pok_then pok_body)))))) (by kernel_rfl) rfl rfl (by kernel_rfl) (by kernel_rfl) ?_
     refine drawn_one 8 15 rfl (by kernel_rfl) ?_
     refine call_pure (d := 91) (iq fr) (by kernel_rfl) (fun w hT => outFrames b3 m4 m17 A46q B50q k48q cp49q kB52q cB53q w0 w1 fr 0 w (hT.viewRo (.cons (i := 7) rfl Vw.roc .nil) rfl)) ?_
     refine drawn_next 1 [] (by kernel_rfl) ?_
     refine takes 1 [] [(11, 0), (12, 0), (13, 0)] 12 [13, 12, 11, 8, 10, 9, 7, 6, 5, 4, 1, 3, 2, 0] [(2, .slice A n cap), (7, .pointer (pB b2)), (8, .pointer (pB b3)), (10, .pointer (pB b33)), (11, iq (i : Int)), (38, iq (i : Int)), (39, .bool true), (90, .pointer (pB b3)), (91, iq fr), (92, .pointer (some ⟨b33, 8, none⟩)), (93, iq fr), (94, .bool (fr != fr)), (96, .bool (fr != fr))] (by kernel_rfl) (pok_then (pok_blk (pok_then (pok_then (pok_blk (pok_then pok_body)))))) (by kernel_rfl) rfl rfl (by kernel_rfl) (by kernel_rfl) ?_
     refine cont_recast 96 (.bool (fr != fr)) (.bool false) rfl (congrArg Value.bool (bne_self_eq_false _)) ?_
     refine cont_recast 94 (.bool (fr != fr)) (.bool false) rfl (congrArg Value.bool (bne_self_eq_false _)) ?_
     refine takes 1 [] [(14, 0), (16, 5)] 10 [16, 14, 13, 12, 11, 8, 10, 9, 7, 6, 5, 4, 1, 3, 2, 0] [(2, .slice A n cap), (7, .pointer (pB b2)), (8, .pointer (pB b3)), (10, .pointer (pB b33)), (11, iq (i : Int)), (38, iq (i : Int)), (39, .bool true), (90, .pointer (pB b3)), (91, iq fr), (92, .pointer (some ⟨b33, 8, none⟩)), (93, iq fr), (94, .bool false), (96, .bool false), (97, .pointer (pB b3)), (99, .agg #[iq 0, iq 0, iq W1q, iq H1q, .slice A56 k58 cp59, .slice B60 kB62 cB63, iq w0, iq w1, iq fr])] (by kernel_rfl) (pok_then (pok_blk (pok_then (pok_then (pok_blk (pok_then pok_body)))))) (by kernel_rfl) rfl rfl (by kernel_rfl) (by kernel_rfl) ?_
     refine drawn_one 15 9 rfl (by kernel_rfl) ?_
     refine call_pure (d := 98) (iq (ageI w0 fr)) (by kernel_rfl) (fun w hT => outAge0 b3 m4 m17 A46q B50q k48q cp49q kB52q cB53q w0 w1 fr w (hT.viewRo (.cons (i := 7) rfl Vw.roc .nil) rfl) (by omega)) ?_
     refine drawn_next 1 [] (by kernel_rfl) ?_
     refine drawn_one 17 8 rfl (by kernel_rfl) ?_
     refine call_pure (d := 100) (iq (ageI w0 fr)) (by kernel_rfl) (fun w hT => refAge18 W1q H1q A56 k58 cp59 B60 kB62 cB63 w0 w1 fr w (by omega)) ?_
     refine drawn_next 1 [] (by kernel_rfl) ?_
     refine takes 1 [] [(18, 0), (19, 0), (20, 0)] 5 [20, 19, 18, 17, 15, 16, 14, 13, 12, 11, 8, 10, 9, 7, 6, 5, 4, 1, 3, 2, 0] [(2, .slice A n cap), (7, .pointer (pB b2)), (8, .pointer (pB b3)), (10, .pointer (pB b33)), (11, iq (i : Int)), (38, iq (i : Int)), (39, .bool true), (90, .pointer (pB b3)), (91, iq fr), (92, .pointer (some ⟨b33, 8, none⟩)), (93, iq fr), (94, .bool false), (97, .pointer (pB b3)), (98, iq (ageI w0 fr)), (99, .agg #[iq 0, iq 0, iq W1q, iq H1q, .slice A56 k58 cp59, .slice B60 kB62 cB63, iq w0, iq w1, iq fr]), (100, iq (ageI w0 fr)), (101, .bool ((ageI w0 fr) != (ageI w0 fr))), (103, .bool ((ageI w0 fr) != (ageI w0 fr)))] (by kernel_rfl) (pok_then (pok_blk (pok_then (pok_then (pok_blk (pok_then pok_body)))))) (by kernel_rfl) rfl rfl (by kernel_rfl) (by kernel_rfl) ?_
     refine cont_recast 103 (.bool ((ageI w0 fr) != (ageI w0 fr))) (.bool false) rfl (congrArg Value.bool (bne_self_eq_false _)) ?_
     refine cont_recast 101 (.bool ((ageI w0 fr) != (ageI w0 fr))) (.bool false) rfl (congrArg Value.bool (bne_self_eq_false _)) ?_
     refine takes 1 [] [(21, 0), (23, 9)] 3 [23, 21, 20, 19, 18, 17, 15, 16, 14, 13, 12, 11, 8, 10, 9, 7, 6, 5, 4, 1, 3, 2, 0] [(2, .slice A n cap), (7, .pointer (pB b2)), (8, .pointer (pB b3)), (10, .pointer (pB b33)), (11, iq (i : Int)), (38, iq (i : Int)), (39, .bool true), (90, .pointer (pB b3)), (91, iq fr), (92, .pointer (some ⟨b33, 8, none⟩)), (93, iq fr), (94, .bool false), (97, .pointer (pB b3)), (98, iq (ageI w0 fr)), (99, .agg #[iq 0, iq 0, iq W1q, iq H1q, .slice A56 k58 cp59, .slice B60 kB62 cB63, iq w0, iq w1, iq fr]), (100, iq (ageI w0 fr)), (101, .bool false), (103, .bool false), (104, .pointer (pB b3)), (106, .agg #[iq 0, iq 0, iq W1q, iq H1q])] (by kernel_rfl) (pok_then (pok_blk (pok_then (pok_then (pok_blk (pok_then pok_body)))))) (by kernel_rfl) rfl rfl (by kernel_rfl) (by kernel_rfl) ?_
     refine drawn_one 22 2 rfl (by kernel_rfl) ?_
     refine call_pure (d := 105) (.agg #[iq 0, iq 0, iq W1q, iq H1q]) (by kernel_rfl) (fun w hT => outBox b3 m4 m17 A46q B50q k48q cp49q kB52q cB53q w0 w1 fr 0 W1q H1q r5 n6 n6 (List.replicate n6 0) w (hT.viewRo (.cons (i := 7) rfl Vw.roc (.cons (i := 8) rfl Vw.roc (.cons (i := 9) rfl Vw.rowRd .nil))) rfl) (by omega) (imgOk_new (by omega) hf18_a)) ?_
     refine drawn_next 1 [] (by kernel_rfl) ?_
     refine sem_take 1 [] 24 1 107 (bopS .neq 28 (.tmp 105) (.tmp 106) (.agg #[iq 0, iq 0, iq W1q, iq H1q]) (.agg #[iq 0, iq 0, iq W1q, iq H1q])) (.bool (!(eqInts [0, 0, W1q, H1q] [0, 0, W1q, H1q]))) (by kernel_rfl) (pok_then (pok_blk (pok_then (pok_then (pok_blk (pok_then pok_body)))))) (by kernel_rfl) rfl (by kernel_rfl) (by kernel_rfl) (fun w hT => run_neS [0, 0, W1q, H1q] [0, 0, W1q, H1q] (by kernel_rfl) (by kernel_rfl) (by kernel_rfl) (by kernel_rfl) rfl rfl w) ?_
     refine takes 1 [] [(25, 0)] 0 [25, 24, 22, 23, 21, 20, 19, 18, 17, 15, 16, 14, 13, 12, 11, 8, 10, 9, 7, 6, 5, 4, 1, 3, 2, 0] [(2, .slice A n cap), (7, .pointer (pB b2)), (8, .pointer (pB b3)), (10, .pointer (pB b33)), (11, iq (i : Int)), (38, iq (i : Int)), (39, .bool true), (90, .pointer (pB b3)), (91, iq fr), (92, .pointer (some ⟨b33, 8, none⟩)), (93, iq fr), (94, .bool false), (97, .pointer (pB b3)), (98, iq (ageI w0 fr)), (99, .agg #[iq 0, iq 0, iq W1q, iq H1q, .slice A56 k58 cp59, .slice B60 kB62 cB63, iq w0, iq w1, iq fr]), (100, iq (ageI w0 fr)), (101, .bool false), (104, .pointer (pB b3)), (105, .agg #[iq 0, iq 0, iq W1q, iq H1q]), (106, .agg #[iq 0, iq 0, iq W1q, iq H1q]), (107, .bool (!(eqInts [0, 0, W1q, H1q] [0, 0, W1q, H1q]))), (108, .bool (!(eqInts [0, 0, W1q, H1q] [0, 0, W1q, H1q])))] (by kernel_rfl) (pok_then (pok_blk (pok_then (pok_then (pok_blk (pok_then pok_body)))))) (by kernel_rfl) rfl rfl (by kernel_rfl) (by kernel_rfl) ?_
     refine drawn_done (by kernel_rfl) ?_
     refine then_normal ?_
     refine cont_recast 108 (.bool (!(eqInts [0, 0, W1q, H1q] [0, 0, W1q, H1q]))) (.bool false) rfl (congrArg Value.bool (by rw [show eqInts [0, 0, W1q, H1q] [0, 0, W1q, H1q] = true from ((eqInts_rect (r := ⟨0, 0, W1q, H1q⟩) (s := ⟨0, 0, W1q, H1q⟩)).trans (decide_eq_true rfl))]; rfl)) ?_
     refine cont_recast 107 (.bool (!(eqInts [0, 0, W1q, H1q] [0, 0, W1q, H1q]))) (.bool false) rfl (congrArg Value.bool (by rw [show eqInts [0, 0, W1q, H1q] [0, 0, W1q, H1q] = true from ((eqInts_rect (r := ⟨0, 0, W1q, H1q⟩) (s := ⟨0, 0, W1q, H1q⟩)).trans (decide_eq_true rfl))]; rfl)) ?_
     refine cont_false rfl ?_
     refine cont_skip ?_
     refine blk_normal ?_
     refine then_normal ?_
     refine cont_region 3 rfl ?_
     refine bS [0, 0] 2 1 [(2, .slice A n cap), (7, .pointer (pB b2)), (8, .pointer (pB b3)), (10, .pointer (pB b33)), (38, iq (i : Int)), (39, .bool true), (42, iq (IntKind.i64.wrap ((i : Int) + 1))), (90, .pointer (pB b3)), (91, iq fr), (92, .pointer (some ⟨b33, 8, none⟩)), (93, iq fr), (94, .bool false), (97, .pointer (pB b3)), (98, iq (ageI w0 fr)), (99, .agg #[iq 0, iq 0, iq W1q, iq H1q, .slice A56 k58 cp59, .slice B60 kB62 cB63, iq w0, iq w1, iq fr]), (100, iq (ageI w0 fr)), (101, .bool false), (104, .pointer (pB b3)), (105, .agg #[iq 0, iq 0, iq W1q, iq H1q]), (106, .agg #[iq 0, iq 0, iq W1q, iq H1q]), (107, .bool false)] ?_
     refine cont_recast 42 (iq (IntKind.i64.wrap ((i : Int) + 1))) (iq ((i : Int) + 1)) rfl (wrapI (by omega) (by omega)) ?_
     refine cont_forget 0 rfl ?_
     refine bS [0] 3 0 [(2, .slice A n cap), (7, .pointer (pB b2)), (8, .pointer (pB b3)), (10, .pointer (pB b33)), (11, iq ((i : Int) + 1)), (38, iq (i : Int)), (39, .bool true), (90, .pointer (pB b3)), (91, iq fr), (92, .pointer (some ⟨b33, 8, none⟩)), (93, iq fr), (94, .bool false), (97, .pointer (pB b3)), (98, iq (ageI w0 fr)), (99, .agg #[iq 0, iq 0, iq W1q, iq H1q, .slice A56 k58 cp59, .slice B60 kB62 cB63, iq w0, iq w1, iq fr]), (100, iq (ageI w0 fr)), (101, .bool false), (104, .pointer (pB b3)), (105, .agg #[iq 0, iq 0, iq W1q, iq H1q]), (106, .agg #[iq 0, iq 0, iq W1q, iq H1q]), (107, .bool false)] ?_
     refine cont_done ?_
     refine then_normal ?_
     refine cont_pick [5, 0, 1, 6, 7, 8, 2, 3, 9, 10, 11] [.cells b33 [iq 0, iq 0, iq W1q, iq H1q, .slice A56 k58 cp59, .slice B60 kB62 cB63, iq w0, iq w1, iq fr] 81 true, .gen (rowE (A56) g57 k58 cp59 28 4 (rvals LQ67) true), .gen (rowE (B60) gB61 kB62 cB63 28 4 (rvals LQ68) true), .cells b3 [.pointer (pB m4), .pointer (pB m17), .slice A46q k48q cp49q, .slice B50q kB52q cB53q, iq w0, iq w1, iq fr, iq 0] 98 true, .cells m4 [iq W1q, iq H1q, .slice (pB r5) n6 n6] 115 true, .gen (rowE (pB r5) r5 n6 n6 54 1 (ivals .u32 (List.replicate n6 0)) true), .gen (rowE (A46q) gA47q k48q cp49q 28 4 (rvals LQ67) true), .gen (rowE (B50q) gB51q kB52q cB53q 28 4 (rvals LQ68) true), .cells b2 [iq 0, iq 0, iq W1q, iq H1q] 28 true, .gen (rdE (A) g o n 7 (dvals Deed18.cells xs)), .gen (subE n (fun i_ => rdE ((dget xs i_).A1) (dget xs i_).g1 (dget xs i_).o1 (dget xs i_).m1 4 (rvals (dget xs i_).x1)))] (by decide) rfl rfl ?_
     refine cont_norm [(2, .slice A n cap), (7, .pointer (pB b2)), (8, .pointer (pB b3)), (10, .pointer (pB b33)), (11, iq ((i : Int) + 1)), (38, iq (i : Int)), (39, .bool true), (90, .pointer (pB b3)), (91, iq fr), (92, .pointer (some ⟨b33, 8, none⟩)), (93, iq fr), (94, .bool false), (97, .pointer (pB b3)), (98, iq (ageI w0 fr)), (99, .agg #[iq 0, iq 0, iq W1q, iq H1q, .slice A56 k58 cp59, .slice B60 kB62 cB63, iq w0, iq w1, iq fr]), (100, iq (ageI w0 fr)), (101, .bool false), (104, .pointer (pB b3)), (105, .agg #[iq 0, iq 0, iq W1q, iq H1q]), (106, .agg #[iq 0, iq 0, iq W1q, iq H1q]), (107, .bool false)] _ (by kernel_rfl) rfl ?_
     refine cont_again ((i + 1 : Nat), 0, w0, w1, fr, LQ67, A46q, gA47q, k48q, cp49q, LQ68, B50q, gB51q, kB52q, cB53q, A56, g57, k58, cp59, B60, gB61, kB62, cB63) (show ((i + 1 : Nat)) ≤ 30 ∧ ((i + 1 : Nat)) ≤ n ∧ (0) ≤ 1 ∧ 0 ≤ (fr) ∧ (fr) ≤ (((i + 1 : Nat)) : Int) ∧ 0 ≤ (w0) ∧ (w0) ≤ (fr) ∧ 0 ≤ (w1) ∧ (w1) ≤ (fr) ∧ (k48q) ≤ 64 ∧ (kB52q) ≤ 64 ∧ (k58) ≤ 64 ∧ (kB62) ≤ 64 from ⟨by omega, by omega, by omega, by omega, by omega, by omega, by omega, by omega, by omega, by omega, by omega, by omega, by omega⟩) (show 40 - ((i + 1 : Nat)) < 40 - i from by omega) (by kernel_rfl) (by kernel_rfl)
    replace c45_ := ne_of_beqf c45_
    refine cont_false rfl ?_
    refine cont_seq ?_
    refine cont_region 2 rfl ?_
    refine bS [0, 0] 2 0 [(2, .slice A n cap), (7, .pointer (pB b2)), (8, .pointer (pB b3)), (10, .pointer (pB b33)), (11, iq (i : Int)), (13, .slice el.A1 (Int.toNat mq) el.k1), (38, iq (i : Int)), (39, .bool true), (55, iq el.x0), (64, .bool (el.x0 == 1))] ?_
    refine cont_done ?_
    refine then_normal ?_
    refine cont_split 64 (el.x0 == 1) rfl (fun c83_ => ?_) (fun c83_ => ?_)
    ·
     replace c83_ := eq_of_beqt c83_
     refine cont_true rfl ?_
     refine cont_seq ?_
     refine cont_region 4 rfl ?_
     refine bS [0, 0] 2 2 [(2, .slice A n cap), (7, .pointer (pB b2)), (8, .pointer (pB b3)), (10, .pointer (pB b33)), (11, iq (i : Int)), (13, .slice el.A1 (Int.toNat mq) el.k1), (38, iq (i : Int)), (39, .bool true), (66, .pointer (pB b3)), (67, .slice el.A1 (Int.toNat mq) el.k1)] ?_
     refine pl_step 3 1 rfl rfl ?_
     refine call_gen (d := 68) (α := Option Addr × Nat × Nat × Nat) (fun x_ => .slice x_.1 x_.2.2.1 x_.2.2.2) (fun x_ => [.gen (rowE (x_.1) x_.2.1 x_.2.2.1 x_.2.2.2 28 4 (rvals (smallL (el.x1.take (Int.toNat mq)) 4)) true), .gen (rdE (el.A1) el.g1 el.o1 el.m1 4 (rvals el.x1)), .cells b33 [iq 0, iq 0, iq W1q, iq H1q, .slice Au ku cu, .slice Av kv cv, iq w0, iq w1, iq fr] 81 true, .gen (rowE (Au) gu ku cu 28 4 (rvals xs0) true), .gen (rowE (Av) gv kv cv 28 4 (rvals xs1) true), .cells b3 [.pointer (pB m4), .pointer (pB m17), .slice Ax kx cx, .slice Ay ky cy, iq w0, iq w1, iq fr, iq 0] 98 true, .cells m4 [iq W1q, iq H1q, .slice (pB r5) n6 n6] 115 true, .gen (rowE (pB r5) r5 n6 n6 54 1 (ivals .u32 (List.replicate n6 0)) true), .gen (rowE (Ax) gx kx cx 28 4 (rvals xs0) true), .gen (rowE (Ay) gy ky cy 28 4 (rvals xs1) true), .cells b2 [iq 0, iq 0, iq W1q, iq H1q] 28 true, .gen (rdE (A) g o n 7 (dvals Deed18.cells xs)), .gen (subE n (fun i_ => rdE ((dget xs i_).A1) (dget xs i_).g1 (dget xs i_).o1 (dget xs i_).m1 4 (rvals (dget xs i_).x1)))]) (fun x_ => True) (by kernel_rfl) (fun w hT => (refSmallL el.A1 el.g1 el.o1 (Int.toNat mq) el.k1 (el.x1.take (Int.toNat mq)) 4 w (hT.viewRo (.cons (i := 0) rfl (Vw.rdHeadA (n := el.m1) (m := (Int.toNat mq)) (by omega)) .nil) rfl) (fun r hr => helg.b1 r (List.mem_of_mem_take hr)) (by omega)).mono fun e w' ⟨A84, g85, k86, cp87, he_, ht_⟩ => ⟨(A84, g85, k86, cp87), he_, trivial, hT.news ht_ rfl⟩) ?_
     rintro ⟨A84, g85, k86, cp87⟩ hf88_
     refine cont_norm [(2, .slice A n cap), (7, .pointer (pB b2)), (8, .pointer (pB b3)), (10, .pointer (pB b33)), (11, iq (i : Int)), (13, .slice el.A1 (Int.toNat mq) el.k1), (38, iq (i : Int)), (39, .bool true), (66, .pointer (pB b3)), (67, .slice el.A1 (Int.toNat mq) el.k1), (68, .slice A84 k86 cp87)] _ (by kernel_rfl) rfl ?_
     refine cont_fact (F := (0 < k86 → (A84 : Option Addr) = pB g85) ∧ (smallL (el.x1.take (Int.toNat mq)) 4).length = k86 ∧ k86 ≤ cp87 ∧ cp87 ≤ maxLen) (fun w hT => Row.factsR (hT.ok 0 _ rfl)) (fun hr89_ => ?_)
     obtain ⟨hr89_a, hr89_l, hr89_c, hr89_m⟩ := hr89_
     unfold maxLen at hr89_m
     have hsl90_ := smallL_length (el.x1.take (Int.toNat mq)) 4
     refine pl_step 4 0 rfl rfl ?_
     refine call_gen (d := 69) (α := Option Addr × Nat × Nat × Nat × Option Addr × Nat × Nat × Nat) (fun _ => .tuple #[]) (fun x_ => [.gen (rowE (x_.1) x_.2.1 x_.2.2.1 x_.2.2.2.1 28 4 (rvals (keepL hullP (regM orB xs0 (regM andB (canR (smallL (el.x1.take (Int.toNat mq)) 4)) (canR [(⟨0, 0, W1q, H1q⟩ : Rect)]))) 64)) true), .gen (rowE (x_.2.2.2.2.1) x_.2.2.2.2.2.1 x_.2.2.2.2.2.2.1 x_.2.2.2.2.2.2.2 28 4 (rvals (keepL hullP (regM orB xs1 (regM andB (canR (smallL (el.x1.take (Int.toNat mq)) 4)) (canR [(⟨0, 0, W1q, H1q⟩ : Rect)]))) 64)) true), .gen (rowE (A84) g85 k86 cp87 28 4 (rvals (smallL (el.x1.take (Int.toNat mq)) 4)) true), .gen (rdE (el.A1) el.g1 el.o1 el.m1 4 (rvals el.x1)), .cells b33 [iq 0, iq 0, iq W1q, iq H1q, .slice Au ku cu, .slice Av kv cv, iq w0, iq w1, iq fr] 81 true, .gen (rowE (Au) gu ku cu 28 4 (rvals xs0) true), .gen (rowE (Av) gv kv cv 28 4 (rvals xs1) true), .cells b3 [.pointer (pB m4), .pointer (pB m17), .slice x_.1 x_.2.2.1 x_.2.2.2.1, .slice x_.2.2.2.2.1 x_.2.2.2.2.2.2.1 x_.2.2.2.2.2.2.2, iq w0, iq w1, iq fr, iq 0] 98 true, .cells m4 [iq W1q, iq H1q, .slice (pB r5) n6 n6] 115 true, .gen (rowE (pB r5) r5 n6 n6 54 1 (ivals .u32 (List.replicate n6 0)) true), .gen (rowE (Ax) gx kx cx 28 4 (rvals xs0) true), .gen (rowE (Ay) gy ky cy 28 4 (rvals xs1) true), .cells b2 [iq 0, iq 0, iq W1q, iq H1q] 28 true, .gen (rdE (A) g o n 7 (dvals Deed18.cells xs)), .gen (subE n (fun i_ => rdE ((dget xs i_).A1) (dget xs i_).g1 (dget xs i_).o1 (dget xs i_).m1 4 (rvals (dget xs i_).x1)))]) (fun _ => True) (by kernel_rfl) (fun w hT => (outDamage b3 m4 m17 Ax Ay kx cx ky cy w0 w1 fr 0 W1q H1q r5 n6 n6 (List.replicate n6 0) gx xs0 gy xs1 A84 g85 0 k86 cp87 (smallL (el.x1.take (Int.toNat mq)) 4) w (hT.view (.cons (i := 5) rfl Vw.rw (.cons (i := 6) rfl Vw.roc (.cons (i := 7) rfl Vw.rowRd (.cons (i := 8) rfl Vw.rowRd (.cons (i := 9) rfl Vw.rowRd (.cons (i := 0) rfl Vw.rowRd .nil)))))) (by decide)) (by omega) (imgOk_new (by omega) hf18_a) (by omega) (by omega) (by omega)).mono fun e w' ⟨A91q, gA92q, k93q, cp94q, B95q, gB96q, kB97q, cB98q, he_, ht_⟩ => ⟨(A91q, gA92q, k93q, cp94q, B95q, gB96q, kB97q, cB98q), he_, trivial, hT.merge (N := [.gen (rowE (A91q) gA92q k93q cp94q 28 4 (rvals (keepL hullP (regM orB xs0 (regM andB (canR (smallL (el.x1.take (Int.toNat mq)) 4)) (canR [(⟨0, 0, W1q, H1q⟩ : Rect)]))) 64)) true), .gen (rowE (B95q) gB96q kB97q cB98q 28 4 (rvals (keepL hullP (regM orB xs1 (regM andB (canR (smallL (el.x1.take (Int.toNat mq)) 4)) (canR [(⟨0, 0, W1q, H1q⟩ : Rect)]))) 64)) true)]) (s := [5, 6, 7, 8, 9, 0]) ht_ (.cons (i := 5) rfl Mg.cells (.skip rfl (.skip rfl (.skip rfl (.skip rfl (.skip rfl .nil)))))) (by decide) (allOwn_get rfl)⟩) ?_
     rintro ⟨A91q, gA92q, k93q, cp94q, B95q, gB96q, kB97q, cB98q⟩ -
     refine cont_norm [(2, .slice A n cap), (7, .pointer (pB b2)), (8, .pointer (pB b3)), (10, .pointer (pB b33)), (11, iq (i : Int)), (13, .slice el.A1 (Int.toNat mq) el.k1), (38, iq (i : Int)), (39, .bool true), (66, .pointer (pB b3)), (67, .slice el.A1 (Int.toNat mq) el.k1), (68, .slice A84 k86 cp87), (69, .tuple #[])] _ (by kernel_rfl) rfl ?_
     refine cont_fact (F := (0 < k93q → (A91q : Option Addr) = pB gA92q) ∧ (keepL hullP (regM orB xs0 (regM andB (canR (smallL (el.x1.take (Int.toNat mq)) 4)) (canR [(⟨0, 0, W1q, H1q⟩ : Rect)]))) 64).length = k93q ∧ k93q ≤ cp94q ∧ cp94q ≤ maxLen) (fun w hT => Row.factsR (hT.ok 0 _ rfl)) (fun hr99_ => ?_)
     obtain ⟨hr99_a, hr99_l, hr99_c, hr99_m⟩ := hr99_
     unfold maxLen at hr99_m
     have hr99_k : k93q ≤ 64 := by rw [← hr99_l]; exact keep_len64 _ _
     clear hr99_l
     refine cont_rowEqR 0 (keepL hullP (regM orB xs0 (regM andB (canR (smallL (el.x1.take (Int.toNat mq)) 4)) (canR [(⟨0, 0, W1q, H1q⟩ : Rect)]))) 64) (keepL hullD (regM orB xs0 (regM andB (canR (smallL (el.x1.take (Int.toNat mq)) 4)) [(⟨0, 0, W1q, H1q⟩ : Rect)])) 64) rfl (out_new _ _ hbx) ?_
     refine cont_norm [(2, .slice A n cap), (7, .pointer (pB b2)), (8, .pointer (pB b3)), (10, .pointer (pB b33)), (11, iq (i : Int)), (13, .slice el.A1 (Int.toNat mq) el.k1), (38, iq (i : Int)), (39, .bool true), (66, .pointer (pB b3)), (67, .slice el.A1 (Int.toNat mq) el.k1), (68, .slice A84 k86 cp87), (69, .tuple #[])] _ (by kernel_rfl) rfl ?_
     refine cont_fact (F := (0 < kB97q → (B95q : Option Addr) = pB gB96q) ∧ (keepL hullP (regM orB xs1 (regM andB (canR (smallL (el.x1.take (Int.toNat mq)) 4)) (canR [(⟨0, 0, W1q, H1q⟩ : Rect)]))) 64).length = kB97q ∧ kB97q ≤ cB98q ∧ cB98q ≤ maxLen) (fun w hT => Row.factsR (hT.ok 1 _ rfl)) (fun hr100_ => ?_)
     obtain ⟨hr100_a, hr100_l, hr100_c, hr100_m⟩ := hr100_
     unfold maxLen at hr100_m
     have hr100_k : kB97q ≤ 64 := by rw [← hr100_l]; exact keep_len64 _ _
     clear hr100_l
     refine cont_rowEqR 1 (keepL hullP (regM orB xs1 (regM andB (canR (smallL (el.x1.take (Int.toNat mq)) 4)) (canR [(⟨0, 0, W1q, H1q⟩ : Rect)]))) 64) (keepL hullD (regM orB xs1 (regM andB (canR (smallL (el.x1.take (Int.toNat mq)) 4)) [(⟨0, 0, W1q, H1q⟩ : Rect)])) 64) rfl (out_new _ _ hbx) ?_
     refine cont_norm [(2, .slice A n cap), (7, .pointer (pB b2)), (8, .pointer (pB b3)), (10, .pointer (pB b33)), (11, iq (i : Int)), (13, .slice el.A1 (Int.toNat mq) el.k1), (38, iq (i : Int)), (39, .bool true), (66, .pointer (pB b3)), (67, .slice el.A1 (Int.toNat mq) el.k1), (68, .slice A84 k86 cp87), (69, .tuple #[])] _ (by kernel_rfl) rfl ?_
     refine cont_done ?_
     refine then_normal ?_
     refine drawn_enter 5 [4] rfl (by kernel_rfl) ?_
     refine takes 0 [4] [(1, 0)] 4 [1] [(2, .slice A n cap), (7, .pointer (pB b2)), (8, .pointer (pB b3)), (10, .pointer (pB b33)), (11, iq (i : Int)), (38, iq (i : Int)), (39, .bool true), (71, .slice el.A1 (Int.toNat mq) el.k1)] (by kernel_rfl) (pok_blk (pok_then (pok_blk (pok_then (pok_then (pok_blk (pok_then pok_body))))))) (by kernel_rfl) rfl rfl (by kernel_rfl) (by kernel_rfl) ?_
     refine drawn_two 0 2 3 rfl (by kernel_rfl) ?_ ?_
     ·
      refine one_step 4 [(2, .slice A n cap), (7, .pointer (pB b2)), (8, .pointer (pB b3)), (10, .pointer (pB b33)), (11, iq (i : Int)), (38, iq (i : Int)), (39, .bool true), (70, .agg #[iq 0, iq 0, iq W1q, iq H1q, .slice Au ku cu, .slice Av kv cv, iq w0, iq w1, iq fr]), (71, .slice el.A1 (Int.toNat mq) el.k1)] [.gen (rowE (A91q) gA92q k93q cp94q 28 4 (rvals (keepL hullD (regM orB xs0 (regM andB (canR (smallL (el.x1.take (Int.toNat mq)) 4)) [(⟨0, 0, W1q, H1q⟩ : Rect)])) 64)) true), .gen (rowE (B95q) gB96q kB97q cB98q 28 4 (rvals (keepL hullD (regM orB xs1 (regM andB (canR (smallL (el.x1.take (Int.toNat mq)) 4)) [(⟨0, 0, W1q, H1q⟩ : Rect)])) 64)) true), .gen (rowE (A84) g85 k86 cp87 28 4 (rvals (smallL (el.x1.take (Int.toNat mq)) 4)) true), .gen (rdE (el.A1) el.g1 el.o1 el.m1 4 (rvals el.x1)), .cells b33 [iq 0, iq 0, iq W1q, iq H1q, .slice Au ku cu, .slice Av kv cv, iq w0, iq w1, iq fr] 81 true, .gen (rowE (Au) gu ku cu 28 4 (rvals xs0) true), .gen (rowE (Av) gv kv cv 28 4 (rvals xs1) true), .cells b3 [.pointer (pB m4), .pointer (pB m17), .slice A91q k93q cp94q, .slice B95q kB97q cB98q, iq w0, iq w1, iq fr, iq 0] 98 true, .cells m4 [iq W1q, iq H1q, .slice (pB r5) n6 n6] 115 true, .gen (rowE (pB r5) r5 n6 n6 54 1 (ivals .u32 (List.replicate n6 0)) true), .gen (rowE (Ax) gx kx cx 28 4 (rvals xs0) true), .gen (rowE (Ay) gy ky cy 28 4 (rvals xs1) true), .cells b2 [iq 0, iq 0, iq W1q, iq H1q] 28 true, .gen (rdE (A) g o n 7 (dvals Deed18.cells xs)), .gen (subE n (fun i_ => rdE ((dget xs i_).A1) (dget xs i_).g1 (dget xs i_).o1 (dget xs i_).m1 4 (rvals (dget xs i_).x1)))] (by kernel_rfl) (by kernel_rfl) ?_
      refine drawn_next 0 [4] (by kernel_rfl) ?_
      refine drawn_one 2 2 rfl (by kernel_rfl) ?_
      refine call_gen (d := 72) (α := Option Addr × Nat × Nat × Nat) (fun x_ => .slice x_.1 x_.2.2.1 x_.2.2.2) (fun x_ => [.gen (rowE (x_.1) x_.2.1 x_.2.2.1 x_.2.2.2 28 4 (rvals (smallL (el.x1.take (Int.toNat mq)) 4)) true), .gen (rowE (A91q) gA92q k93q cp94q 28 4 (rvals (keepL hullD (regM orB xs0 (regM andB (canR (smallL (el.x1.take (Int.toNat mq)) 4)) [(⟨0, 0, W1q, H1q⟩ : Rect)])) 64)) true), .gen (rowE (B95q) gB96q kB97q cB98q 28 4 (rvals (keepL hullD (regM orB xs1 (regM andB (canR (smallL (el.x1.take (Int.toNat mq)) 4)) [(⟨0, 0, W1q, H1q⟩ : Rect)])) 64)) true), .gen (rowE (A84) g85 k86 cp87 28 4 (rvals (smallL (el.x1.take (Int.toNat mq)) 4)) true), .gen (rdE (el.A1) el.g1 el.o1 el.m1 4 (rvals el.x1)), .cells b33 [iq 0, iq 0, iq W1q, iq H1q, .slice Au ku cu, .slice Av kv cv, iq w0, iq w1, iq fr] 81 true, .gen (rowE (Au) gu ku cu 28 4 (rvals xs0) true), .gen (rowE (Av) gv kv cv 28 4 (rvals xs1) true), .cells b3 [.pointer (pB m4), .pointer (pB m17), .slice A91q k93q cp94q, .slice B95q kB97q cB98q, iq w0, iq w1, iq fr, iq 0] 98 true, .cells m4 [iq W1q, iq H1q, .slice (pB r5) n6 n6] 115 true, .gen (rowE (pB r5) r5 n6 n6 54 1 (ivals .u32 (List.replicate n6 0)) true), .gen (rowE (Ax) gx kx cx 28 4 (rvals xs0) true), .gen (rowE (Ay) gy ky cy 28 4 (rvals xs1) true), .cells b2 [iq 0, iq 0, iq W1q, iq H1q] 28 true, .gen (rdE (A) g o n 7 (dvals Deed18.cells xs)), .gen (subE n (fun i_ => rdE ((dget xs i_).A1) (dget xs i_).g1 (dget xs i_).o1 (dget xs i_).m1 4 (rvals (dget xs i_).x1)))]) (fun x_ => True) (by kernel_rfl) (fun w hT => (refSmallL el.A1 el.g1 el.o1 (Int.toNat mq) el.k1 (el.x1.take (Int.toNat mq)) 4 w (hT.viewRo (.cons (i := 3) rfl (Vw.rdHeadA (n := el.m1) (m := (Int.toNat mq)) (by omega)) .nil) rfl) (fun r hr => helg.b1 r (List.mem_of_mem_take hr)) (by omega)).mono fun e w' ⟨A101, g102, k103, cp104, he_, ht_⟩ => ⟨(A101, g102, k103, cp104), he_, trivial, hT.news ht_ rfl⟩) ?_
      rintro ⟨A101, g102, k103, cp104⟩ hf105_
      refine cont_norm [(2, .slice A n cap), (7, .pointer (pB b2)), (8, .pointer (pB b3)), (10, .pointer (pB b33)), (11, iq (i : Int)), (38, iq (i : Int)), (39, .bool true), (70, .agg #[iq 0, iq 0, iq W1q, iq H1q, .slice Au ku cu, .slice Av kv cv, iq w0, iq w1, iq fr]), (71, .slice el.A1 (Int.toNat mq) el.k1), (72, .slice A101 k103 cp104)] _ (by kernel_rfl) rfl ?_
      refine cont_fact (F := (0 < k103 → (A101 : Option Addr) = pB g102) ∧ (smallL (el.x1.take (Int.toNat mq)) 4).length = k103 ∧ k103 ≤ cp104 ∧ cp104 ≤ maxLen) (fun w hT => Row.factsR (hT.ok 0 _ rfl)) (fun hr106_ => ?_)
      obtain ⟨hr106_a, hr106_l, hr106_c, hr106_m⟩ := hr106_
      unfold maxLen at hr106_m
      have hsl107_ := smallL_length (el.x1.take (Int.toNat mq)) 4
      refine drawn_next 1 [4] (by kernel_rfl) ?_
      refine drawn_one 3 1 rfl (by kernel_rfl) ?_
      refine call_gen (d := 73) (α := Option Addr × Nat × Nat × Nat × Option Addr × Nat × Nat × Nat) (fun x_ => .agg #[iq 0, iq 0, iq W1q, iq H1q, .slice x_.1 x_.2.2.1 x_.2.2.2.1, .slice x_.2.2.2.2.1 x_.2.2.2.2.2.2.1 x_.2.2.2.2.2.2.2, iq w0, iq w1, iq fr]) (fun x_ => [.gen (rowE (x_.1) x_.2.1 x_.2.2.1 x_.2.2.2.1 28 4 (rvals (keepL hullD (regM orB xs0 (regM andB (canR (smallL (el.x1.take (Int.toNat mq)) 4)) [(⟨0, 0, W1q, H1q⟩ : Rect)])) 64)) true), .gen (rowE (x_.2.2.2.2.1) x_.2.2.2.2.2.1 x_.2.2.2.2.2.2.1 x_.2.2.2.2.2.2.2 28 4 (rvals (keepL hullD (regM orB xs1 (regM andB (canR (smallL (el.x1.take (Int.toNat mq)) 4)) [(⟨0, 0, W1q, H1q⟩ : Rect)])) 64)) true), .gen (rowE (A101) g102 k103 cp104 28 4 (rvals (smallL (el.x1.take (Int.toNat mq)) 4)) true), .gen (rowE (A91q) gA92q k93q cp94q 28 4 (rvals (keepL hullD (regM orB xs0 (regM andB (canR (smallL (el.x1.take (Int.toNat mq)) 4)) [(⟨0, 0, W1q, H1q⟩ : Rect)])) 64)) true), .gen (rowE (B95q) gB96q kB97q cB98q 28 4 (rvals (keepL hullD (regM orB xs1 (regM andB (canR (smallL (el.x1.take (Int.toNat mq)) 4)) [(⟨0, 0, W1q, H1q⟩ : Rect)])) 64)) true), .gen (rowE (A84) g85 k86 cp87 28 4 (rvals (smallL (el.x1.take (Int.toNat mq)) 4)) true), .gen (rdE (el.A1) el.g1 el.o1 el.m1 4 (rvals el.x1)), .cells b33 [iq 0, iq 0, iq W1q, iq H1q, .slice Au ku cu, .slice Av kv cv, iq w0, iq w1, iq fr] 81 true, .gen (rowE (Au) gu ku cu 28 4 (rvals xs0) true), .gen (rowE (Av) gv kv cv 28 4 (rvals xs1) true), .cells b3 [.pointer (pB m4), .pointer (pB m17), .slice A91q k93q cp94q, .slice B95q kB97q cB98q, iq w0, iq w1, iq fr, iq 0] 98 true, .cells m4 [iq W1q, iq H1q, .slice (pB r5) n6 n6] 115 true, .gen (rowE (pB r5) r5 n6 n6 54 1 (ivals .u32 (List.replicate n6 0)) true), .gen (rowE (Ax) gx kx cx 28 4 (rvals xs0) true), .gen (rowE (Ay) gy ky cy 28 4 (rvals xs1) true), .cells b2 [iq 0, iq 0, iq W1q, iq H1q] 28 true, .gen (rdE (A) g o n 7 (dvals Deed18.cells xs)), .gen (subE n (fun i_ => rdE ((dget xs i_).A1) (dget xs i_).g1 (dget xs i_).o1 (dget xs i_).m1 4 (rvals (dget xs i_).x1)))]) (fun x_ => True) (by kernel_rfl) (fun w hT => (refDamage18 W1q H1q Au ku cu Av kv cv w0 w1 fr gu xs0 gv xs1 A101 g102 0 k103 cp104 (smallL (el.x1.take (Int.toNat mq)) 4) w (hT.viewRo (.cons (i := 6) rfl Vw.rowRd (.cons (i := 7) rfl Vw.rowRd (.cons (i := 0) rfl Vw.rowRd .nil))) rfl) (by omega) (by omega) (by omega) (by omega)).mono fun e w' ⟨A108, g109, k110, cp111, B112, gB113, kB114, cB115, he_, ht_⟩ => ⟨(A108, g109, k110, cp111, B112, gB113, kB114, cB115), he_, trivial, hT.news ht_ rfl⟩) ?_
      rintro ⟨A108, g109, k110, cp111, B112, gB113, kB114, cB115⟩ hf116_
      refine cont_norm [(2, .slice A n cap), (7, .pointer (pB b2)), (8, .pointer (pB b3)), (10, .pointer (pB b33)), (11, iq (i : Int)), (38, iq (i : Int)), (39, .bool true), (70, .agg #[iq 0, iq 0, iq W1q, iq H1q, .slice Au ku cu, .slice Av kv cv, iq w0, iq w1, iq fr]), (71, .slice el.A1 (Int.toNat mq) el.k1), (72, .slice A101 k103 cp104), (73, .agg #[iq 0, iq 0, iq W1q, iq H1q, .slice A108 k110 cp111, .slice B112 kB114 cB115, iq w0, iq w1, iq fr])] _ (by kernel_rfl) rfl ?_
      refine cont_fact (F := (0 < k110 → (A108 : Option Addr) = pB g109) ∧ (keepL hullD (regM orB xs0 (regM andB (canR (smallL (el.x1.take (Int.toNat mq)) 4)) [(⟨0, 0, W1q, H1q⟩ : Rect)])) 64).length = k110 ∧ k110 ≤ cp111 ∧ cp111 ≤ maxLen) (fun w hT => Row.factsR (hT.ok 0 _ rfl)) (fun hr117_ => ?_)
      obtain ⟨hr117_a, hr117_l, hr117_c, hr117_m⟩ := hr117_
      unfold maxLen at hr117_m
      have hr117_k : k110 ≤ 64 := by rw [← hr117_l]; exact keep_len64 _ _
      clear hr117_l
      refine cont_fact (F := (0 < kB114 → (B112 : Option Addr) = pB gB113) ∧ (keepL hullD (regM orB xs1 (regM andB (canR (smallL (el.x1.take (Int.toNat mq)) 4)) [(⟨0, 0, W1q, H1q⟩ : Rect)])) 64).length = kB114 ∧ kB114 ≤ cB115 ∧ cB115 ≤ maxLen) (fun w hT => Row.factsR (hT.ok 1 _ rfl)) (fun hr118_ => ?_)
      obtain ⟨hr118_a, hr118_l, hr118_c, hr118_m⟩ := hr118_
      unfold maxLen at hr118_m
      have hr118_k : kB114 ≤ 64 := by rw [← hr118_l]; exact keep_len64 _ _
      clear hr118_l
      refine drawn_next 3 [4] (by kernel_rfl) ?_
      refine drawn_one 4 0 rfl (by kernel_rfl) ?_
      refine one_step 7 [(2, .slice A n cap), (7, .pointer (pB b2)), (8, .pointer (pB b3)), (10, .pointer (pB b33)), (11, iq (i : Int)), (38, iq (i : Int)), (39, .bool true)] [.gen (rowE (A108) g109 k110 cp111 28 4 (rvals (keepL hullD (regM orB xs0 (regM andB (canR (smallL (el.x1.take (Int.toNat mq)) 4)) [(⟨0, 0, W1q, H1q⟩ : Rect)])) 64)) true), .gen (rowE (B112) gB113 kB114 cB115 28 4 (rvals (keepL hullD (regM orB xs1 (regM andB (canR (smallL (el.x1.take (Int.toNat mq)) 4)) [(⟨0, 0, W1q, H1q⟩ : Rect)])) 64)) true), .gen (rowE (A101) g102 k103 cp104 28 4 (rvals (smallL (el.x1.take (Int.toNat mq)) 4)) true), .gen (rowE (A91q) gA92q k93q cp94q 28 4 (rvals (keepL hullD (regM orB xs0 (regM andB (canR (smallL (el.x1.take (Int.toNat mq)) 4)) [(⟨0, 0, W1q, H1q⟩ : Rect)])) 64)) true), .gen (rowE (B95q) gB96q kB97q cB98q 28 4 (rvals (keepL hullD (regM orB xs1 (regM andB (canR (smallL (el.x1.take (Int.toNat mq)) 4)) [(⟨0, 0, W1q, H1q⟩ : Rect)])) 64)) true), .gen (rowE (A84) g85 k86 cp87 28 4 (rvals (smallL (el.x1.take (Int.toNat mq)) 4)) true), .gen (rdE (el.A1) el.g1 el.o1 el.m1 4 (rvals el.x1)), .cells b33 [iq 0, iq 0, iq W1q, iq H1q, .slice A108 k110 cp111, .slice B112 kB114 cB115, iq w0, iq w1, iq fr] 81 true, .gen (rowE (Au) gu ku cu 28 4 (rvals xs0) true), .gen (rowE (Av) gv kv cv 28 4 (rvals xs1) true), .cells b3 [.pointer (pB m4), .pointer (pB m17), .slice A91q k93q cp94q, .slice B95q kB97q cB98q, iq w0, iq w1, iq fr, iq 0] 98 true, .cells m4 [iq W1q, iq H1q, .slice (pB r5) n6 n6] 115 true, .gen (rowE (pB r5) r5 n6 n6 54 1 (ivals .u32 (List.replicate n6 0)) true), .gen (rowE (Ax) gx kx cx 28 4 (rvals xs0) true), .gen (rowE (Ay) gy ky cy 28 4 (rvals xs1) true), .cells b2 [iq 0, iq 0, iq W1q, iq H1q] 28 true, .gen (rdE (A) g o n 7 (dvals Deed18.cells xs)), .gen (subE n (fun i_ => rdE ((dget xs i_).A1) (dget xs i_).g1 (dget xs i_).o1 (dget xs i_).m1 4 (rvals (dget xs i_).x1)))] (by kernel_rfl) (by kernel_rfl) ?_
      refine drawn_next 3 [4] (by kernel_rfl) ?_
      refine drawn_done (by kernel_rfl) ?_
      refine blk_normal ?_
      refine then_normal ?_
      refine cont_seq ?_
      obtain ⟨LQ119, hLQ119⟩ : ∃ y_ : List Rect, y_ = keepL hullD (regM orB xs0 (regM andB (canR (smallL (el.x1.take (Int.toNat mq)) 4)) [(⟨0, 0, W1q, H1q⟩ : Rect)])) 64 := ⟨_, rfl⟩
      refine cont_rowEqR 3 (keepL hullD (regM orB xs0 (regM andB (canR (smallL (el.x1.take (Int.toNat mq)) 4)) [(⟨0, 0, W1q, H1q⟩ : Rect)])) 64) (LQ119) rfl hLQ119.symm ?_
      obtain ⟨LQ120, hLQ120⟩ : ∃ y_ : List Rect, y_ = keepL hullD (regM orB xs1 (regM andB (canR (smallL (el.x1.take (Int.toNat mq)) 4)) [(⟨0, 0, W1q, H1q⟩ : Rect)])) 64 := ⟨_, rfl⟩
      refine cont_rowEqR 4 (keepL hullD (regM orB xs1 (regM andB (canR (smallL (el.x1.take (Int.toNat mq)) 4)) [(⟨0, 0, W1q, H1q⟩ : Rect)])) 64) (LQ120) rfl hLQ120.symm ?_
      refine cont_rowEqR 0 (keepL hullD (regM orB xs0 (regM andB (canR (smallL (el.x1.take (Int.toNat mq)) 4)) [(⟨0, 0, W1q, H1q⟩ : Rect)])) 64) (LQ119) rfl hLQ119.symm ?_
      refine cont_rowEqR 1 (keepL hullD (regM orB xs1 (regM andB (canR (smallL (el.x1.take (Int.toNat mq)) 4)) [(⟨0, 0, W1q, H1q⟩ : Rect)])) 64) (LQ120) rfl hLQ120.symm ?_
      refine cont_norm [(2, .slice A n cap), (7, .pointer (pB b2)), (8, .pointer (pB b3)), (10, .pointer (pB b33)), (11, iq (i : Int)), (38, iq (i : Int)), (39, .bool true)] _ (by kernel_rfl) rfl ?_
      clear hLQ119
      clear hLQ120
      refine cont_fact (F := (0 < k93q → (A91q : Option Addr) = pB gA92q) ∧ LQ119.length = k93q ∧ k93q ≤ cp94q ∧ cp94q ≤ maxLen) (fun w hT => Row.factsR (hT.ok 3 _ rfl)) (fun hr121_ => ?_)
      obtain ⟨hr121_a, hr121_l, hr121_c, hr121_m⟩ := hr121_
      unfold maxLen at hr121_m
      refine cont_fact (F := (0 < kB97q → (B95q : Option Addr) = pB gB96q) ∧ LQ120.length = kB97q ∧ kB97q ≤ cB98q ∧ cB98q ≤ maxLen) (fun w hT => Row.factsR (hT.ok 4 _ rfl)) (fun hr122_ => ?_)
      obtain ⟨hr122_a, hr122_l, hr122_c, hr122_m⟩ := hr122_
      unfold maxLen at hr122_m
      refine cont_fact (F := (0 < k110 → (A108 : Option Addr) = pB g109) ∧ LQ119.length = k110 ∧ k110 ≤ cp111 ∧ cp111 ≤ maxLen) (fun w hT => Row.factsR (hT.ok 0 _ rfl)) (fun hr123_ => ?_)
      obtain ⟨hr123_a, hr123_l, hr123_c, hr123_m⟩ := hr123_
      unfold maxLen at hr123_m
      refine cont_fact (F := (0 < kB114 → (B112 : Option Addr) = pB gB113) ∧ LQ120.length = kB114 ∧ kB114 ≤ cB115 ∧ cB115 ≤ maxLen) (fun w hT => Row.factsR (hT.ok 1 _ rfl)) (fun hr124_ => ?_)
      obtain ⟨hr124_a, hr124_l, hr124_c, hr124_m⟩ := hr124_
      unfold maxLen at hr124_m
      refine drawn_enter 26 [] rfl (by kernel_rfl) ?_
      refine takes 0 [] [(0, 0), (2, 0), (3, 7)] 23 [3, 2, 0] [(2, .slice A n cap), (7, .pointer (pB b2)), (8, .pointer (pB b3)), (10, .pointer (pB b33)), (11, iq (i : Int)), (38, iq (i : Int)), (39, .bool true), (83, .pointer (pB b3)), (86, .slice A108 k110 cp111)] (by kernel_rfl) (pok_then (pok_blk (pok_then (pok_then (pok_blk (pok_then pok_body)))))) (by kernel_rfl) rfl rfl (by kernel_rfl) (by kernel_rfl) ?_
      refine drawn_one 1 22 rfl (by kernel_rfl) ?_
      refine call_gen (d := 84) (α := Option Addr × Nat × Nat × Nat) (fun x_ => .slice x_.1 x_.2.2.1 x_.2.2.2) (fun x_ => [.gen (rowE (x_.1) x_.2.1 x_.2.2.1 x_.2.2.2 28 4 (rvals LQ119) true), .gen (rowE (A108) g109 k110 cp111 28 4 (rvals LQ119) true), .gen (rowE (B112) gB113 kB114 cB115 28 4 (rvals LQ120) true), .gen (rowE (A101) g102 k103 cp104 28 4 (rvals (smallL (el.x1.take (Int.toNat mq)) 4)) true), .gen (rowE (A91q) gA92q k93q cp94q 28 4 (rvals LQ119) true), .gen (rowE (B95q) gB96q kB97q cB98q 28 4 (rvals LQ120) true), .gen (rowE (A84) g85 k86 cp87 28 4 (rvals (smallL (el.x1.take (Int.toNat mq)) 4)) true), .gen (rdE (el.A1) el.g1 el.o1 el.m1 4 (rvals el.x1)), .cells b33 [iq 0, iq 0, iq W1q, iq H1q, .slice A108 k110 cp111, .slice B112 kB114 cB115, iq w0, iq w1, iq fr] 81 true, .gen (rowE (Au) gu ku cu 28 4 (rvals xs0) true), .gen (rowE (Av) gv kv cv 28 4 (rvals xs1) true), .cells b3 [.pointer (pB m4), .pointer (pB m17), .slice A91q k93q cp94q, .slice B95q kB97q cB98q, iq w0, iq w1, iq fr, iq 0] 98 true, .cells m4 [iq W1q, iq H1q, .slice (pB r5) n6 n6] 115 true, .gen (rowE (pB r5) r5 n6 n6 54 1 (ivals .u32 (List.replicate n6 0)) true), .gen (rowE (Ax) gx kx cx 28 4 (rvals xs0) true), .gen (rowE (Ay) gy ky cy 28 4 (rvals xs1) true), .cells b2 [iq 0, iq 0, iq W1q, iq H1q] 28 true, .gen (rdE (A) g o n 7 (dvals Deed18.cells xs)), .gen (subE n (fun i_ => rdE ((dget xs i_).A1) (dget xs i_).g1 (dget xs i_).o1 (dget xs i_).m1 4 (rvals (dget xs i_).x1)))]) (fun x_ => True) (by kernel_rfl) (fun w hT => (outStale0 b3 m4 m17 A91q B95q k93q cp94q kB97q cB98q w0 w1 fr gA92q LQ119 w (hT.viewRo (.cons (i := 10) rfl Vw.roc (.cons (i := 3) rfl Vw.rowRd .nil)) rfl) (by omega)).mono fun e w' ⟨A125, g126, k127, cp128, he_, ht_⟩ => ⟨(A125, g126, k127, cp128), he_, trivial, hT.news ht_ rfl⟩) ?_
      rintro ⟨A125, g126, k127, cp128⟩ hf129_
      refine cont_norm [(2, .slice A n cap), (7, .pointer (pB b2)), (8, .pointer (pB b3)), (10, .pointer (pB b33)), (11, iq (i : Int)), (38, iq (i : Int)), (39, .bool true), (83, .pointer (pB b3)), (84, .slice A125 k127 cp128), (86, .slice A108 k110 cp111)] _ (by kernel_rfl) rfl ?_
      refine cont_fact (F := (0 < k127 → (A125 : Option Addr) = pB g126) ∧ LQ119.length = k127 ∧ k127 ≤ cp128 ∧ cp128 ≤ maxLen) (fun w hT => Row.factsR (hT.ok 0 _ rfl)) (fun hr130_ => ?_)
      obtain ⟨hr130_a, hr130_l, hr130_c, hr130_m⟩ := hr130_
      unfold maxLen at hr130_m
      refine drawn_next 1 [] (by kernel_rfl) ?_
      refine drawn_one 4 21 rfl (by kernel_rfl) ?_
      refine call_pure (d := 87) (.bool (decide (LQ119 = LQ119))) (by kernel_rfl) (fun w hT => refSame A125 g126 0 k127 cp128 LQ119 A108 g109 0 k110 cp111 LQ119 w (hT.viewRo (.cons (i := 0) rfl Vw.rowRd (.cons (i := 1) rfl Vw.rowRd .nil)) rfl) (by omega)) ?_
      refine drawn_next 1 [] (by kernel_rfl) ?_
      refine takes 1 [] [(5, 0), (6, 0)] 19 [6, 5, 4, 1, 3, 2, 0] [(2, .slice A n cap), (7, .pointer (pB b2)), (8, .pointer (pB b3)), (10, .pointer (pB b33)), (11, iq (i : Int)), (38, iq (i : Int)), (39, .bool true), (89, .bool (!(decide (LQ119 = LQ119))))] (by kernel_rfl) (pok_then (pok_blk (pok_then (pok_then (pok_blk (pok_then pok_body)))))) (by kernel_rfl) rfl rfl (by kernel_rfl) (by kernel_rfl) ?_
      refine cont_recast 89 (.bool (!(decide (LQ119 = LQ119)))) (.bool false) rfl (congrArg Value.bool (by rw [show (decide (LQ119 = LQ119)) = true from (decide_eq_true rfl)]; rfl)) ?_
      refine takes 1 [] [(7, 0), (9, 0), (10, 7)] 16 [10, 9, 7, 6, 5, 4, 1, 3, 2, 0] [(2, .slice A n cap), (7, .pointer (pB b2)), (8, .pointer (pB b3)), (10, .pointer (pB b33)), (11, iq (i : Int)), (38, iq (i : Int)), (39, .bool true), (89, .bool false), (90, .pointer (pB b3)), (92, .pointer (some ⟨b33, 8, none⟩)), (93, iq fr)] (by kernel_rfl) (pok_then (pok_blk (pok_then (pok_then (pok_blk (pok_then pok_body)))))) (by kernel_rfl) rfl rfl (by kernel_rfl) (by kernel_rfl) ?_
      refine drawn_one 8 15 rfl (by kernel_rfl) ?_
      refine call_pure (d := 91) (iq fr) (by kernel_rfl) (fun w hT => outFrames b3 m4 m17 A91q B95q k93q cp94q kB97q cB98q w0 w1 fr 0 w (hT.viewRo (.cons (i := 11) rfl Vw.roc .nil) rfl)) ?_
      refine drawn_next 1 [] (by kernel_rfl) ?_
      refine takes 1 [] [(11, 0), (12, 0), (13, 0)] 12 [13, 12, 11, 8, 10, 9, 7, 6, 5, 4, 1, 3, 2, 0] [(2, .slice A n cap), (7, .pointer (pB b2)), (8, .pointer (pB b3)), (10, .pointer (pB b33)), (11, iq (i : Int)), (38, iq (i : Int)), (39, .bool true), (90, .pointer (pB b3)), (91, iq fr), (92, .pointer (some ⟨b33, 8, none⟩)), (93, iq fr), (94, .bool (fr != fr)), (96, .bool (fr != fr))] (by kernel_rfl) (pok_then (pok_blk (pok_then (pok_then (pok_blk (pok_then pok_body)))))) (by kernel_rfl) rfl rfl (by kernel_rfl) (by kernel_rfl) ?_
      refine cont_recast 96 (.bool (fr != fr)) (.bool false) rfl (congrArg Value.bool (bne_self_eq_false _)) ?_
      refine cont_recast 94 (.bool (fr != fr)) (.bool false) rfl (congrArg Value.bool (bne_self_eq_false _)) ?_
      refine takes 1 [] [(14, 0), (16, 7)] 10 [16, 14, 13, 12, 11, 8, 10, 9, 7, 6, 5, 4, 1, 3, 2, 0] [(2, .slice A n cap), (7, .pointer (pB b2)), (8, .pointer (pB b3)), (10, .pointer (pB b33)), (11, iq (i : Int)), (38, iq (i : Int)), (39, .bool true), (90, .pointer (pB b3)), (91, iq fr), (92, .pointer (some ⟨b33, 8, none⟩)), (93, iq fr), (94, .bool false), (96, .bool false), (97, .pointer (pB b3)), (99, .agg #[iq 0, iq 0, iq W1q, iq H1q, .slice A108 k110 cp111, .slice B112 kB114 cB115, iq w0, iq w1, iq fr])] (by kernel_rfl) (pok_then (pok_blk (pok_then (pok_then (pok_blk (pok_then pok_body)))))) (by kernel_rfl) rfl rfl (by kernel_rfl) (by kernel_rfl) ?_
      refine drawn_one 15 9 rfl (by kernel_rfl) ?_
      refine call_pure (d := 98) (iq (ageI w0 fr)) (by kernel_rfl) (fun w hT => outAge0 b3 m4 m17 A91q B95q k93q cp94q kB97q cB98q w0 w1 fr w (hT.viewRo (.cons (i := 11) rfl Vw.roc .nil) rfl) (by omega)) ?_
      refine drawn_next 1 [] (by kernel_rfl) ?_
      refine drawn_one 17 8 rfl (by kernel_rfl) ?_
      refine call_pure (d := 100) (iq (ageI w0 fr)) (by kernel_rfl) (fun w hT => refAge18 W1q H1q A108 k110 cp111 B112 kB114 cB115 w0 w1 fr w (by omega)) ?_
      refine drawn_next 1 [] (by kernel_rfl) ?_
      refine takes 1 [] [(18, 0), (19, 0), (20, 0)] 5 [20, 19, 18, 17, 15, 16, 14, 13, 12, 11, 8, 10, 9, 7, 6, 5, 4, 1, 3, 2, 0] [(2, .slice A n cap), (7, .pointer (pB b2)), (8, .pointer (pB b3)), (10, .pointer (pB b33)), (11, iq (i : Int)), (38, iq (i : Int)), (39, .bool true), (90, .pointer (pB b3)), (91, iq fr), (92, .pointer (some ⟨b33, 8, none⟩)), (93, iq fr), (94, .bool false), (97, .pointer (pB b3)), (98, iq (ageI w0 fr)), (99, .agg #[iq 0, iq 0, iq W1q, iq H1q, .slice A108 k110 cp111, .slice B112 kB114 cB115, iq w0, iq w1, iq fr]), (100, iq (ageI w0 fr)), (101, .bool ((ageI w0 fr) != (ageI w0 fr))), (103, .bool ((ageI w0 fr) != (ageI w0 fr)))] (by kernel_rfl) (pok_then (pok_blk (pok_then (pok_then (pok_blk (pok_then pok_body)))))) (by kernel_rfl) rfl rfl (by kernel_rfl) (by kernel_rfl) ?_
      refine cont_recast 103 (.bool ((ageI w0 fr) != (ageI w0 fr))) (.bool false) rfl (congrArg Value.bool (bne_self_eq_false _)) ?_
      refine cont_recast 101 (.bool ((ageI w0 fr) != (ageI w0 fr))) (.bool false) rfl (congrArg Value.bool (bne_self_eq_false _)) ?_
      refine takes 1 [] [(21, 0), (23, 15)] 3 [23, 21, 20, 19, 18, 17, 15, 16, 14, 13, 12, 11, 8, 10, 9, 7, 6, 5, 4, 1, 3, 2, 0] [(2, .slice A n cap), (7, .pointer (pB b2)), (8, .pointer (pB b3)), (10, .pointer (pB b33)), (11, iq (i : Int)), (38, iq (i : Int)), (39, .bool true), (90, .pointer (pB b3)), (91, iq fr), (92, .pointer (some ⟨b33, 8, none⟩)), (93, iq fr), (94, .bool false), (97, .pointer (pB b3)), (98, iq (ageI w0 fr)), (99, .agg #[iq 0, iq 0, iq W1q, iq H1q, .slice A108 k110 cp111, .slice B112 kB114 cB115, iq w0, iq w1, iq fr]), (100, iq (ageI w0 fr)), (101, .bool false), (103, .bool false), (104, .pointer (pB b3)), (106, .agg #[iq 0, iq 0, iq W1q, iq H1q])] (by kernel_rfl) (pok_then (pok_blk (pok_then (pok_then (pok_blk (pok_then pok_body)))))) (by kernel_rfl) rfl rfl (by kernel_rfl) (by kernel_rfl) ?_
      refine drawn_one 22 2 rfl (by kernel_rfl) ?_
      refine call_pure (d := 105) (.agg #[iq 0, iq 0, iq W1q, iq H1q]) (by kernel_rfl) (fun w hT => outBox b3 m4 m17 A91q B95q k93q cp94q kB97q cB98q w0 w1 fr 0 W1q H1q r5 n6 n6 (List.replicate n6 0) w (hT.viewRo (.cons (i := 11) rfl Vw.roc (.cons (i := 12) rfl Vw.roc (.cons (i := 13) rfl Vw.rowRd .nil))) rfl) (by omega) (imgOk_new (by omega) hf18_a)) ?_
      refine drawn_next 1 [] (by kernel_rfl) ?_
      refine sem_take 1 [] 24 1 107 (bopS .neq 28 (.tmp 105) (.tmp 106) (.agg #[iq 0, iq 0, iq W1q, iq H1q]) (.agg #[iq 0, iq 0, iq W1q, iq H1q])) (.bool (!(eqInts [0, 0, W1q, H1q] [0, 0, W1q, H1q]))) (by kernel_rfl) (pok_then (pok_blk (pok_then (pok_then (pok_blk (pok_then pok_body)))))) (by kernel_rfl) rfl (by kernel_rfl) (by kernel_rfl) (fun w hT => run_neS [0, 0, W1q, H1q] [0, 0, W1q, H1q] (by kernel_rfl) (by kernel_rfl) (by kernel_rfl) (by kernel_rfl) rfl rfl w) ?_
      refine takes 1 [] [(25, 0)] 0 [25, 24, 22, 23, 21, 20, 19, 18, 17, 15, 16, 14, 13, 12, 11, 8, 10, 9, 7, 6, 5, 4, 1, 3, 2, 0] [(2, .slice A n cap), (7, .pointer (pB b2)), (8, .pointer (pB b3)), (10, .pointer (pB b33)), (11, iq (i : Int)), (38, iq (i : Int)), (39, .bool true), (90, .pointer (pB b3)), (91, iq fr), (92, .pointer (some ⟨b33, 8, none⟩)), (93, iq fr), (94, .bool false), (97, .pointer (pB b3)), (98, iq (ageI w0 fr)), (99, .agg #[iq 0, iq 0, iq W1q, iq H1q, .slice A108 k110 cp111, .slice B112 kB114 cB115, iq w0, iq w1, iq fr]), (100, iq (ageI w0 fr)), (101, .bool false), (104, .pointer (pB b3)), (105, .agg #[iq 0, iq 0, iq W1q, iq H1q]), (106, .agg #[iq 0, iq 0, iq W1q, iq H1q]), (107, .bool (!(eqInts [0, 0, W1q, H1q] [0, 0, W1q, H1q]))), (108, .bool (!(eqInts [0, 0, W1q, H1q] [0, 0, W1q, H1q])))] (by kernel_rfl) (pok_then (pok_blk (pok_then (pok_then (pok_blk (pok_then pok_body)))))) (by kernel_rfl) rfl rfl (by kernel_rfl) (by kernel_rfl) ?_
      refine drawn_done (by kernel_rfl) ?_
      refine then_normal ?_
      refine cont_recast 108 (.bool (!(eqInts [0, 0, W1q, H1q] [0, 0, W1q, H1q]))) (.bool false) rfl (congrArg Value.bool (by rw [show eqInts [0, 0, W1q, H1q] [0, 0, W1q, H1q] = true from ((eqInts_rect (r := ⟨0, 0, W1q, H1q⟩) (s := ⟨0, 0, W1q, H1q⟩)).trans (decide_eq_true rfl))]; rfl)) ?_
      refine cont_recast 107 (.bool (!(eqInts [0, 0, W1q, H1q] [0, 0, W1q, H1q]))) (.bool false) rfl (congrArg Value.bool (by rw [show eqInts [0, 0, W1q, H1q] [0, 0, W1q, H1q] = true from ((eqInts_rect (r := ⟨0, 0, W1q, H1q⟩) (s := ⟨0, 0, W1q, H1q⟩)).trans (decide_eq_true rfl))]; rfl)) ?_
      refine cont_false rfl ?_
      refine cont_skip ?_
      refine blk_normal ?_
      refine then_normal ?_
      refine cont_region 3 rfl ?_
      refine bS [0, 0] 2 1 [(2, .slice A n cap), (7, .pointer (pB b2)), (8, .pointer (pB b3)), (10, .pointer (pB b33)), (38, iq (i : Int)), (39, .bool true), (42, iq (IntKind.i64.wrap ((i : Int) + 1))), (90, .pointer (pB b3)), (91, iq fr), (92, .pointer (some ⟨b33, 8, none⟩)), (93, iq fr), (94, .bool false), (97, .pointer (pB b3)), (98, iq (ageI w0 fr)), (99, .agg #[iq 0, iq 0, iq W1q, iq H1q, .slice A108 k110 cp111, .slice B112 kB114 cB115, iq w0, iq w1, iq fr]), (100, iq (ageI w0 fr)), (101, .bool false), (104, .pointer (pB b3)), (105, .agg #[iq 0, iq 0, iq W1q, iq H1q]), (106, .agg #[iq 0, iq 0, iq W1q, iq H1q]), (107, .bool false)] ?_
      refine cont_recast 42 (iq (IntKind.i64.wrap ((i : Int) + 1))) (iq ((i : Int) + 1)) rfl (wrapI (by omega) (by omega)) ?_
      refine cont_forget 0 rfl ?_
      refine cont_forget 2 rfl ?_
      refine cont_forget 4 rfl ?_
      refine cont_forget 6 rfl ?_
      refine cont_forget 6 rfl ?_
      refine cont_forget 9 rfl ?_
      refine cont_forget 9 rfl ?_
      refine bS [0] 3 0 [(2, .slice A n cap), (7, .pointer (pB b2)), (8, .pointer (pB b3)), (10, .pointer (pB b33)), (11, iq ((i : Int) + 1)), (38, iq (i : Int)), (39, .bool true), (90, .pointer (pB b3)), (91, iq fr), (92, .pointer (some ⟨b33, 8, none⟩)), (93, iq fr), (94, .bool false), (97, .pointer (pB b3)), (98, iq (ageI w0 fr)), (99, .agg #[iq 0, iq 0, iq W1q, iq H1q, .slice A108 k110 cp111, .slice B112 kB114 cB115, iq w0, iq w1, iq fr]), (100, iq (ageI w0 fr)), (101, .bool false), (104, .pointer (pB b3)), (105, .agg #[iq 0, iq 0, iq W1q, iq H1q]), (106, .agg #[iq 0, iq 0, iq W1q, iq H1q]), (107, .bool false)] ?_
      refine cont_done ?_
      refine then_normal ?_
      refine cont_pick [5, 0, 1, 6, 7, 8, 2, 3, 9, 10, 11] [.cells b33 [iq 0, iq 0, iq W1q, iq H1q, .slice A108 k110 cp111, .slice B112 kB114 cB115, iq w0, iq w1, iq fr] 81 true, .gen (rowE (A108) g109 k110 cp111 28 4 (rvals LQ119) true), .gen (rowE (B112) gB113 kB114 cB115 28 4 (rvals LQ120) true), .cells b3 [.pointer (pB m4), .pointer (pB m17), .slice A91q k93q cp94q, .slice B95q kB97q cB98q, iq w0, iq w1, iq fr, iq 0] 98 true, .cells m4 [iq W1q, iq H1q, .slice (pB r5) n6 n6] 115 true, .gen (rowE (pB r5) r5 n6 n6 54 1 (ivals .u32 (List.replicate n6 0)) true), .gen (rowE (A91q) gA92q k93q cp94q 28 4 (rvals LQ119) true), .gen (rowE (B95q) gB96q kB97q cB98q 28 4 (rvals LQ120) true), .cells b2 [iq 0, iq 0, iq W1q, iq H1q] 28 true, .gen (rdE (A) g o n 7 (dvals Deed18.cells xs)), .gen (subE n (fun i_ => rdE ((dget xs i_).A1) (dget xs i_).g1 (dget xs i_).o1 (dget xs i_).m1 4 (rvals (dget xs i_).x1)))] (by decide) rfl rfl ?_
      refine cont_norm [(2, .slice A n cap), (7, .pointer (pB b2)), (8, .pointer (pB b3)), (10, .pointer (pB b33)), (11, iq ((i : Int) + 1)), (38, iq (i : Int)), (39, .bool true), (90, .pointer (pB b3)), (91, iq fr), (92, .pointer (some ⟨b33, 8, none⟩)), (93, iq fr), (94, .bool false), (97, .pointer (pB b3)), (98, iq (ageI w0 fr)), (99, .agg #[iq 0, iq 0, iq W1q, iq H1q, .slice A108 k110 cp111, .slice B112 kB114 cB115, iq w0, iq w1, iq fr]), (100, iq (ageI w0 fr)), (101, .bool false), (104, .pointer (pB b3)), (105, .agg #[iq 0, iq 0, iq W1q, iq H1q]), (106, .agg #[iq 0, iq 0, iq W1q, iq H1q]), (107, .bool false)] _ (by kernel_rfl) rfl ?_
      refine cont_again ((i + 1 : Nat), 0, w0, w1, fr, LQ119, A91q, gA92q, k93q, cp94q, LQ120, B95q, gB96q, kB97q, cB98q, A108, g109, k110, cp111, B112, gB113, kB114, cB115) (show ((i + 1 : Nat)) ≤ 30 ∧ ((i + 1 : Nat)) ≤ n ∧ (0) ≤ 1 ∧ 0 ≤ (fr) ∧ (fr) ≤ (((i + 1 : Nat)) : Int) ∧ 0 ≤ (w0) ∧ (w0) ≤ (fr) ∧ 0 ≤ (w1) ∧ (w1) ≤ (fr) ∧ (k93q) ≤ 64 ∧ (kB97q) ≤ 64 ∧ (k110) ≤ 64 ∧ (kB114) ≤ 64 from ⟨by omega, by omega, by omega, by omega, by omega, by omega, by omega, by omega, by omega, by omega, by omega, by omega, by omega⟩) (show 40 - ((i + 1 : Nat)) < 40 - i from by omega) (by kernel_rfl) (by kernel_rfl)
     refine call_gen (d := 72) (α := Option Addr × Nat × Nat × Nat) (fun x_ => .slice x_.1 x_.2.2.1 x_.2.2.2) (fun x_ => [.gen (rowE (x_.1) x_.2.1 x_.2.2.1 x_.2.2.2 28 4 (rvals (smallL (el.x1.take (Int.toNat mq)) 4)) true), .gen (rowE (A91q) gA92q k93q cp94q 28 4 (rvals (keepL hullD (regM orB xs0 (regM andB (canR (smallL (el.x1.take (Int.toNat mq)) 4)) [(⟨0, 0, W1q, H1q⟩ : Rect)])) 64)) true), .gen (rowE (B95q) gB96q kB97q cB98q 28 4 (rvals (keepL hullD (regM orB xs1 (regM andB (canR (smallL (el.x1.take (Int.toNat mq)) 4)) [(⟨0, 0, W1q, H1q⟩ : Rect)])) 64)) true), .gen (rowE (A84) g85 k86 cp87 28 4 (rvals (smallL (el.x1.take (Int.toNat mq)) 4)) true), .gen (rdE (el.A1) el.g1 el.o1 el.m1 4 (rvals el.x1)), .cells b33 [iq 0, iq 0, iq W1q, iq H1q, .slice Au ku cu, .slice Av kv cv, iq w0, iq w1, iq fr] 81 true, .gen (rowE (Au) gu ku cu 28 4 (rvals xs0) true), .gen (rowE (Av) gv kv cv 28 4 (rvals xs1) true), .cells b3 [.pointer (pB m4), .pointer (pB m17), .slice A91q k93q cp94q, .slice B95q kB97q cB98q, iq w0, iq w1, iq fr, iq 0] 98 true, .cells m4 [iq W1q, iq H1q, .slice (pB r5) n6 n6] 115 true, .gen (rowE (pB r5) r5 n6 n6 54 1 (ivals .u32 (List.replicate n6 0)) true), .gen (rowE (Ax) gx kx cx 28 4 (rvals xs0) true), .gen (rowE (Ay) gy ky cy 28 4 (rvals xs1) true), .cells b2 [iq 0, iq 0, iq W1q, iq H1q] 28 true, .gen (rdE (A) g o n 7 (dvals Deed18.cells xs)), .gen (subE n (fun i_ => rdE ((dget xs i_).A1) (dget xs i_).g1 (dget xs i_).o1 (dget xs i_).m1 4 (rvals (dget xs i_).x1)))]) (fun x_ => True) (by kernel_rfl) (fun w hT => (refSmallL el.A1 el.g1 el.o1 (Int.toNat mq) el.k1 (el.x1.take (Int.toNat mq)) 4 w (hT.viewRo (.cons (i := 3) rfl (Vw.rdHeadA (n := el.m1) (m := (Int.toNat mq)) (by omega)) .nil) rfl) (fun r hr => helg.b1 r (List.mem_of_mem_take hr)) (by omega)).mono fun e w' ⟨A135, g136, k137, cp138, he_, ht_⟩ => ⟨(A135, g136, k137, cp138), he_, trivial, hT.news ht_ rfl⟩) ?_
     rintro ⟨A135, g136, k137, cp138⟩ hf139_
     refine cont_norm [(2, .slice A n cap), (7, .pointer (pB b2)), (8, .pointer (pB b3)), (10, .pointer (pB b33)), (11, iq (i : Int)), (38, iq (i : Int)), (39, .bool true), (71, .slice el.A1 (Int.toNat mq) el.k1), (72, .slice A135 k137 cp138)] _ (by kernel_rfl) rfl ?_
     refine cont_fact (F := (0 < k137 → (A135 : Option Addr) = pB g136) ∧ (smallL (el.x1.take (Int.toNat mq)) 4).length = k137 ∧ k137 ≤ cp138 ∧ cp138 ≤ maxLen) (fun w hT => Row.factsR (hT.ok 0 _ rfl)) (fun hr140_ => ?_)
     obtain ⟨hr140_a, hr140_l, hr140_c, hr140_m⟩ := hr140_
     unfold maxLen at hr140_m
     have hsl141_ := smallL_length (el.x1.take (Int.toNat mq)) 4
     refine drawn_next 1 [4] (by kernel_rfl) ?_
     refine drawn_one 0 2 rfl (by kernel_rfl) ?_
     refine one_step 5 [(2, .slice A n cap), (7, .pointer (pB b2)), (8, .pointer (pB b3)), (10, .pointer (pB b33)), (11, iq (i : Int)), (38, iq (i : Int)), (39, .bool true), (70, .agg #[iq 0, iq 0, iq W1q, iq H1q, .slice Au ku cu, .slice Av kv cv, iq w0, iq w1, iq fr]), (72, .slice A135 k137 cp138)] [.gen (rowE (A135) g136 k137 cp138 28 4 (rvals (smallL (el.x1.take (Int.toNat mq)) 4)) true), .gen (rowE (A91q) gA92q k93q cp94q 28 4 (rvals (keepL hullD (regM orB xs0 (regM andB (canR (smallL (el.x1.take (Int.toNat mq)) 4)) [(⟨0, 0, W1q, H1q⟩ : Rect)])) 64)) true), .gen (rowE (B95q) gB96q kB97q cB98q 28 4 (rvals (keepL hullD (regM orB xs1 (regM andB (canR (smallL (el.x1.take (Int.toNat mq)) 4)) [(⟨0, 0, W1q, H1q⟩ : Rect)])) 64)) true), .gen (rowE (A84) g85 k86 cp87 28 4 (rvals (smallL (el.x1.take (Int.toNat mq)) 4)) true), .gen (rdE (el.A1) el.g1 el.o1 el.m1 4 (rvals el.x1)), .cells b33 [iq 0, iq 0, iq W1q, iq H1q, .slice Au ku cu, .slice Av kv cv, iq w0, iq w1, iq fr] 81 true, .gen (rowE (Au) gu ku cu 28 4 (rvals xs0) true), .gen (rowE (Av) gv kv cv 28 4 (rvals xs1) true), .cells b3 [.pointer (pB m4), .pointer (pB m17), .slice A91q k93q cp94q, .slice B95q kB97q cB98q, iq w0, iq w1, iq fr, iq 0] 98 true, .cells m4 [iq W1q, iq H1q, .slice (pB r5) n6 n6] 115 true, .gen (rowE (pB r5) r5 n6 n6 54 1 (ivals .u32 (List.replicate n6 0)) true), .gen (rowE (Ax) gx kx cx 28 4 (rvals xs0) true), .gen (rowE (Ay) gy ky cy 28 4 (rvals xs1) true), .cells b2 [iq 0, iq 0, iq W1q, iq H1q] 28 true, .gen (rdE (A) g o n 7 (dvals Deed18.cells xs)), .gen (subE n (fun i_ => rdE ((dget xs i_).A1) (dget xs i_).g1 (dget xs i_).o1 (dget xs i_).m1 4 (rvals (dget xs i_).x1)))] (by kernel_rfl) (by kernel_rfl) ?_
     refine drawn_next 1 [4] (by kernel_rfl) ?_
     refine drawn_one 3 1 rfl (by kernel_rfl) ?_
     refine call_gen (d := 73) (α := Option Addr × Nat × Nat × Nat × Option Addr × Nat × Nat × Nat) (fun x_ => .agg #[iq 0, iq 0, iq W1q, iq H1q, .slice x_.1 x_.2.2.1 x_.2.2.2.1, .slice x_.2.2.2.2.1 x_.2.2.2.2.2.2.1 x_.2.2.2.2.2.2.2, iq w0, iq w1, iq fr]) (fun x_ => [.gen (rowE (x_.1) x_.2.1 x_.2.2.1 x_.2.2.2.1 28 4 (rvals (keepL hullD (regM orB xs0 (regM andB (canR (smallL (el.x1.take (Int.toNat mq)) 4)) [(⟨0, 0, W1q, H1q⟩ : Rect)])) 64)) true), .gen (rowE (x_.2.2.2.2.1) x_.2.2.2.2.2.1 x_.2.2.2.2.2.2.1 x_.2.2.2.2.2.2.2 28 4 (rvals (keepL hullD (regM orB xs1 (regM andB (canR (smallL (el.x1.take (Int.toNat mq)) 4)) [(⟨0, 0, W1q, H1q⟩ : Rect)])) 64)) true), .gen (rowE (A135) g136 k137 cp138 28 4 (rvals (smallL (el.x1.take (Int.toNat mq)) 4)) true), .gen (rowE (A91q) gA92q k93q cp94q 28 4 (rvals (keepL hullD (regM orB xs0 (regM andB (canR (smallL (el.x1.take (Int.toNat mq)) 4)) [(⟨0, 0, W1q, H1q⟩ : Rect)])) 64)) true), .gen (rowE (B95q) gB96q kB97q cB98q 28 4 (rvals (keepL hullD (regM orB xs1 (regM andB (canR (smallL (el.x1.take (Int.toNat mq)) 4)) [(⟨0, 0, W1q, H1q⟩ : Rect)])) 64)) true), .gen (rowE (A84) g85 k86 cp87 28 4 (rvals (smallL (el.x1.take (Int.toNat mq)) 4)) true), .gen (rdE (el.A1) el.g1 el.o1 el.m1 4 (rvals el.x1)), .cells b33 [iq 0, iq 0, iq W1q, iq H1q, .slice Au ku cu, .slice Av kv cv, iq w0, iq w1, iq fr] 81 true, .gen (rowE (Au) gu ku cu 28 4 (rvals xs0) true), .gen (rowE (Av) gv kv cv 28 4 (rvals xs1) true), .cells b3 [.pointer (pB m4), .pointer (pB m17), .slice A91q k93q cp94q, .slice B95q kB97q cB98q, iq w0, iq w1, iq fr, iq 0] 98 true, .cells m4 [iq W1q, iq H1q, .slice (pB r5) n6 n6] 115 true, .gen (rowE (pB r5) r5 n6 n6 54 1 (ivals .u32 (List.replicate n6 0)) true), .gen (rowE (Ax) gx kx cx 28 4 (rvals xs0) true), .gen (rowE (Ay) gy ky cy 28 4 (rvals xs1) true), .cells b2 [iq 0, iq 0, iq W1q, iq H1q] 28 true, .gen (rdE (A) g o n 7 (dvals Deed18.cells xs)), .gen (subE n (fun i_ => rdE ((dget xs i_).A1) (dget xs i_).g1 (dget xs i_).o1 (dget xs i_).m1 4 (rvals (dget xs i_).x1)))]) (fun x_ => True) (by kernel_rfl) (fun w hT => (refDamage18 W1q H1q Au ku cu Av kv cv w0 w1 fr gu xs0 gv xs1 A135 g136 0 k137 cp138 (smallL (el.x1.take (Int.toNat mq)) 4) w (hT.viewRo (.cons (i := 6) rfl Vw.rowRd (.cons (i := 7) rfl Vw.rowRd (.cons (i := 0) rfl Vw.rowRd .nil))) rfl) (by omega) (by omega) (by omega) (by omega)).mono fun e w' ⟨A142, g143, k144, cp145, B146, gB147, kB148, cB149, he_, ht_⟩ => ⟨(A142, g143, k144, cp145, B146, gB147, kB148, cB149), he_, trivial, hT.news ht_ rfl⟩) ?_
     rintro ⟨A142, g143, k144, cp145, B146, gB147, kB148, cB149⟩ hf150_
     refine cont_norm [(2, .slice A n cap), (7, .pointer (pB b2)), (8, .pointer (pB b3)), (10, .pointer (pB b33)), (11, iq (i : Int)), (38, iq (i : Int)), (39, .bool true), (70, .agg #[iq 0, iq 0, iq W1q, iq H1q, .slice Au ku cu, .slice Av kv cv, iq w0, iq w1, iq fr]), (72, .slice A135 k137 cp138), (73, .agg #[iq 0, iq 0, iq W1q, iq H1q, .slice A142 k144 cp145, .slice B146 kB148 cB149, iq w0, iq w1, iq fr])] _ (by kernel_rfl) rfl ?_
     refine cont_fact (F := (0 < k144 → (A142 : Option Addr) = pB g143) ∧ (keepL hullD (regM orB xs0 (regM andB (canR (smallL (el.x1.take (Int.toNat mq)) 4)) [(⟨0, 0, W1q, H1q⟩ : Rect)])) 64).length = k144 ∧ k144 ≤ cp145 ∧ cp145 ≤ maxLen) (fun w hT => Row.factsR (hT.ok 0 _ rfl)) (fun hr151_ => ?_)
     obtain ⟨hr151_a, hr151_l, hr151_c, hr151_m⟩ := hr151_
     unfold maxLen at hr151_m
     have hr151_k : k144 ≤ 64 := by rw [← hr151_l]; exact keep_len64 _ _
     clear hr151_l
     refine cont_fact (F := (0 < kB148 → (B146 : Option Addr) = pB gB147) ∧ (keepL hullD (regM orB xs1 (regM andB (canR (smallL (el.x1.take (Int.toNat mq)) 4)) [(⟨0, 0, W1q, H1q⟩ : Rect)])) 64).length = kB148 ∧ kB148 ≤ cB149 ∧ cB149 ≤ maxLen) (fun w hT => Row.factsR (hT.ok 1 _ rfl)) (fun hr152_ => ?_)
     obtain ⟨hr152_a, hr152_l, hr152_c, hr152_m⟩ := hr152_
     unfold maxLen at hr152_m
     have hr152_k : kB148 ≤ 64 := by rw [← hr152_l]; exact keep_len64 _ _
     clear hr152_l
     refine drawn_next 3 [4] (by kernel_rfl) ?_
     refine drawn_one 4 0 rfl (by kernel_rfl) ?_
     refine one_step 7 [(2, .slice A n cap), (7, .pointer (pB b2)), (8, .pointer (pB b3)), (10, .pointer (pB b33)), (11, iq (i : Int)), (38, iq (i : Int)), (39, .bool true)] [.gen (rowE (A142) g143 k144 cp145 28 4 (rvals (keepL hullD (regM orB xs0 (regM andB (canR (smallL (el.x1.take (Int.toNat mq)) 4)) [(⟨0, 0, W1q, H1q⟩ : Rect)])) 64)) true), .gen (rowE (B146) gB147 kB148 cB149 28 4 (rvals (keepL hullD (regM orB xs1 (regM andB (canR (smallL (el.x1.take (Int.toNat mq)) 4)) [(⟨0, 0, W1q, H1q⟩ : Rect)])) 64)) true), .gen (rowE (A135) g136 k137 cp138 28 4 (rvals (smallL (el.x1.take (Int.toNat mq)) 4)) true), .gen (rowE (A91q) gA92q k93q cp94q 28 4 (rvals (keepL hullD (regM orB xs0 (regM andB (canR (smallL (el.x1.take (Int.toNat mq)) 4)) [(⟨0, 0, W1q, H1q⟩ : Rect)])) 64)) true), .gen (rowE (B95q) gB96q kB97q cB98q 28 4 (rvals (keepL hullD (regM orB xs1 (regM andB (canR (smallL (el.x1.take (Int.toNat mq)) 4)) [(⟨0, 0, W1q, H1q⟩ : Rect)])) 64)) true), .gen (rowE (A84) g85 k86 cp87 28 4 (rvals (smallL (el.x1.take (Int.toNat mq)) 4)) true), .gen (rdE (el.A1) el.g1 el.o1 el.m1 4 (rvals el.x1)), .cells b33 [iq 0, iq 0, iq W1q, iq H1q, .slice A142 k144 cp145, .slice B146 kB148 cB149, iq w0, iq w1, iq fr] 81 true, .gen (rowE (Au) gu ku cu 28 4 (rvals xs0) true), .gen (rowE (Av) gv kv cv 28 4 (rvals xs1) true), .cells b3 [.pointer (pB m4), .pointer (pB m17), .slice A91q k93q cp94q, .slice B95q kB97q cB98q, iq w0, iq w1, iq fr, iq 0] 98 true, .cells m4 [iq W1q, iq H1q, .slice (pB r5) n6 n6] 115 true, .gen (rowE (pB r5) r5 n6 n6 54 1 (ivals .u32 (List.replicate n6 0)) true), .gen (rowE (Ax) gx kx cx 28 4 (rvals xs0) true), .gen (rowE (Ay) gy ky cy 28 4 (rvals xs1) true), .cells b2 [iq 0, iq 0, iq W1q, iq H1q] 28 true, .gen (rdE (A) g o n 7 (dvals Deed18.cells xs)), .gen (subE n (fun i_ => rdE ((dget xs i_).A1) (dget xs i_).g1 (dget xs i_).o1 (dget xs i_).m1 4 (rvals (dget xs i_).x1)))] (by kernel_rfl) (by kernel_rfl) ?_
     refine drawn_next 3 [4] (by kernel_rfl) ?_
     refine drawn_done (by kernel_rfl) ?_
     refine blk_normal ?_
     refine then_normal ?_
     refine cont_seq ?_
     obtain ⟨LQ153, hLQ153⟩ : ∃ y_ : List Rect, y_ = keepL hullD (regM orB xs0 (regM andB (canR (smallL (el.x1.take (Int.toNat mq)) 4)) [(⟨0, 0, W1q, H1q⟩ : Rect)])) 64 := ⟨_, rfl⟩
     refine cont_rowEqR 3 (keepL hullD (regM orB xs0 (regM andB (canR (smallL (el.x1.take (Int.toNat mq)) 4)) [(⟨0, 0, W1q, H1q⟩ : Rect)])) 64) (LQ153) rfl hLQ153.symm ?_
     obtain ⟨LQ154, hLQ154⟩ : ∃ y_ : List Rect, y_ = keepL hullD (regM orB xs1 (regM andB (canR (smallL (el.x1.take (Int.toNat mq)) 4)) [(⟨0, 0, W1q, H1q⟩ : Rect)])) 64 := ⟨_, rfl⟩
     refine cont_rowEqR 4 (keepL hullD (regM orB xs1 (regM andB (canR (smallL (el.x1.take (Int.toNat mq)) 4)) [(⟨0, 0, W1q, H1q⟩ : Rect)])) 64) (LQ154) rfl hLQ154.symm ?_
     refine cont_rowEqR 0 (keepL hullD (regM orB xs0 (regM andB (canR (smallL (el.x1.take (Int.toNat mq)) 4)) [(⟨0, 0, W1q, H1q⟩ : Rect)])) 64) (LQ153) rfl hLQ153.symm ?_
     refine cont_rowEqR 1 (keepL hullD (regM orB xs1 (regM andB (canR (smallL (el.x1.take (Int.toNat mq)) 4)) [(⟨0, 0, W1q, H1q⟩ : Rect)])) 64) (LQ154) rfl hLQ154.symm ?_
     refine cont_norm [(2, .slice A n cap), (7, .pointer (pB b2)), (8, .pointer (pB b3)), (10, .pointer (pB b33)), (11, iq (i : Int)), (38, iq (i : Int)), (39, .bool true)] _ (by kernel_rfl) rfl ?_
     clear hLQ153
     clear hLQ154
     refine cont_fact (F := (0 < k93q → (A91q : Option Addr) = pB gA92q) ∧ LQ153.length = k93q ∧ k93q ≤ cp94q ∧ cp94q ≤ maxLen) (fun w hT => Row.factsR (hT.ok 3 _ rfl)) (fun hr155_ => ?_)
     obtain ⟨hr155_a, hr155_l, hr155_c, hr155_m⟩ := hr155_
     unfold maxLen at hr155_m
     refine cont_fact (F := (0 < kB97q → (B95q : Option Addr) = pB gB96q) ∧ LQ154.length = kB97q ∧ kB97q ≤ cB98q ∧ cB98q ≤ maxLen) (fun w hT => Row.factsR (hT.ok 4 _ rfl)) (fun hr156_ => ?_)
     obtain ⟨hr156_a, hr156_l, hr156_c, hr156_m⟩ := hr156_
     unfold maxLen at hr156_m
     refine cont_fact (F := (0 < k144 → (A142 : Option Addr) = pB g143) ∧ LQ153.length = k144 ∧ k144 ≤ cp145 ∧ cp145 ≤ maxLen) (fun w hT => Row.factsR (hT.ok 0 _ rfl)) (fun hr157_ => ?_)
     obtain ⟨hr157_a, hr157_l, hr157_c, hr157_m⟩ := hr157_
     unfold maxLen at hr157_m
     refine cont_fact (F := (0 < kB148 → (B146 : Option Addr) = pB gB147) ∧ LQ154.length = kB148 ∧ kB148 ≤ cB149 ∧ cB149 ≤ maxLen) (fun w hT => Row.factsR (hT.ok 1 _ rfl)) (fun hr158_ => ?_)
     obtain ⟨hr158_a, hr158_l, hr158_c, hr158_m⟩ := hr158_
     unfold maxLen at hr158_m
     refine drawn_enter 26 [] rfl (by kernel_rfl) ?_
     refine takes 0 [] [(0, 0), (2, 0), (3, 7)] 23 [3, 2, 0] [(2, .slice A n cap), (7, .pointer (pB b2)), (8, .pointer (pB b3)), (10, .pointer (pB b33)), (11, iq (i : Int)), (38, iq (i : Int)), (39, .bool true), (83, .pointer (pB b3)), (86, .slice A142 k144 cp145)] (by kernel_rfl) (pok_then (pok_blk (pok_then (pok_then (pok_blk (pok_then pok_body)))))) (by kernel_rfl) rfl rfl (by kernel_rfl) (by kernel_rfl) ?_
     refine drawn_one 1 22 rfl (by kernel_rfl) ?_
     refine call_gen (d := 84) (α := Option Addr × Nat × Nat × Nat) (fun x_ => .slice x_.1 x_.2.2.1 x_.2.2.2) (fun x_ => [.gen (rowE (x_.1) x_.2.1 x_.2.2.1 x_.2.2.2 28 4 (rvals LQ153) true), .gen (rowE (A142) g143 k144 cp145 28 4 (rvals LQ153) true), .gen (rowE (B146) gB147 kB148 cB149 28 4 (rvals LQ154) true), .gen (rowE (A135) g136 k137 cp138 28 4 (rvals (smallL (el.x1.take (Int.toNat mq)) 4)) true), .gen (rowE (A91q) gA92q k93q cp94q 28 4 (rvals LQ153) true), .gen (rowE (B95q) gB96q kB97q cB98q 28 4 (rvals LQ154) true), .gen (rowE (A84) g85 k86 cp87 28 4 (rvals (smallL (el.x1.take (Int.toNat mq)) 4)) true), .gen (rdE (el.A1) el.g1 el.o1 el.m1 4 (rvals el.x1)), .cells b33 [iq 0, iq 0, iq W1q, iq H1q, .slice A142 k144 cp145, .slice B146 kB148 cB149, iq w0, iq w1, iq fr] 81 true, .gen (rowE (Au) gu ku cu 28 4 (rvals xs0) true), .gen (rowE (Av) gv kv cv 28 4 (rvals xs1) true), .cells b3 [.pointer (pB m4), .pointer (pB m17), .slice A91q k93q cp94q, .slice B95q kB97q cB98q, iq w0, iq w1, iq fr, iq 0] 98 true, .cells m4 [iq W1q, iq H1q, .slice (pB r5) n6 n6] 115 true, .gen (rowE (pB r5) r5 n6 n6 54 1 (ivals .u32 (List.replicate n6 0)) true), .gen (rowE (Ax) gx kx cx 28 4 (rvals xs0) true), .gen (rowE (Ay) gy ky cy 28 4 (rvals xs1) true), .cells b2 [iq 0, iq 0, iq W1q, iq H1q] 28 true, .gen (rdE (A) g o n 7 (dvals Deed18.cells xs)), .gen (subE n (fun i_ => rdE ((dget xs i_).A1) (dget xs i_).g1 (dget xs i_).o1 (dget xs i_).m1 4 (rvals (dget xs i_).x1)))]) (fun x_ => True) (by kernel_rfl) (fun w hT => (outStale0 b3 m4 m17 A91q B95q k93q cp94q kB97q cB98q w0 w1 fr gA92q LQ153 w (hT.viewRo (.cons (i := 10) rfl Vw.roc (.cons (i := 3) rfl Vw.rowRd .nil)) rfl) (by omega)).mono fun e w' ⟨A159, g160, k161, cp162, he_, ht_⟩ => ⟨(A159, g160, k161, cp162), he_, trivial, hT.news ht_ rfl⟩) ?_
     rintro ⟨A159, g160, k161, cp162⟩ hf163_
     refine cont_norm [(2, .slice A n cap), (7, .pointer (pB b2)), (8, .pointer (pB b3)), (10, .pointer (pB b33)), (11, iq (i : Int)), (38, iq (i : Int)), (39, .bool true), (83, .pointer (pB b3)), (84, .slice A159 k161 cp162), (86, .slice A142 k144 cp145)] _ (by kernel_rfl) rfl ?_
     refine cont_fact (F := (0 < k161 → (A159 : Option Addr) = pB g160) ∧ LQ153.length = k161 ∧ k161 ≤ cp162 ∧ cp162 ≤ maxLen) (fun w hT => Row.factsR (hT.ok 0 _ rfl)) (fun hr164_ => ?_)
     obtain ⟨hr164_a, hr164_l, hr164_c, hr164_m⟩ := hr164_
     unfold maxLen at hr164_m
     refine drawn_next 1 [] (by kernel_rfl) ?_
     refine drawn_one 4 21 rfl (by kernel_rfl) ?_
     refine call_pure (d := 87) (.bool (decide (LQ153 = LQ153))) (by kernel_rfl) (fun w hT => refSame A159 g160 0 k161 cp162 LQ153 A142 g143 0 k144 cp145 LQ153 w (hT.viewRo (.cons (i := 0) rfl Vw.rowRd (.cons (i := 1) rfl Vw.rowRd .nil)) rfl) (by omega)) ?_
     refine drawn_next 1 [] (by kernel_rfl) ?_
     refine takes 1 [] [(5, 0), (6, 0)] 19 [6, 5, 4, 1, 3, 2, 0] [(2, .slice A n cap), (7, .pointer (pB b2)), (8, .pointer (pB b3)), (10, .pointer (pB b33)), (11, iq (i : Int)), (38, iq (i : Int)), (39, .bool true), (89, .bool (!(decide (LQ153 = LQ153))))] (by kernel_rfl) (pok_then (pok_blk (pok_then (pok_then (pok_blk (pok_then pok_body)))))) (by kernel_rfl) rfl rfl (by kernel_rfl) (by kernel_rfl) ?_
     refine cont_recast 89 (.bool (!(decide (LQ153 = LQ153)))) (.bool false) rfl (congrArg Value.bool (by rw [show (decide (LQ153 = LQ153)) = true from (decide_eq_true rfl)]; rfl)) ?_
     refine takes 1 [] [(7, 0), (9, 0), (10, 7)] 16 [10, 9, 7, 6, 5, 4, 1, 3, 2, 0] [(2, .slice A n cap), (7, .pointer (pB b2)), (8, .pointer (pB b3)), (10, .pointer (pB b33)), (11, iq (i : Int)), (38, iq (i : Int)), (39, .bool true), (89, .bool false), (90, .pointer (pB b3)), (92, .pointer (some ⟨b33, 8, none⟩)), (93, iq fr)] (by kernel_rfl) (pok_then (pok_blk (pok_then (pok_then (pok_blk (pok_then pok_body)))))) (by kernel_rfl) rfl rfl (by kernel_rfl) (by kernel_rfl) ?_
     refine drawn_one 8 15 rfl (by kernel_rfl) ?_
     refine call_pure (d := 91) (iq fr) (by kernel_rfl) (fun w hT => outFrames b3 m4 m17 A91q B95q k93q cp94q kB97q cB98q w0 w1 fr 0 w (hT.viewRo (.cons (i := 11) rfl Vw.roc .nil) rfl)) ?_
     refine drawn_next 1 [] (by kernel_rfl) ?_
     refine takes 1 [] [(11, 0), (12, 0), (13, 0)] 12 [13, 12, 11, 8, 10, 9, 7, 6, 5, 4, 1, 3, 2, 0] [(2, .slice A n cap), (7, .pointer (pB b2)), (8, .pointer (pB b3)), (10, .pointer (pB b33)), (11, iq (i : Int)), (38, iq (i : Int)), (39, .bool true), (90, .pointer (pB b3)), (91, iq fr), (92, .pointer (some ⟨b33, 8, none⟩)), (93, iq fr), (94, .bool (fr != fr)), (96, .bool (fr != fr))] (by kernel_rfl) (pok_then (pok_blk (pok_then (pok_then (pok_blk (pok_then pok_body)))))) (by kernel_rfl) rfl rfl (by kernel_rfl) (by kernel_rfl) ?_
     refine cont_recast 96 (.bool (fr != fr)) (.bool false) rfl (congrArg Value.bool (bne_self_eq_false _)) ?_
     refine cont_recast 94 (.bool (fr != fr)) (.bool false) rfl (congrArg Value.bool (bne_self_eq_false _)) ?_
     refine takes 1 [] [(14, 0), (16, 7)] 10 [16, 14, 13, 12, 11, 8, 10, 9, 7, 6, 5, 4, 1, 3, 2, 0] [(2, .slice A n cap), (7, .pointer (pB b2)), (8, .pointer (pB b3)), (10, .pointer (pB b33)), (11, iq (i : Int)), (38, iq (i : Int)), (39, .bool true), (90, .pointer (pB b3)), (91, iq fr), (92, .pointer (some ⟨b33, 8, none⟩)), (93, iq fr), (94, .bool false), (96, .bool false), (97, .pointer (pB b3)), (99, .agg #[iq 0, iq 0, iq W1q, iq H1q, .slice A142 k144 cp145, .slice B146 kB148 cB149, iq w0, iq w1, iq fr])] (by kernel_rfl) (pok_then (pok_blk (pok_then (pok_then (pok_blk (pok_then pok_body)))))) (by kernel_rfl) rfl rfl (by kernel_rfl) (by kernel_rfl) ?_
     refine drawn_one 15 9 rfl (by kernel_rfl) ?_
     refine call_pure (d := 98) (iq (ageI w0 fr)) (by kernel_rfl) (fun w hT => outAge0 b3 m4 m17 A91q B95q k93q cp94q kB97q cB98q w0 w1 fr w (hT.viewRo (.cons (i := 11) rfl Vw.roc .nil) rfl) (by omega)) ?_
     refine drawn_next 1 [] (by kernel_rfl) ?_
     refine drawn_one 17 8 rfl (by kernel_rfl) ?_
     refine call_pure (d := 100) (iq (ageI w0 fr)) (by kernel_rfl) (fun w hT => refAge18 W1q H1q A142 k144 cp145 B146 kB148 cB149 w0 w1 fr w (by omega)) ?_
     refine drawn_next 1 [] (by kernel_rfl) ?_
     refine takes 1 [] [(18, 0), (19, 0), (20, 0)] 5 [20, 19, 18, 17, 15, 16, 14, 13, 12, 11, 8, 10, 9, 7, 6, 5, 4, 1, 3, 2, 0] [(2, .slice A n cap), (7, .pointer (pB b2)), (8, .pointer (pB b3)), (10, .pointer (pB b33)), (11, iq (i : Int)), (38, iq (i : Int)), (39, .bool true), (90, .pointer (pB b3)), (91, iq fr), (92, .pointer (some ⟨b33, 8, none⟩)), (93, iq fr), (94, .bool false), (97, .pointer (pB b3)), (98, iq (ageI w0 fr)), (99, .agg #[iq 0, iq 0, iq W1q, iq H1q, .slice A142 k144 cp145, .slice B146 kB148 cB149, iq w0, iq w1, iq fr]), (100, iq (ageI w0 fr)), (101, .bool ((ageI w0 fr) != (ageI w0 fr))), (103, .bool ((ageI w0 fr) != (ageI w0 fr)))] (by kernel_rfl) (pok_then (pok_blk (pok_then (pok_then (pok_blk (pok_then pok_body)))))) (by kernel_rfl) rfl rfl (by kernel_rfl) (by kernel_rfl) ?_
     refine cont_recast 103 (.bool ((ageI w0 fr) != (ageI w0 fr))) (.bool false) rfl (congrArg Value.bool (bne_self_eq_false _)) ?_
     refine cont_recast 101 (.bool ((ageI w0 fr) != (ageI w0 fr))) (.bool false) rfl (congrArg Value.bool (bne_self_eq_false _)) ?_
     refine takes 1 [] [(21, 0), (23, 15)] 3 [23, 21, 20, 19, 18, 17, 15, 16, 14, 13, 12, 11, 8, 10, 9, 7, 6, 5, 4, 1, 3, 2, 0] [(2, .slice A n cap), (7, .pointer (pB b2)), (8, .pointer (pB b3)), (10, .pointer (pB b33)), (11, iq (i : Int)), (38, iq (i : Int)), (39, .bool true), (90, .pointer (pB b3)), (91, iq fr), (92, .pointer (some ⟨b33, 8, none⟩)), (93, iq fr), (94, .bool false), (97, .pointer (pB b3)), (98, iq (ageI w0 fr)), (99, .agg #[iq 0, iq 0, iq W1q, iq H1q, .slice A142 k144 cp145, .slice B146 kB148 cB149, iq w0, iq w1, iq fr]), (100, iq (ageI w0 fr)), (101, .bool false), (103, .bool false), (104, .pointer (pB b3)), (106, .agg #[iq 0, iq 0, iq W1q, iq H1q])] (by kernel_rfl) (pok_then (pok_blk (pok_then (pok_then (pok_blk (pok_then pok_body)))))) (by kernel_rfl) rfl rfl (by kernel_rfl) (by kernel_rfl) ?_
     refine drawn_one 22 2 rfl (by kernel_rfl) ?_
     refine call_pure (d := 105) (.agg #[iq 0, iq 0, iq W1q, iq H1q]) (by kernel_rfl) (fun w hT => outBox b3 m4 m17 A91q B95q k93q cp94q kB97q cB98q w0 w1 fr 0 W1q H1q r5 n6 n6 (List.replicate n6 0) w (hT.viewRo (.cons (i := 11) rfl Vw.roc (.cons (i := 12) rfl Vw.roc (.cons (i := 13) rfl Vw.rowRd .nil))) rfl) (by omega) (imgOk_new (by omega) hf18_a)) ?_
     refine drawn_next 1 [] (by kernel_rfl) ?_
     refine sem_take 1 [] 24 1 107 (bopS .neq 28 (.tmp 105) (.tmp 106) (.agg #[iq 0, iq 0, iq W1q, iq H1q]) (.agg #[iq 0, iq 0, iq W1q, iq H1q])) (.bool (!(eqInts [0, 0, W1q, H1q] [0, 0, W1q, H1q]))) (by kernel_rfl) (pok_then (pok_blk (pok_then (pok_then (pok_blk (pok_then pok_body)))))) (by kernel_rfl) rfl (by kernel_rfl) (by kernel_rfl) (fun w hT => run_neS [0, 0, W1q, H1q] [0, 0, W1q, H1q] (by kernel_rfl) (by kernel_rfl) (by kernel_rfl) (by kernel_rfl) rfl rfl w) ?_
     refine takes 1 [] [(25, 0)] 0 [25, 24, 22, 23, 21, 20, 19, 18, 17, 15, 16, 14, 13, 12, 11, 8, 10, 9, 7, 6, 5, 4, 1, 3, 2, 0] [(2, .slice A n cap), (7, .pointer (pB b2)), (8, .pointer (pB b3)), (10, .pointer (pB b33)), (11, iq (i : Int)), (38, iq (i : Int)), (39, .bool true), (90, .pointer (pB b3)), (91, iq fr), (92, .pointer (some ⟨b33, 8, none⟩)), (93, iq fr), (94, .bool false), (97, .pointer (pB b3)), (98, iq (ageI w0 fr)), (99, .agg #[iq 0, iq 0, iq W1q, iq H1q, .slice A142 k144 cp145, .slice B146 kB148 cB149, iq w0, iq w1, iq fr]), (100, iq (ageI w0 fr)), (101, .bool false), (104, .pointer (pB b3)), (105, .agg #[iq 0, iq 0, iq W1q, iq H1q]), (106, .agg #[iq 0, iq 0, iq W1q, iq H1q]), (107, .bool (!(eqInts [0, 0, W1q, H1q] [0, 0, W1q, H1q]))), (108, .bool (!(eqInts [0, 0, W1q, H1q] [0, 0, W1q, H1q])))] (by kernel_rfl) (pok_then (pok_blk (pok_then (pok_then (pok_blk (pok_then pok_body)))))) (by kernel_rfl) rfl rfl (by kernel_rfl) (by kernel_rfl) ?_
     refine drawn_done (by kernel_rfl) ?_
     refine then_normal ?_
     refine cont_recast 108 (.bool (!(eqInts [0, 0, W1q, H1q] [0, 0, W1q, H1q]))) (.bool false) rfl (congrArg Value.bool (by rw [show eqInts [0, 0, W1q, H1q] [0, 0, W1q, H1q] = true from ((eqInts_rect (r := ⟨0, 0, W1q, H1q⟩) (s := ⟨0, 0, W1q, H1q⟩)).trans (decide_eq_true rfl))]; rfl)) ?_
     refine cont_recast 107 (.bool (!(eqInts [0, 0, W1q, H1q] [0, 0, W1q, H1q]))) (.bool false) rfl (congrArg Value.bool (by rw [show eqInts [0, 0, W1q, H1q] [0, 0, W1q, H1q] = true from ((eqInts_rect (r := ⟨0, 0, W1q, H1q⟩) (s := ⟨0, 0, W1q, H1q⟩)).trans (decide_eq_true rfl))]; rfl)) ?_
     refine cont_false rfl ?_
     refine cont_skip ?_
     refine blk_normal ?_
     refine then_normal ?_
     refine cont_region 3 rfl ?_
     refine bS [0, 0] 2 1 [(2, .slice A n cap), (7, .pointer (pB b2)), (8, .pointer (pB b3)), (10, .pointer (pB b33)), (38, iq (i : Int)), (39, .bool true), (42, iq (IntKind.i64.wrap ((i : Int) + 1))), (90, .pointer (pB b3)), (91, iq fr), (92, .pointer (some ⟨b33, 8, none⟩)), (93, iq fr), (94, .bool false), (97, .pointer (pB b3)), (98, iq (ageI w0 fr)), (99, .agg #[iq 0, iq 0, iq W1q, iq H1q, .slice A142 k144 cp145, .slice B146 kB148 cB149, iq w0, iq w1, iq fr]), (100, iq (ageI w0 fr)), (101, .bool false), (104, .pointer (pB b3)), (105, .agg #[iq 0, iq 0, iq W1q, iq H1q]), (106, .agg #[iq 0, iq 0, iq W1q, iq H1q]), (107, .bool false)] ?_
     refine cont_recast 42 (iq (IntKind.i64.wrap ((i : Int) + 1))) (iq ((i : Int) + 1)) rfl (wrapI (by omega) (by omega)) ?_
     refine cont_forget 0 rfl ?_
     refine cont_forget 2 rfl ?_
     refine cont_forget 4 rfl ?_
     refine cont_forget 6 rfl ?_
     refine cont_forget 6 rfl ?_
     refine cont_forget 9 rfl ?_
     refine cont_forget 9 rfl ?_
     refine bS [0] 3 0 [(2, .slice A n cap), (7, .pointer (pB b2)), (8, .pointer (pB b3)), (10, .pointer (pB b33)), (11, iq ((i : Int) + 1)), (38, iq (i : Int)), (39, .bool true), (90, .pointer (pB b3)), (91, iq fr), (92, .pointer (some ⟨b33, 8, none⟩)), (93, iq fr), (94, .bool false), (97, .pointer (pB b3)), (98, iq (ageI w0 fr)), (99, .agg #[iq 0, iq 0, iq W1q, iq H1q, .slice A142 k144 cp145, .slice B146 kB148 cB149, iq w0, iq w1, iq fr]), (100, iq (ageI w0 fr)), (101, .bool false), (104, .pointer (pB b3)), (105, .agg #[iq 0, iq 0, iq W1q, iq H1q]), (106, .agg #[iq 0, iq 0, iq W1q, iq H1q]), (107, .bool false)] ?_
     refine cont_done ?_
     refine then_normal ?_
     refine cont_pick [5, 0, 1, 6, 7, 8, 2, 3, 9, 10, 11] [.cells b33 [iq 0, iq 0, iq W1q, iq H1q, .slice A142 k144 cp145, .slice B146 kB148 cB149, iq w0, iq w1, iq fr] 81 true, .gen (rowE (A142) g143 k144 cp145 28 4 (rvals LQ153) true), .gen (rowE (B146) gB147 kB148 cB149 28 4 (rvals LQ154) true), .cells b3 [.pointer (pB m4), .pointer (pB m17), .slice A91q k93q cp94q, .slice B95q kB97q cB98q, iq w0, iq w1, iq fr, iq 0] 98 true, .cells m4 [iq W1q, iq H1q, .slice (pB r5) n6 n6] 115 true, .gen (rowE (pB r5) r5 n6 n6 54 1 (ivals .u32 (List.replicate n6 0)) true), .gen (rowE (A91q) gA92q k93q cp94q 28 4 (rvals LQ153) true), .gen (rowE (B95q) gB96q kB97q cB98q 28 4 (rvals LQ154) true), .cells b2 [iq 0, iq 0, iq W1q, iq H1q] 28 true, .gen (rdE (A) g o n 7 (dvals Deed18.cells xs)), .gen (subE n (fun i_ => rdE ((dget xs i_).A1) (dget xs i_).g1 (dget xs i_).o1 (dget xs i_).m1 4 (rvals (dget xs i_).x1)))] (by decide) rfl rfl ?_
     refine cont_norm [(2, .slice A n cap), (7, .pointer (pB b2)), (8, .pointer (pB b3)), (10, .pointer (pB b33)), (11, iq ((i : Int) + 1)), (38, iq (i : Int)), (39, .bool true), (90, .pointer (pB b3)), (91, iq fr), (92, .pointer (some ⟨b33, 8, none⟩)), (93, iq fr), (94, .bool false), (97, .pointer (pB b3)), (98, iq (ageI w0 fr)), (99, .agg #[iq 0, iq 0, iq W1q, iq H1q, .slice A142 k144 cp145, .slice B146 kB148 cB149, iq w0, iq w1, iq fr]), (100, iq (ageI w0 fr)), (101, .bool false), (104, .pointer (pB b3)), (105, .agg #[iq 0, iq 0, iq W1q, iq H1q]), (106, .agg #[iq 0, iq 0, iq W1q, iq H1q]), (107, .bool false)] _ (by kernel_rfl) rfl ?_
     refine cont_again ((i + 1 : Nat), 0, w0, w1, fr, LQ153, A91q, gA92q, k93q, cp94q, LQ154, B95q, gB96q, kB97q, cB98q, A142, g143, k144, cp145, B146, gB147, kB148, cB149) (show ((i + 1 : Nat)) ≤ 30 ∧ ((i + 1 : Nat)) ≤ n ∧ (0) ≤ 1 ∧ 0 ≤ (fr) ∧ (fr) ≤ (((i + 1 : Nat)) : Int) ∧ 0 ≤ (w0) ∧ (w0) ≤ (fr) ∧ 0 ≤ (w1) ∧ (w1) ≤ (fr) ∧ (k93q) ≤ 64 ∧ (kB97q) ≤ 64 ∧ (k144) ≤ 64 ∧ (kB148) ≤ 64 from ⟨by omega, by omega, by omega, by omega, by omega, by omega, by omega, by omega, by omega, by omega, by omega, by omega, by omega⟩) (show 40 - ((i + 1 : Nat)) < 40 - i from by omega) (by kernel_rfl) (by kernel_rfl)
    replace c83_ := ne_of_beqf c83_
    refine cont_false rfl ?_
    refine cont_seq ?_
    refine cont_region 2 rfl ?_
    refine bS [0, 0] 2 0 [(2, .slice A n cap), (7, .pointer (pB b2)), (8, .pointer (pB b3)), (10, .pointer (pB b33)), (11, iq (i : Int)), (38, iq (i : Int)), (39, .bool true), (74, .bool (el.x0 == 2))] ?_
    refine cont_done ?_
    refine then_normal ?_
    refine cont_split 74 (el.x0 == 2) rfl (fun c169_ => ?_) (fun c169_ => ?_)
    ·
     replace c169_ := eq_of_beqt c169_
     refine cont_true rfl ?_
     refine cont_seq ?_
     refine cont_region 3 rfl ?_
     refine bS [1] 1 2 [(2, .slice A n cap), (7, .pointer (pB b2)), (8, .pointer (pB b3)), (10, .pointer (pB b33)), (11, iq (i : Int)), (38, iq (i : Int)), (39, .bool true), (76, .agg #[iq 0, iq 0, iq W1q, iq H1q, .slice Au ku cu, .slice Av kv cv, iq w0, iq w1, iq fr])] ?_
     refine pl_step 2 1 rfl rfl ?_
     refine call_pure (d := 77) (.agg #[iq 0, iq 0, iq W1q, iq H1q, .slice Av kv cv, .slice none 0 0, iq w1, iq (fr + 1), iq (fr + 1)]) (by kernel_rfl) (fun w hT => refFlip18 W1q H1q Au ku cu Av kv cv w0 w1 fr w (by omega)) ?_
     refine batch0 [1] 3 0 [(2, .slice A n cap), (7, .pointer (pB b2)), (8, .pointer (pB b3)), (10, .pointer (pB b33)), (11, iq (i : Int)), (38, iq (i : Int)), (39, .bool true)] [.gen (rdE (el.A1) el.g1 el.o1 el.m1 4 (rvals el.x1)), .cells b33 [iq 0, iq 0, iq W1q, iq H1q, .slice Av kv cv, .slice none 0 0, iq w1, iq (fr + 1), iq (fr + 1)] 81 true, .gen (rowE (Au) gu ku cu 28 4 (rvals xs0) true), .gen (rowE (Av) gv kv cv 28 4 (rvals xs1) true), .cells b3 [.pointer (pB m4), .pointer (pB m17), .slice Ax kx cx, .slice Ay ky cy, iq w0, iq w1, iq fr, iq 0] 98 true, .cells m4 [iq W1q, iq H1q, .slice (pB r5) n6 n6] 115 true, .gen (rowE (pB r5) r5 n6 n6 54 1 (ivals .u32 (List.replicate n6 0)) true), .gen (rowE (Ax) gx kx cx 28 4 (rvals xs0) true), .gen (rowE (Ay) gy ky cy 28 4 (rvals xs1) true), .cells b2 [iq 0, iq 0, iq W1q, iq H1q] 28 true, .gen (rdE (A) g o n 7 (dvals Deed18.cells xs)), .gen (subE n (fun i_ => rdE ((dget xs i_).A1) (dget xs i_).g1 (dget xs i_).o1 (dget xs i_).m1 4 (rvals (dget xs i_).x1)))] rfl rfl (by kernel_rfl) (by kernel_rfl) ?_
     refine cont_forget 2 rfl ?_
     refine cont_done ?_
     refine then_normal ?_
     refine cont_seq ?_
     refine drawn_enter 5 [3] rfl (by kernel_rfl) ?_
     refine takes 0 [3] [(0, 0), (2, 0), (3, 1)] 2 [3, 2, 0] [(2, .slice A n cap), (7, .pointer (pB b2)), (8, .pointer (pB b3)), (10, .pointer (pB b33)), (11, iq (i : Int)), (38, iq (i : Int)), (39, .bool true), (78, .pointer (pB b3)), (81, iq (fr + 1))] (by kernel_rfl) (pok_then (pok_blk (pok_then (pok_blk (pok_then (pok_then (pok_blk (pok_then pok_body)))))))) (by kernel_rfl) rfl rfl (by kernel_rfl) (by kernel_rfl) ?_
     refine drawn_one 1 1 rfl (by kernel_rfl) ?_
     refine call_gen (d := 79) (α := Unit) (fun _ => iq (fr + 1)) (fun _ => [.gen (rdE (el.A1) el.g1 el.o1 el.m1 4 (rvals el.x1)), .cells b33 [iq 0, iq 0, iq W1q, iq H1q, .slice Av kv cv, .slice none 0 0, iq w1, iq (fr + 1), iq (fr + 1)] 81 true, .gen (rowE (Av) gv kv cv 28 4 (rvals xs1) true), .cells b3 [.pointer (pB m4), .pointer (pB m17), .slice none 0 0, .slice Ay ky cy, iq (fr + 1), iq w1, iq (fr + 1), iq 1] 98 true, .cells m4 [iq W1q, iq H1q, .slice (pB r5) n6 n6] 115 true, .gen (rowE (pB r5) r5 n6 n6 54 1 (ivals .u32 (List.replicate n6 0)) true), .gen (rowE (Ax) gx kx cx 28 4 (rvals xs0) true), .gen (rowE (Ay) gy ky cy 28 4 (rvals xs1) true), .cells b2 [iq 0, iq 0, iq W1q, iq H1q] 28 true, .gen (rdE (A) g o n 7 (dvals Deed18.cells xs)), .gen (subE n (fun i_ => rdE ((dget xs i_).A1) (dget xs i_).g1 (dget xs i_).o1 (dget xs i_).m1 4 (rvals (dget xs i_).x1)))]) (fun _ => True) (by kernel_rfl) (fun w hT => (outFlip0 b3 m4 m17 Ax Ay kx cx ky cy w0 w1 fr w (hT.view (.cons (i := 3) rfl Vw.rw .nil) (by decide)) (by omega)).mono fun e w' ⟨he_, ht_⟩ => ⟨(), he_, trivial, hT.merge (N := []) (s := [3]) ht_ (.cons (i := 3) rfl Mg.cells .nil) (by decide) (fun i e h => by simp at h)⟩) (fun _ _ => ?_)
     refine drawn_next 0 [3] (by kernel_rfl) ?_
     refine takes 0 [3] [(4, 0)] 0 [4, 1, 3, 2, 0] [(2, .slice A n cap), (7, .pointer (pB b2)), (8, .pointer (pB b3)), (10, .pointer (pB b33)), (11, iq (i : Int)), (38, iq (i : Int)), (39, .bool true), (82, .bool ((fr + 1) != (fr + 1)))] (by kernel_rfl) (pok_then (pok_blk (pok_then (pok_blk (pok_then (pok_then (pok_blk (pok_then pok_body)))))))) (by kernel_rfl) rfl rfl (by kernel_rfl) (by kernel_rfl) ?_
     refine drawn_done (by kernel_rfl) ?_
     refine then_normal ?_
     refine cont_recast 82 (.bool ((fr + 1) != (fr + 1))) (.bool false) rfl (congrArg Value.bool (bne_self_eq_false _)) ?_
     refine cont_false rfl ?_
     refine cont_skip ?_
     refine blk_normal ?_
     refine then_normal ?_
     refine cont_seq ?_
     refine drawn_enter 26 [] rfl (by kernel_rfl) ?_
     refine takes 0 [] [(0, 0), (2, 0), (3, 1)] 23 [3, 2, 0] [(2, .slice A n cap), (7, .pointer (pB b2)), (8, .pointer (pB b3)), (10, .pointer (pB b33)), (11, iq (i : Int)), (38, iq (i : Int)), (39, .bool true), (83, .pointer (pB b3)), (86, .slice Av kv cv)] (by kernel_rfl) (pok_then (pok_blk (pok_then (pok_then (pok_blk (pok_then pok_body)))))) (by kernel_rfl) rfl rfl (by kernel_rfl) (by kernel_rfl) ?_
     refine drawn_one 1 22 rfl (by kernel_rfl) ?_
     refine call_gen (d := 84) (α := Option Addr × Nat × Nat × Nat) (fun x_ => .slice x_.1 x_.2.2.1 x_.2.2.2) (fun x_ => [.gen (rowE (x_.1) x_.2.1 x_.2.2.1 x_.2.2.2 28 4 (rvals xs1) true), .gen (rdE (el.A1) el.g1 el.o1 el.m1 4 (rvals el.x1)), .cells b33 [iq 0, iq 0, iq W1q, iq H1q, .slice Av kv cv, .slice none 0 0, iq w1, iq (fr + 1), iq (fr + 1)] 81 true, .gen (rowE (Av) gv kv cv 28 4 (rvals xs1) true), .cells b3 [.pointer (pB m4), .pointer (pB m17), .slice none 0 0, .slice Ay ky cy, iq (fr + 1), iq w1, iq (fr + 1), iq 1] 98 true, .cells m4 [iq W1q, iq H1q, .slice (pB r5) n6 n6] 115 true, .gen (rowE (pB r5) r5 n6 n6 54 1 (ivals .u32 (List.replicate n6 0)) true), .gen (rowE (Ax) gx kx cx 28 4 (rvals xs0) true), .gen (rowE (Ay) gy ky cy 28 4 (rvals xs1) true), .cells b2 [iq 0, iq 0, iq W1q, iq H1q] 28 true, .gen (rdE (A) g o n 7 (dvals Deed18.cells xs)), .gen (subE n (fun i_ => rdE ((dget xs i_).A1) (dget xs i_).g1 (dget xs i_).o1 (dget xs i_).m1 4 (rvals (dget xs i_).x1)))]) (fun x_ => True) (by kernel_rfl) (fun w hT => (outStale1 b3 m4 m17 none Ay 0 0 ky cy (fr + 1) w1 (fr + 1) gy xs1 w (hT.viewRo (.cons (i := 3) rfl Vw.roc (.cons (i := 7) rfl Vw.rowRd .nil)) rfl) (by omega)).mono fun e w' ⟨A171, g172, k173, cp174, he_, ht_⟩ => ⟨(A171, g172, k173, cp174), he_, trivial, hT.news ht_ rfl⟩) ?_
     rintro ⟨A171, g172, k173, cp174⟩ hf175_
     refine cont_norm [(2, .slice A n cap), (7, .pointer (pB b2)), (8, .pointer (pB b3)), (10, .pointer (pB b33)), (11, iq (i : Int)), (38, iq (i : Int)), (39, .bool true), (83, .pointer (pB b3)), (84, .slice A171 k173 cp174), (86, .slice Av kv cv)] _ (by kernel_rfl) rfl ?_
     refine cont_fact (F := (0 < k173 → (A171 : Option Addr) = pB g172) ∧ xs1.length = k173 ∧ k173 ≤ cp174 ∧ cp174 ≤ maxLen) (fun w hT => Row.factsR (hT.ok 0 _ rfl)) (fun hr176_ => ?_)
     obtain ⟨hr176_a, hr176_l, hr176_c, hr176_m⟩ := hr176_
     unfold maxLen at hr176_m
     refine drawn_next 1 [] (by kernel_rfl) ?_
     refine drawn_one 4 21 rfl (by kernel_rfl) ?_
     refine call_pure (d := 87) (.bool (decide (xs1 = xs1))) (by kernel_rfl) (fun w hT => refSame A171 g172 0 k173 cp174 xs1 Av gv 0 kv cv xs1 w (hT.viewRo (.cons (i := 0) rfl Vw.rowRd (.cons (i := 3) rfl Vw.rowRd .nil)) rfl) (by omega)) ?_
     refine drawn_next 1 [] (by kernel_rfl) ?_
     refine takes 1 [] [(5, 0), (6, 0)] 19 [6, 5, 4, 1, 3, 2, 0] [(2, .slice A n cap), (7, .pointer (pB b2)), (8, .pointer (pB b3)), (10, .pointer (pB b33)), (11, iq (i : Int)), (38, iq (i : Int)), (39, .bool true), (89, .bool (!(decide (xs1 = xs1))))] (by kernel_rfl) (pok_then (pok_blk (pok_then (pok_then (pok_blk (pok_then pok_body)))))) (by kernel_rfl) rfl rfl (by kernel_rfl) (by kernel_rfl) ?_
     refine cont_recast 89 (.bool (!(decide (xs1 = xs1)))) (.bool false) rfl (congrArg Value.bool (by rw [show (decide (xs1 = xs1)) = true from (decide_eq_true rfl)]; rfl)) ?_
     refine takes 1 [] [(7, 0), (9, 0), (10, 1)] 16 [10, 9, 7, 6, 5, 4, 1, 3, 2, 0] [(2, .slice A n cap), (7, .pointer (pB b2)), (8, .pointer (pB b3)), (10, .pointer (pB b33)), (11, iq (i : Int)), (38, iq (i : Int)), (39, .bool true), (89, .bool false), (90, .pointer (pB b3)), (92, .pointer (some ⟨b33, 8, none⟩)), (93, iq (fr + 1))] (by kernel_rfl) (pok_then (pok_blk (pok_then (pok_then (pok_blk (pok_then pok_body)))))) (by kernel_rfl) rfl rfl (by kernel_rfl) (by kernel_rfl) ?_
     refine drawn_one 8 15 rfl (by kernel_rfl) ?_
     refine call_pure (d := 91) (iq (fr + 1)) (by kernel_rfl) (fun w hT => outFrames b3 m4 m17 none Ay 0 0 ky cy (fr + 1) w1 (fr + 1) 1 w (hT.viewRo (.cons (i := 4) rfl Vw.roc .nil) rfl)) ?_
     refine drawn_next 1 [] (by kernel_rfl) ?_
     refine takes 1 [] [(11, 0), (12, 0), (13, 0)] 12 [13, 12, 11, 8, 10, 9, 7, 6, 5, 4, 1, 3, 2, 0] [(2, .slice A n cap), (7, .pointer (pB b2)), (8, .pointer (pB b3)), (10, .pointer (pB b33)), (11, iq (i : Int)), (38, iq (i : Int)), (39, .bool true), (90, .pointer (pB b3)), (91, iq (fr + 1)), (92, .pointer (some ⟨b33, 8, none⟩)), (93, iq (fr + 1)), (94, .bool ((fr + 1) != (fr + 1))), (96, .bool ((fr + 1) != (fr + 1)))] (by kernel_rfl) (pok_then (pok_blk (pok_then (pok_then (pok_blk (pok_then pok_body)))))) (by kernel_rfl) rfl rfl (by kernel_rfl) (by kernel_rfl) ?_
     refine cont_recast 96 (.bool ((fr + 1) != (fr + 1))) (.bool false) rfl (congrArg Value.bool (bne_self_eq_false _)) ?_
     refine cont_recast 94 (.bool ((fr + 1) != (fr + 1))) (.bool false) rfl (congrArg Value.bool (bne_self_eq_false _)) ?_
     refine takes 1 [] [(14, 0), (16, 1)] 10 [16, 14, 13, 12, 11, 8, 10, 9, 7, 6, 5, 4, 1, 3, 2, 0] [(2, .slice A n cap), (7, .pointer (pB b2)), (8, .pointer (pB b3)), (10, .pointer (pB b33)), (11, iq (i : Int)), (38, iq (i : Int)), (39, .bool true), (90, .pointer (pB b3)), (91, iq (fr + 1)), (92, .pointer (some ⟨b33, 8, none⟩)), (93, iq (fr + 1)), (94, .bool false), (96, .bool false), (97, .pointer (pB b3)), (99, .agg #[iq 0, iq 0, iq W1q, iq H1q, .slice Av kv cv, .slice none 0 0, iq w1, iq (fr + 1), iq (fr + 1)])] (by kernel_rfl) (pok_then (pok_blk (pok_then (pok_then (pok_blk (pok_then pok_body)))))) (by kernel_rfl) rfl rfl (by kernel_rfl) (by kernel_rfl) ?_
     refine drawn_one 15 9 rfl (by kernel_rfl) ?_
     refine call_pure (d := 98) (iq (ageI w1 (fr + 1))) (by kernel_rfl) (fun w hT => outAge1 b3 m4 m17 none Ay 0 0 ky cy (fr + 1) w1 (fr + 1) w (hT.viewRo (.cons (i := 4) rfl Vw.roc .nil) rfl) (by omega)) ?_
     refine drawn_next 1 [] (by kernel_rfl) ?_
     refine drawn_one 17 8 rfl (by kernel_rfl) ?_
     refine call_pure (d := 100) (iq (ageI w1 (fr + 1))) (by kernel_rfl) (fun w hT => refAge18 W1q H1q Av kv cv none 0 0 w1 (fr + 1) (fr + 1) w (by omega)) ?_
     refine drawn_next 1 [] (by kernel_rfl) ?_
     refine takes 1 [] [(18, 0), (19, 0), (20, 0)] 5 [20, 19, 18, 17, 15, 16, 14, 13, 12, 11, 8, 10, 9, 7, 6, 5, 4, 1, 3, 2, 0] [(2, .slice A n cap), (7, .pointer (pB b2)), (8, .pointer (pB b3)), (10, .pointer (pB b33)), (11, iq (i : Int)), (38, iq (i : Int)), (39, .bool true), (90, .pointer (pB b3)), (91, iq (fr + 1)), (92, .pointer (some ⟨b33, 8, none⟩)), (93, iq (fr + 1)), (94, .bool false), (97, .pointer (pB b3)), (98, iq (ageI w1 (fr + 1))), (99, .agg #[iq 0, iq 0, iq W1q, iq H1q, .slice Av kv cv, .slice none 0 0, iq w1, iq (fr + 1), iq (fr + 1)]), (100, iq (ageI w1 (fr + 1))), (101, .bool ((ageI w1 (fr + 1)) != (ageI w1 (fr + 1)))), (103, .bool ((ageI w1 (fr + 1)) != (ageI w1 (fr + 1))))] (by kernel_rfl) (pok_then (pok_blk (pok_then (pok_then (pok_blk (pok_then pok_body)))))) (by kernel_rfl) rfl rfl (by kernel_rfl) (by kernel_rfl) ?_
     refine cont_recast 103 (.bool ((ageI w1 (fr + 1)) != (ageI w1 (fr + 1)))) (.bool false) rfl (congrArg Value.bool (bne_self_eq_false _)) ?_
     refine cont_recast 101 (.bool ((ageI w1 (fr + 1)) != (ageI w1 (fr + 1)))) (.bool false) rfl (congrArg Value.bool (bne_self_eq_false _)) ?_
     refine takes 1 [] [(21, 0), (23, 8)] 3 [23, 21, 20, 19, 18, 17, 15, 16, 14, 13, 12, 11, 8, 10, 9, 7, 6, 5, 4, 1, 3, 2, 0] [(2, .slice A n cap), (7, .pointer (pB b2)), (8, .pointer (pB b3)), (10, .pointer (pB b33)), (11, iq (i : Int)), (38, iq (i : Int)), (39, .bool true), (90, .pointer (pB b3)), (91, iq (fr + 1)), (92, .pointer (some ⟨b33, 8, none⟩)), (93, iq (fr + 1)), (94, .bool false), (97, .pointer (pB b3)), (98, iq (ageI w1 (fr + 1))), (99, .agg #[iq 0, iq 0, iq W1q, iq H1q, .slice Av kv cv, .slice none 0 0, iq w1, iq (fr + 1), iq (fr + 1)]), (100, iq (ageI w1 (fr + 1))), (101, .bool false), (103, .bool false), (104, .pointer (pB b3)), (106, .agg #[iq 0, iq 0, iq W1q, iq H1q])] (by kernel_rfl) (pok_then (pok_blk (pok_then (pok_then (pok_blk (pok_then pok_body)))))) (by kernel_rfl) rfl rfl (by kernel_rfl) (by kernel_rfl) ?_
     refine drawn_one 22 2 rfl (by kernel_rfl) ?_
     refine call_pure (d := 105) (.agg #[iq 0, iq 0, iq W1q, iq H1q]) (by kernel_rfl) (fun w hT => outBox b3 m4 m17 none Ay 0 0 ky cy (fr + 1) w1 (fr + 1) 1 W1q H1q r5 n6 n6 (List.replicate n6 0) w (hT.viewRo (.cons (i := 4) rfl Vw.roc (.cons (i := 5) rfl Vw.roc (.cons (i := 6) rfl Vw.rowRd .nil))) rfl) (by omega) (imgOk_new (by omega) hf18_a)) ?_
     refine drawn_next 1 [] (by kernel_rfl) ?_
     refine sem_take 1 [] 24 1 107 (bopS .neq 28 (.tmp 105) (.tmp 106) (.agg #[iq 0, iq 0, iq W1q, iq H1q]) (.agg #[iq 0, iq 0, iq W1q, iq H1q])) (.bool (!(eqInts [0, 0, W1q, H1q] [0, 0, W1q, H1q]))) (by kernel_rfl) (pok_then (pok_blk (pok_then (pok_then (pok_blk (pok_then pok_body)))))) (by kernel_rfl) rfl (by kernel_rfl) (by kernel_rfl) (fun w hT => run_neS [0, 0, W1q, H1q] [0, 0, W1q, H1q] (by kernel_rfl) (by kernel_rfl) (by kernel_rfl) (by kernel_rfl) rfl rfl w) ?_
     refine takes 1 [] [(25, 0)] 0 [25, 24, 22, 23, 21, 20, 19, 18, 17, 15, 16, 14, 13, 12, 11, 8, 10, 9, 7, 6, 5, 4, 1, 3, 2, 0] [(2, .slice A n cap), (7, .pointer (pB b2)), (8, .pointer (pB b3)), (10, .pointer (pB b33)), (11, iq (i : Int)), (38, iq (i : Int)), (39, .bool true), (90, .pointer (pB b3)), (91, iq (fr + 1)), (92, .pointer (some ⟨b33, 8, none⟩)), (93, iq (fr + 1)), (94, .bool false), (97, .pointer (pB b3)), (98, iq (ageI w1 (fr + 1))), (99, .agg #[iq 0, iq 0, iq W1q, iq H1q, .slice Av kv cv, .slice none 0 0, iq w1, iq (fr + 1), iq (fr + 1)]), (100, iq (ageI w1 (fr + 1))), (101, .bool false), (104, .pointer (pB b3)), (105, .agg #[iq 0, iq 0, iq W1q, iq H1q]), (106, .agg #[iq 0, iq 0, iq W1q, iq H1q]), (107, .bool (!(eqInts [0, 0, W1q, H1q] [0, 0, W1q, H1q]))), (108, .bool (!(eqInts [0, 0, W1q, H1q] [0, 0, W1q, H1q])))] (by kernel_rfl) (pok_then (pok_blk (pok_then (pok_then (pok_blk (pok_then pok_body)))))) (by kernel_rfl) rfl rfl (by kernel_rfl) (by kernel_rfl) ?_
     refine drawn_done (by kernel_rfl) ?_
     refine then_normal ?_
     refine cont_recast 108 (.bool (!(eqInts [0, 0, W1q, H1q] [0, 0, W1q, H1q]))) (.bool false) rfl (congrArg Value.bool (by rw [show eqInts [0, 0, W1q, H1q] [0, 0, W1q, H1q] = true from ((eqInts_rect (r := ⟨0, 0, W1q, H1q⟩) (s := ⟨0, 0, W1q, H1q⟩)).trans (decide_eq_true rfl))]; rfl)) ?_
     refine cont_recast 107 (.bool (!(eqInts [0, 0, W1q, H1q] [0, 0, W1q, H1q]))) (.bool false) rfl (congrArg Value.bool (by rw [show eqInts [0, 0, W1q, H1q] [0, 0, W1q, H1q] = true from ((eqInts_rect (r := ⟨0, 0, W1q, H1q⟩) (s := ⟨0, 0, W1q, H1q⟩)).trans (decide_eq_true rfl))]; rfl)) ?_
     refine cont_false rfl ?_
     refine cont_skip ?_
     refine blk_normal ?_
     refine then_normal ?_
     refine cont_region 3 rfl ?_
     refine bS [0, 0] 2 1 [(2, .slice A n cap), (7, .pointer (pB b2)), (8, .pointer (pB b3)), (10, .pointer (pB b33)), (38, iq (i : Int)), (39, .bool true), (42, iq (IntKind.i64.wrap ((i : Int) + 1))), (90, .pointer (pB b3)), (91, iq (fr + 1)), (92, .pointer (some ⟨b33, 8, none⟩)), (93, iq (fr + 1)), (94, .bool false), (97, .pointer (pB b3)), (98, iq (ageI w1 (fr + 1))), (99, .agg #[iq 0, iq 0, iq W1q, iq H1q, .slice Av kv cv, .slice none 0 0, iq w1, iq (fr + 1), iq (fr + 1)]), (100, iq (ageI w1 (fr + 1))), (101, .bool false), (104, .pointer (pB b3)), (105, .agg #[iq 0, iq 0, iq W1q, iq H1q]), (106, .agg #[iq 0, iq 0, iq W1q, iq H1q]), (107, .bool false)] ?_
     refine cont_recast 42 (iq (IntKind.i64.wrap ((i : Int) + 1))) (iq ((i : Int) + 1)) rfl (wrapI (by omega) (by omega)) ?_
     refine cont_forget 0 rfl ?_
     refine cont_forget 6 rfl ?_
     refine bS [0] 3 0 [(2, .slice A n cap), (7, .pointer (pB b2)), (8, .pointer (pB b3)), (10, .pointer (pB b33)), (11, iq ((i : Int) + 1)), (38, iq (i : Int)), (39, .bool true), (90, .pointer (pB b3)), (91, iq (fr + 1)), (92, .pointer (some ⟨b33, 8, none⟩)), (93, iq (fr + 1)), (94, .bool false), (97, .pointer (pB b3)), (98, iq (ageI w1 (fr + 1))), (99, .agg #[iq 0, iq 0, iq W1q, iq H1q, .slice Av kv cv, .slice none 0 0, iq w1, iq (fr + 1), iq (fr + 1)]), (100, iq (ageI w1 (fr + 1))), (101, .bool false), (104, .pointer (pB b3)), (105, .agg #[iq 0, iq 0, iq W1q, iq H1q]), (106, .agg #[iq 0, iq 0, iq W1q, iq H1q]), (107, .bool false)] ?_
     refine cont_done ?_
     refine then_normal ?_
     refine cont_nilrow 28 4 ?_
     refine cont_norm [(2, .slice A n cap), (7, .pointer (pB b2)), (8, .pointer (pB b3)), (10, .pointer (pB b33)), (11, iq ((i : Int) + 1)), (38, iq (i : Int)), (39, .bool true), (90, .pointer (pB b3)), (91, iq (fr + 1)), (92, .pointer (some ⟨b33, 8, none⟩)), (93, iq (fr + 1)), (94, .bool false), (97, .pointer (pB b3)), (98, iq (ageI w1 (fr + 1))), (99, .agg #[iq 0, iq 0, iq W1q, iq H1q, .slice Av kv cv, .slice none 0 0, iq w1, iq (fr + 1), iq (fr + 1)]), (100, iq (ageI w1 (fr + 1))), (101, .bool false), (104, .pointer (pB b3)), (105, .agg #[iq 0, iq 0, iq W1q, iq H1q]), (106, .agg #[iq 0, iq 0, iq W1q, iq H1q]), (107, .bool false)] _ (by kernel_rfl) rfl ?_
     refine cont_nilrow 28 4 ?_
     refine cont_norm [(2, .slice A n cap), (7, .pointer (pB b2)), (8, .pointer (pB b3)), (10, .pointer (pB b33)), (11, iq ((i : Int) + 1)), (38, iq (i : Int)), (39, .bool true), (90, .pointer (pB b3)), (91, iq (fr + 1)), (92, .pointer (some ⟨b33, 8, none⟩)), (93, iq (fr + 1)), (94, .bool false), (97, .pointer (pB b3)), (98, iq (ageI w1 (fr + 1))), (99, .agg #[iq 0, iq 0, iq W1q, iq H1q, .slice Av kv cv, .slice none 0 0, iq w1, iq (fr + 1), iq (fr + 1)]), (100, iq (ageI w1 (fr + 1))), (101, .bool false), (104, .pointer (pB b3)), (105, .agg #[iq 0, iq 0, iq W1q, iq H1q]), (106, .agg #[iq 0, iq 0, iq W1q, iq H1q]), (107, .bool false)] _ (by kernel_rfl) rfl ?_
     refine cont_pick [3, 4, 0, 5, 6, 7, 1, 8, 9, 10, 11] [.cells b33 [iq 0, iq 0, iq W1q, iq H1q, .slice Av kv cv, .slice none 0 0, iq w1, iq (fr + 1), iq (fr + 1)] 81 true, .gen (rowE (Av) gv kv cv 28 4 (rvals xs1) true), .gen (rowE (none) 0 0 0 28 4 (rvals []) true), .cells b3 [.pointer (pB m4), .pointer (pB m17), .slice none 0 0, .slice Ay ky cy, iq (fr + 1), iq w1, iq (fr + 1), iq 1] 98 true, .cells m4 [iq W1q, iq H1q, .slice (pB r5) n6 n6] 115 true, .gen (rowE (pB r5) r5 n6 n6 54 1 (ivals .u32 (List.replicate n6 0)) true), .gen (rowE (none) 0 0 0 28 4 (rvals []) true), .gen (rowE (Ay) gy ky cy 28 4 (rvals xs1) true), .cells b2 [iq 0, iq 0, iq W1q, iq H1q] 28 true, .gen (rdE (A) g o n 7 (dvals Deed18.cells xs)), .gen (subE n (fun i_ => rdE ((dget xs i_).A1) (dget xs i_).g1 (dget xs i_).o1 (dget xs i_).m1 4 (rvals (dget xs i_).x1)))] (by decide) rfl rfl ?_
     refine cont_norm [(2, .slice A n cap), (7, .pointer (pB b2)), (8, .pointer (pB b3)), (10, .pointer (pB b33)), (11, iq ((i : Int) + 1)), (38, iq (i : Int)), (39, .bool true), (90, .pointer (pB b3)), (91, iq (fr + 1)), (92, .pointer (some ⟨b33, 8, none⟩)), (93, iq (fr + 1)), (94, .bool false), (97, .pointer (pB b3)), (98, iq (ageI w1 (fr + 1))), (99, .agg #[iq 0, iq 0, iq W1q, iq H1q, .slice Av kv cv, .slice none 0 0, iq w1, iq (fr + 1), iq (fr + 1)]), (100, iq (ageI w1 (fr + 1))), (101, .bool false), (104, .pointer (pB b3)), (105, .agg #[iq 0, iq 0, iq W1q, iq H1q]), (106, .agg #[iq 0, iq 0, iq W1q, iq H1q]), (107, .bool false)] _ (by kernel_rfl) rfl ?_
     refine cont_again ((i + 1 : Nat), 1, fr + 1, w1, fr + 1, ([] : List Rect), none, 0, 0, 0, xs1, Ay, gy, ky, cy, Av, gv, kv, cv, none, 0, 0, 0) (show ((i + 1 : Nat)) ≤ 30 ∧ ((i + 1 : Nat)) ≤ n ∧ (1) ≤ 1 ∧ 0 ≤ (fr + 1) ∧ (fr + 1) ≤ (((i + 1 : Nat)) : Int) ∧ 0 ≤ (fr + 1) ∧ (fr + 1) ≤ (fr + 1) ∧ 0 ≤ (w1) ∧ (w1) ≤ (fr + 1) ∧ (0) ≤ 64 ∧ (ky) ≤ 64 ∧ (kv) ≤ 64 ∧ (0) ≤ 64 from ⟨by omega, by omega, by omega, by omega, by omega, by omega, by omega, by omega, by omega, by omega, by omega, by omega, by omega⟩) (show 40 - ((i + 1 : Nat)) < 40 - i from by omega) (by kernel_rfl) (by kernel_rfl)
    replace c169_ := ne_of_beqf c169_
    refine cont_false rfl ?_
    refine cont_skip ?_
    refine blk_normal ?_
    refine then_normal ?_
    refine cont_seq ?_
    refine drawn_enter 26 [] rfl (by kernel_rfl) ?_
    refine takes 0 [] [(0, 0), (2, 0), (3, 1)] 23 [3, 2, 0] [(2, .slice A n cap), (7, .pointer (pB b2)), (8, .pointer (pB b3)), (10, .pointer (pB b33)), (11, iq (i : Int)), (38, iq (i : Int)), (39, .bool true), (83, .pointer (pB b3)), (86, .slice Au ku cu)] (by kernel_rfl) (pok_then (pok_blk (pok_then (pok_then (pok_blk (pok_then pok_body)))))) (by kernel_rfl) rfl rfl (by kernel_rfl) (by kernel_rfl) ?_
    refine drawn_one 1 22 rfl (by kernel_rfl) ?_
    refine call_gen (d := 84) (α := Option Addr × Nat × Nat × Nat) (fun x_ => .slice x_.1 x_.2.2.1 x_.2.2.2) (fun x_ => [.gen (rowE (x_.1) x_.2.1 x_.2.2.1 x_.2.2.2 28 4 (rvals xs0) true), .gen (rdE (el.A1) el.g1 el.o1 el.m1 4 (rvals el.x1)), .cells b33 [iq 0, iq 0, iq W1q, iq H1q, .slice Au ku cu, .slice Av kv cv, iq w0, iq w1, iq fr] 81 true, .gen (rowE (Au) gu ku cu 28 4 (rvals xs0) true), .gen (rowE (Av) gv kv cv 28 4 (rvals xs1) true), .cells b3 [.pointer (pB m4), .pointer (pB m17), .slice Ax kx cx, .slice Ay ky cy, iq w0, iq w1, iq fr, iq 0] 98 true, .cells m4 [iq W1q, iq H1q, .slice (pB r5) n6 n6] 115 true, .gen (rowE (pB r5) r5 n6 n6 54 1 (ivals .u32 (List.replicate n6 0)) true), .gen (rowE (Ax) gx kx cx 28 4 (rvals xs0) true), .gen (rowE (Ay) gy ky cy 28 4 (rvals xs1) true), .cells b2 [iq 0, iq 0, iq W1q, iq H1q] 28 true, .gen (rdE (A) g o n 7 (dvals Deed18.cells xs)), .gen (subE n (fun i_ => rdE ((dget xs i_).A1) (dget xs i_).g1 (dget xs i_).o1 (dget xs i_).m1 4 (rvals (dget xs i_).x1)))]) (fun x_ => True) (by kernel_rfl) (fun w hT => (outStale0 b3 m4 m17 Ax Ay kx cx ky cy w0 w1 fr gx xs0 w (hT.viewRo (.cons (i := 4) rfl Vw.roc (.cons (i := 7) rfl Vw.rowRd .nil)) rfl) (by omega)).mono fun e w' ⟨A183, g184, k185, cp186, he_, ht_⟩ => ⟨(A183, g184, k185, cp186), he_, trivial, hT.news ht_ rfl⟩) ?_
    rintro ⟨A183, g184, k185, cp186⟩ hf187_
    refine cont_norm [(2, .slice A n cap), (7, .pointer (pB b2)), (8, .pointer (pB b3)), (10, .pointer (pB b33)), (11, iq (i : Int)), (38, iq (i : Int)), (39, .bool true), (83, .pointer (pB b3)), (84, .slice A183 k185 cp186), (86, .slice Au ku cu)] _ (by kernel_rfl) rfl ?_
    refine cont_fact (F := (0 < k185 → (A183 : Option Addr) = pB g184) ∧ xs0.length = k185 ∧ k185 ≤ cp186 ∧ cp186 ≤ maxLen) (fun w hT => Row.factsR (hT.ok 0 _ rfl)) (fun hr188_ => ?_)
    obtain ⟨hr188_a, hr188_l, hr188_c, hr188_m⟩ := hr188_
    unfold maxLen at hr188_m
    refine drawn_next 1 [] (by kernel_rfl) ?_
    refine drawn_one 4 21 rfl (by kernel_rfl) ?_
    refine call_pure (d := 87) (.bool (decide (xs0 = xs0))) (by kernel_rfl) (fun w hT => refSame A183 g184 0 k185 cp186 xs0 Au gu 0 ku cu xs0 w (hT.viewRo (.cons (i := 0) rfl Vw.rowRd (.cons (i := 3) rfl Vw.rowRd .nil)) rfl) (by omega)) ?_
    refine drawn_next 1 [] (by kernel_rfl) ?_
    refine takes 1 [] [(5, 0), (6, 0)] 19 [6, 5, 4, 1, 3, 2, 0] [(2, .slice A n cap), (7, .pointer (pB b2)), (8, .pointer (pB b3)), (10, .pointer (pB b33)), (11, iq (i : Int)), (38, iq (i : Int)), (39, .bool true), (89, .bool (!(decide (xs0 = xs0))))] (by kernel_rfl) (pok_then (pok_blk (pok_then (pok_then (pok_blk (pok_then pok_body)))))) (by kernel_rfl) rfl rfl (by kernel_rfl) (by kernel_rfl) ?_
    refine cont_recast 89 (.bool (!(decide (xs0 = xs0)))) (.bool false) rfl (congrArg Value.bool (by rw [show (decide (xs0 = xs0)) = true from (decide_eq_true rfl)]; rfl)) ?_
    refine takes 1 [] [(7, 0), (9, 0), (10, 1)] 16 [10, 9, 7, 6, 5, 4, 1, 3, 2, 0] [(2, .slice A n cap), (7, .pointer (pB b2)), (8, .pointer (pB b3)), (10, .pointer (pB b33)), (11, iq (i : Int)), (38, iq (i : Int)), (39, .bool true), (89, .bool false), (90, .pointer (pB b3)), (92, .pointer (some ⟨b33, 8, none⟩)), (93, iq fr)] (by kernel_rfl) (pok_then (pok_blk (pok_then (pok_then (pok_blk (pok_then pok_body)))))) (by kernel_rfl) rfl rfl (by kernel_rfl) (by kernel_rfl) ?_
    refine drawn_one 8 15 rfl (by kernel_rfl) ?_
    refine call_pure (d := 91) (iq fr) (by kernel_rfl) (fun w hT => outFrames b3 m4 m17 Ax Ay kx cx ky cy w0 w1 fr 0 w (hT.viewRo (.cons (i := 5) rfl Vw.roc .nil) rfl)) ?_
    refine drawn_next 1 [] (by kernel_rfl) ?_
    refine takes 1 [] [(11, 0), (12, 0), (13, 0)] 12 [13, 12, 11, 8, 10, 9, 7, 6, 5, 4, 1, 3, 2, 0] [(2, .slice A n cap), (7, .pointer (pB b2)), (8, .pointer (pB b3)), (10, .pointer (pB b33)), (11, iq (i : Int)), (38, iq (i : Int)), (39, .bool true), (90, .pointer (pB b3)), (91, iq fr), (92, .pointer (some ⟨b33, 8, none⟩)), (93, iq fr), (94, .bool (fr != fr)), (96, .bool (fr != fr))] (by kernel_rfl) (pok_then (pok_blk (pok_then (pok_then (pok_blk (pok_then pok_body)))))) (by kernel_rfl) rfl rfl (by kernel_rfl) (by kernel_rfl) ?_
    refine cont_recast 96 (.bool (fr != fr)) (.bool false) rfl (congrArg Value.bool (bne_self_eq_false _)) ?_
    refine cont_recast 94 (.bool (fr != fr)) (.bool false) rfl (congrArg Value.bool (bne_self_eq_false _)) ?_
    refine takes 1 [] [(14, 0), (16, 1)] 10 [16, 14, 13, 12, 11, 8, 10, 9, 7, 6, 5, 4, 1, 3, 2, 0] [(2, .slice A n cap), (7, .pointer (pB b2)), (8, .pointer (pB b3)), (10, .pointer (pB b33)), (11, iq (i : Int)), (38, iq (i : Int)), (39, .bool true), (90, .pointer (pB b3)), (91, iq fr), (92, .pointer (some ⟨b33, 8, none⟩)), (93, iq fr), (94, .bool false), (96, .bool false), (97, .pointer (pB b3)), (99, .agg #[iq 0, iq 0, iq W1q, iq H1q, .slice Au ku cu, .slice Av kv cv, iq w0, iq w1, iq fr])] (by kernel_rfl) (pok_then (pok_blk (pok_then (pok_then (pok_blk (pok_then pok_body)))))) (by kernel_rfl) rfl rfl (by kernel_rfl) (by kernel_rfl) ?_
    refine drawn_one 15 9 rfl (by kernel_rfl) ?_
    refine call_pure (d := 98) (iq (ageI w0 fr)) (by kernel_rfl) (fun w hT => outAge0 b3 m4 m17 Ax Ay kx cx ky cy w0 w1 fr w (hT.viewRo (.cons (i := 5) rfl Vw.roc .nil) rfl) (by omega)) ?_
    refine drawn_next 1 [] (by kernel_rfl) ?_
    refine drawn_one 17 8 rfl (by kernel_rfl) ?_
    refine call_pure (d := 100) (iq (ageI w0 fr)) (by kernel_rfl) (fun w hT => refAge18 W1q H1q Au ku cu Av kv cv w0 w1 fr w (by omega)) ?_
    refine drawn_next 1 [] (by kernel_rfl) ?_
    refine takes 1 [] [(18, 0), (19, 0), (20, 0)] 5 [20, 19, 18, 17, 15, 16, 14, 13, 12, 11, 8, 10, 9, 7, 6, 5, 4, 1, 3, 2, 0] [(2, .slice A n cap), (7, .pointer (pB b2)), (8, .pointer (pB b3)), (10, .pointer (pB b33)), (11, iq (i : Int)), (38, iq (i : Int)), (39, .bool true), (90, .pointer (pB b3)), (91, iq fr), (92, .pointer (some ⟨b33, 8, none⟩)), (93, iq fr), (94, .bool false), (97, .pointer (pB b3)), (98, iq (ageI w0 fr)), (99, .agg #[iq 0, iq 0, iq W1q, iq H1q, .slice Au ku cu, .slice Av kv cv, iq w0, iq w1, iq fr]), (100, iq (ageI w0 fr)), (101, .bool ((ageI w0 fr) != (ageI w0 fr))), (103, .bool ((ageI w0 fr) != (ageI w0 fr)))] (by kernel_rfl) (pok_then (pok_blk (pok_then (pok_then (pok_blk (pok_then pok_body)))))) (by kernel_rfl) rfl rfl (by kernel_rfl) (by kernel_rfl) ?_
    refine cont_recast 103 (.bool ((ageI w0 fr) != (ageI w0 fr))) (.bool false) rfl (congrArg Value.bool (bne_self_eq_false _)) ?_
    refine cont_recast 101 (.bool ((ageI w0 fr) != (ageI w0 fr))) (.bool false) rfl (congrArg Value.bool (bne_self_eq_false _)) ?_
    refine takes 1 [] [(21, 0), (23, 9)] 3 [23, 21, 20, 19, 18, 17, 15, 16, 14, 13, 12, 11, 8, 10, 9, 7, 6, 5, 4, 1, 3, 2, 0] [(2, .slice A n cap), (7, .pointer (pB b2)), (8, .pointer (pB b3)), (10, .pointer (pB b33)), (11, iq (i : Int)), (38, iq (i : Int)), (39, .bool true), (90, .pointer (pB b3)), (91, iq fr), (92, .pointer (some ⟨b33, 8, none⟩)), (93, iq fr), (94, .bool false), (97, .pointer (pB b3)), (98, iq (ageI w0 fr)), (99, .agg #[iq 0, iq 0, iq W1q, iq H1q, .slice Au ku cu, .slice Av kv cv, iq w0, iq w1, iq fr]), (100, iq (ageI w0 fr)), (101, .bool false), (103, .bool false), (104, .pointer (pB b3)), (106, .agg #[iq 0, iq 0, iq W1q, iq H1q])] (by kernel_rfl) (pok_then (pok_blk (pok_then (pok_then (pok_blk (pok_then pok_body)))))) (by kernel_rfl) rfl rfl (by kernel_rfl) (by kernel_rfl) ?_
    refine drawn_one 22 2 rfl (by kernel_rfl) ?_
    refine call_pure (d := 105) (.agg #[iq 0, iq 0, iq W1q, iq H1q]) (by kernel_rfl) (fun w hT => outBox b3 m4 m17 Ax Ay kx cx ky cy w0 w1 fr 0 W1q H1q r5 n6 n6 (List.replicate n6 0) w (hT.viewRo (.cons (i := 5) rfl Vw.roc (.cons (i := 6) rfl Vw.roc (.cons (i := 7) rfl Vw.rowRd .nil))) rfl) (by omega) (imgOk_new (by omega) hf18_a)) ?_
    refine drawn_next 1 [] (by kernel_rfl) ?_
    refine sem_take 1 [] 24 1 107 (bopS .neq 28 (.tmp 105) (.tmp 106) (.agg #[iq 0, iq 0, iq W1q, iq H1q]) (.agg #[iq 0, iq 0, iq W1q, iq H1q])) (.bool (!(eqInts [0, 0, W1q, H1q] [0, 0, W1q, H1q]))) (by kernel_rfl) (pok_then (pok_blk (pok_then (pok_then (pok_blk (pok_then pok_body)))))) (by kernel_rfl) rfl (by kernel_rfl) (by kernel_rfl) (fun w hT => run_neS [0, 0, W1q, H1q] [0, 0, W1q, H1q] (by kernel_rfl) (by kernel_rfl) (by kernel_rfl) (by kernel_rfl) rfl rfl w) ?_
    refine takes 1 [] [(25, 0)] 0 [25, 24, 22, 23, 21, 20, 19, 18, 17, 15, 16, 14, 13, 12, 11, 8, 10, 9, 7, 6, 5, 4, 1, 3, 2, 0] [(2, .slice A n cap), (7, .pointer (pB b2)), (8, .pointer (pB b3)), (10, .pointer (pB b33)), (11, iq (i : Int)), (38, iq (i : Int)), (39, .bool true), (90, .pointer (pB b3)), (91, iq fr), (92, .pointer (some ⟨b33, 8, none⟩)), (93, iq fr), (94, .bool false), (97, .pointer (pB b3)), (98, iq (ageI w0 fr)), (99, .agg #[iq 0, iq 0, iq W1q, iq H1q, .slice Au ku cu, .slice Av kv cv, iq w0, iq w1, iq fr]), (100, iq (ageI w0 fr)), (101, .bool false), (104, .pointer (pB b3)), (105, .agg #[iq 0, iq 0, iq W1q, iq H1q]), (106, .agg #[iq 0, iq 0, iq W1q, iq H1q]), (107, .bool (!(eqInts [0, 0, W1q, H1q] [0, 0, W1q, H1q]))), (108, .bool (!(eqInts [0, 0, W1q, H1q] [0, 0, W1q, H1q])))] (by kernel_rfl) (pok_then (pok_blk (pok_then (pok_then (pok_blk (pok_then pok_body)))))) (by kernel_rfl) rfl rfl (by kernel_rfl) (by kernel_rfl) ?_
    refine drawn_done (by kernel_rfl) ?_
    refine then_normal ?_
    refine cont_recast 108 (.bool (!(eqInts [0, 0, W1q, H1q] [0, 0, W1q, H1q]))) (.bool false) rfl (congrArg Value.bool (by rw [show eqInts [0, 0, W1q, H1q] [0, 0, W1q, H1q] = true from ((eqInts_rect (r := ⟨0, 0, W1q, H1q⟩) (s := ⟨0, 0, W1q, H1q⟩)).trans (decide_eq_true rfl))]; rfl)) ?_
    refine cont_recast 107 (.bool (!(eqInts [0, 0, W1q, H1q] [0, 0, W1q, H1q]))) (.bool false) rfl (congrArg Value.bool (by rw [show eqInts [0, 0, W1q, H1q] [0, 0, W1q, H1q] = true from ((eqInts_rect (r := ⟨0, 0, W1q, H1q⟩) (s := ⟨0, 0, W1q, H1q⟩)).trans (decide_eq_true rfl))]; rfl)) ?_
    refine cont_false rfl ?_
    refine cont_skip ?_
    refine blk_normal ?_
    refine then_normal ?_
    refine cont_region 3 rfl ?_
    refine bS [0, 0] 2 1 [(2, .slice A n cap), (7, .pointer (pB b2)), (8, .pointer (pB b3)), (10, .pointer (pB b33)), (38, iq (i : Int)), (39, .bool true), (42, iq (IntKind.i64.wrap ((i : Int) + 1))), (90, .pointer (pB b3)), (91, iq fr), (92, .pointer (some ⟨b33, 8, none⟩)), (93, iq fr), (94, .bool false), (97, .pointer (pB b3)), (98, iq (ageI w0 fr)), (99, .agg #[iq 0, iq 0, iq W1q, iq H1q, .slice Au ku cu, .slice Av kv cv, iq w0, iq w1, iq fr]), (100, iq (ageI w0 fr)), (101, .bool false), (104, .pointer (pB b3)), (105, .agg #[iq 0, iq 0, iq W1q, iq H1q]), (106, .agg #[iq 0, iq 0, iq W1q, iq H1q]), (107, .bool false)] ?_
    refine cont_recast 42 (iq (IntKind.i64.wrap ((i : Int) + 1))) (iq ((i : Int) + 1)) rfl (wrapI (by omega) (by omega)) ?_
    refine cont_forget 0 rfl ?_
    refine bS [0] 3 0 [(2, .slice A n cap), (7, .pointer (pB b2)), (8, .pointer (pB b3)), (10, .pointer (pB b33)), (11, iq ((i : Int) + 1)), (38, iq (i : Int)), (39, .bool true), (90, .pointer (pB b3)), (91, iq fr), (92, .pointer (some ⟨b33, 8, none⟩)), (93, iq fr), (94, .bool false), (97, .pointer (pB b3)), (98, iq (ageI w0 fr)), (99, .agg #[iq 0, iq 0, iq W1q, iq H1q, .slice Au ku cu, .slice Av kv cv, iq w0, iq w1, iq fr]), (100, iq (ageI w0 fr)), (101, .bool false), (104, .pointer (pB b3)), (105, .agg #[iq 0, iq 0, iq W1q, iq H1q]), (106, .agg #[iq 0, iq 0, iq W1q, iq H1q]), (107, .bool false)] ?_
    refine cont_done ?_
    refine then_normal ?_
    refine cont_pick [1, 2, 3, 4, 5, 6, 7, 8, 9, 10, 11] [.cells b33 [iq 0, iq 0, iq W1q, iq H1q, .slice Au ku cu, .slice Av kv cv, iq w0, iq w1, iq fr] 81 true, .gen (rowE (Au) gu ku cu 28 4 (rvals xs0) true), .gen (rowE (Av) gv kv cv 28 4 (rvals xs1) true), .cells b3 [.pointer (pB m4), .pointer (pB m17), .slice Ax kx cx, .slice Ay ky cy, iq w0, iq w1, iq fr, iq 0] 98 true, .cells m4 [iq W1q, iq H1q, .slice (pB r5) n6 n6] 115 true, .gen (rowE (pB r5) r5 n6 n6 54 1 (ivals .u32 (List.replicate n6 0)) true), .gen (rowE (Ax) gx kx cx 28 4 (rvals xs0) true), .gen (rowE (Ay) gy ky cy 28 4 (rvals xs1) true), .cells b2 [iq 0, iq 0, iq W1q, iq H1q] 28 true, .gen (rdE (A) g o n 7 (dvals Deed18.cells xs)), .gen (subE n (fun i_ => rdE ((dget xs i_).A1) (dget xs i_).g1 (dget xs i_).o1 (dget xs i_).m1 4 (rvals (dget xs i_).x1)))] (by decide) rfl rfl ?_
    refine cont_norm [(2, .slice A n cap), (7, .pointer (pB b2)), (8, .pointer (pB b3)), (10, .pointer (pB b33)), (11, iq ((i : Int) + 1)), (38, iq (i : Int)), (39, .bool true), (90, .pointer (pB b3)), (91, iq fr), (92, .pointer (some ⟨b33, 8, none⟩)), (93, iq fr), (94, .bool false), (97, .pointer (pB b3)), (98, iq (ageI w0 fr)), (99, .agg #[iq 0, iq 0, iq W1q, iq H1q, .slice Au ku cu, .slice Av kv cv, iq w0, iq w1, iq fr]), (100, iq (ageI w0 fr)), (101, .bool false), (104, .pointer (pB b3)), (105, .agg #[iq 0, iq 0, iq W1q, iq H1q]), (106, .agg #[iq 0, iq 0, iq W1q, iq H1q]), (107, .bool false)] _ (by kernel_rfl) rfl ?_
    refine cont_again ((i + 1 : Nat), 0, w0, w1, fr, xs0, Ax, gx, kx, cx, xs1, Ay, gy, ky, cy, Au, gu, ku, cu, Av, gv, kv, cv) (show ((i + 1 : Nat)) ≤ 30 ∧ ((i + 1 : Nat)) ≤ n ∧ (0) ≤ 1 ∧ 0 ≤ (fr) ∧ (fr) ≤ (((i + 1 : Nat)) : Int) ∧ 0 ≤ (w0) ∧ (w0) ≤ (fr) ∧ 0 ≤ (w1) ∧ (w1) ≤ (fr) ∧ (kx) ≤ 64 ∧ (ky) ≤ 64 ∧ (ku) ≤ 64 ∧ (kv) ≤ 64 from ⟨by omega, by omega, by omega, by omega, by omega, by omega, by omega, by omega, by omega, by omega, by omega, by omega, by omega⟩) (show 40 - ((i + 1 : Nat)) < 40 - i from by omega) (by kernel_rfl) (by kernel_rfl)
   refine cont_recast 39 (.bool (decide ((i : Int) < 30))) (.bool false) rfl (congrArg Value.bool c42_) ?_
   replace c42_ := of_decide_eq_false c42_
   refine cont_false rfl ?_
   refine cont_exit ?_
   refine then_exit ?_
   refine then_exit ?_
   refine blk_exit ?_
   refine then_normal ?_
   refine cont_seq ?_
   refine cont_region 2 rfl ?_
   refine pl_step 1 1 rfl rfl ?_
   refine call_pure (d := 109) (.bool true) (by kernel_rfl) (fun w hT => lives18  w) ?_
   refine bS [0] 2 0 [(6, .bool true)] ?_
   refine cont_forget 0 rfl ?_
   refine cont_forget 0 rfl ?_
   refine cont_forget 0 rfl ?_
   refine cont_forget 0 rfl ?_
   refine cont_forget 0 rfl ?_
   refine cont_forget 1 rfl ?_
   refine cont_forget 1 rfl ?_
   refine cont_forget 1 rfl ?_
   refine cont_done ?_
   refine then_normal ?_
   refine cont_ret ?_
   refine ret_one (.inl rfl) rfl 0 (.bool true) (by kernel_rfl) (by kernel_rfl) (fun w hT => ?_)
   exact ⟨rfl, hT.post rfl⟩
  replace c41_ := of_decide_eq_false c41_
  refine bS [0, 0, 0] 8 0 [(2, .slice A n cap), (7, .pointer (pB b2)), (8, .pointer (pB b3)), (10, .pointer (pB b33)), (11, iq (i : Int)), (38, undef), (39, undef), (40, .bool false)] ?_
  refine cont_done ?_
  refine then_normal ?_
  refine cont_false rfl ?_
  refine cont_exit ?_
  refine then_exit ?_
  refine then_exit ?_
  refine blk_exit ?_
  refine then_normal ?_
  refine cont_seq ?_
  refine cont_region 2 rfl ?_
  refine pl_step 1 1 rfl rfl ?_
  refine call_pure (d := 109) (.bool true) (by kernel_rfl) (fun w hT => lives18  w) ?_
  refine bS [0] 2 0 [(6, .bool true)] ?_
  refine cont_forget 0 rfl ?_
  refine cont_forget 0 rfl ?_
  refine cont_forget 0 rfl ?_
  refine cont_forget 0 rfl ?_
  refine cont_forget 0 rfl ?_
  refine cont_forget 1 rfl ?_
  refine cont_forget 1 rfl ?_
  refine cont_forget 1 rfl ?_
  refine cont_done ?_
  refine then_normal ?_
  refine cont_ret ?_
  refine ret_one (.inl rfl) rfl 0 (.bool true) (by kernel_rfl) (by kernel_rfl) (fun w hT => ?_)
  exact ⟨rfl, hT.post rfl⟩
 ·
  refine cont_norm [(2, .slice A n cap), (7, .pointer (pB b2)), (8, .pointer (pB b3)), (10, .pointer (pB b33)), (11, iq (i : Int))] _ (by kernel_rfl) rfl ?_
  refine cont_fact (F := (0 < kx → (Ax : Option Addr) = pB gx) ∧ xs0.length = kx ∧ kx ≤ cx ∧ cx ≤ maxLen) (fun w hT => Row.factsR (hT.ok 6 _ rfl)) (fun hr193_ => ?_)
  obtain ⟨hr193_a, hr193_l, hr193_c, hr193_m⟩ := hr193_
  unfold maxLen at hr193_m
  refine cont_fact (F := (0 < ky → (Ay : Option Addr) = pB gy) ∧ xs1.length = ky ∧ ky ≤ cy ∧ cy ≤ maxLen) (fun w hT => Row.factsR (hT.ok 7 _ rfl)) (fun hr194_ => ?_)
  obtain ⟨hr194_a, hr194_l, hr194_c, hr194_m⟩ := hr194_
  unfold maxLen at hr194_m
  refine cont_fact (F := (0 < ku → (Au : Option Addr) = pB gu) ∧ xs1.length = ku ∧ ku ≤ cu ∧ cu ≤ maxLen) (fun w hT => Row.factsR (hT.ok 1 _ rfl)) (fun hr195_ => ?_)
  obtain ⟨hr195_a, hr195_l, hr195_c, hr195_m⟩ := hr195_
  unfold maxLen at hr195_m
  refine cont_fact (F := (0 < kv → (Av : Option Addr) = pB gv) ∧ xs0.length = kv ∧ kv ≤ cv ∧ cv ≤ maxLen) (fun w hT => Row.factsR (hT.ok 2 _ rfl)) (fun hr196_ => ?_)
  obtain ⟨hr196_a, hr196_l, hr196_c, hr196_m⟩ := hr196_
  unfold maxLen at hr196_m
  refine cont_seq ?_
  refine cont_seq ?_
  refine cont_region 8 rfl ?_
  refine bS [0, 0, 0, 0, 0] 5 3 [(2, .slice A n cap), (7, .pointer (pB b2)), (8, .pointer (pB b3)), (10, .pointer (pB b33)), (11, iq (i : Int)), (37, .bool (decide ((i : Int) < (n : Int))))] ?_
  refine cont_split 37 (decide ((i : Int) < (n : Int))) rfl (fun c197_ => ?_) (fun c197_ => ?_)
  ·
   replace c197_ := of_decide_eq_true c197_
   refine bS [0, 0, 0] 8 0 [(2, .slice A n cap), (7, .pointer (pB b2)), (8, .pointer (pB b3)), (10, .pointer (pB b33)), (11, iq (i : Int)), (38, iq (i : Int)), (39, .bool (decide ((i : Int) < 30))), (40, .bool (decide ((i : Int) < 30)))] ?_
   refine cont_done ?_
   refine then_normal ?_
   refine cont_split 40 (decide ((i : Int) < 30)) rfl (fun c198_ => ?_) (fun c198_ => ?_)
   ·
    refine cont_recast 39 (.bool (decide ((i : Int) < 30))) (.bool true) rfl (congrArg Value.bool c198_) ?_
    replace c198_ := of_decide_eq_true c198_
    refine cont_true rfl ?_
    refine cont_skip ?_
    refine then_normal ?_
    refine cont_seq ?_
    refine cont_block ?_
    refine cont_seq ?_
    refine cont_region 6 rfl ?_
    refine cont_sub 10 i n (fun i_ => rdE ((dget xs i_).A1) (dget xs i_).g1 (dget xs i_).o1 (dget xs i_).m1 4 (rvals (dget xs i_).x1)) rfl (by omega) rfl rfl ?_
    refine cont_norm [(2, .slice A n cap), (7, .pointer (pB b2)), (8, .pointer (pB b3)), (10, .pointer (pB b33)), (11, iq (i : Int)), (38, iq (i : Int)), (39, .bool true), (40, .bool true)] _ (by kernel_rfl) rfl ?_
    generalize hel : dget xs i = el
    have helg := hge i (by omega)
    rw [hel] at helg
    refine bS [0, 0] 2 4 [(2, .slice A n cap), (7, .pointer (pB b2)), (8, .pointer (pB b3)), (10, .pointer (pB b33)), (11, iq (i : Int)), (38, iq (i : Int)), (39, .bool true), (43, .slice A n cap), (44, iq (i : Int))] ?_
    refine pl_step 3 3 rfl rfl ?_
    refine cont_recast 43 (.slice A n cap) (.slice (some ⟨g, o, none⟩) n cap) rfl (by rw [hra (by omega)]) ?_
    refine sem_step 45 (Instr.indexAt 59 (.slice (some ⟨g, o, none⟩) n cap) (iq (i : Int))) (.pointer (some ⟨g, o + i * 7, none⟩)) (by kernel_rfl) (fun w hT => run_indexAt (e := 64) (sz := 7) _ (by kernel_rfl) (by kernel_rfl) (by omega) (by omega) (by omega) w) ?_
    refine pl_step 4 2 rfl rfl ?_
    refine cont_fact (F := (0 < el.m1 → (el.A1 : Option Addr) = some ⟨el.g1, el.o1, none⟩) ∧ el.x1.length = el.m1) (fun w hT => Rd.factsR (hT.ok 0 _ rfl)) (fun hl199_ => ?_)
    obtain ⟨hl199_a, hl199_l⟩ := hl199_
    refine sem_step 46 (Instr.loadAt 64 (.pointer (some ⟨g, o + i * 7, none⟩))) (.agg #[iq el.x0, .slice el.A1 el.m1 el.k1, iq el.x2, iq el.x3, iq el.x4, iq el.x5, .int .u32 el.x6]) (by kernel_rfl) (fun w hT => run_loadN (m := 7) (cs := [iq el.x0, .slice el.A1 el.m1 el.k1, iq el.x2, iq el.x3, iq el.x4, iq el.x5, .int .u32 el.x6]) (by kernel_rfl) (by kernel_rfl) rfl (by have h_ := Rd.dcell Deed18.size (hT.ok 10 _ rfl) (i := i) (by omega); rw [hel] at h_; exact h_)) ?_
    refine batch1 [0, 0] 6 0 (fun b200 => [(2, .slice A n cap), (7, .pointer (pB b2)), (8, .pointer (pB b3)), (10, .pointer (pB b33)), (11, iq (i : Int)), (12, .pointer (pB b200)), (38, iq (i : Int)), (39, .bool true)]) (fun b200 => [.cells b200 [iq el.x0, .slice el.A1 el.m1 el.k1, iq el.x2, iq el.x3, iq el.x4, iq el.x5, .int .u32 el.x6] 64 true, .gen (rdE (el.A1) el.g1 el.o1 el.m1 4 (rvals el.x1)), .cells b33 [iq 0, iq 0, iq W1q, iq H1q, .slice Au ku cu, .slice Av kv cv, iq w1, iq w0, iq fr] 81 true, .gen (rowE (Au) gu ku cu 28 4 (rvals xs1) true), .gen (rowE (Av) gv kv cv 28 4 (rvals xs0) true), .cells b3 [.pointer (pB m4), .pointer (pB m17), .slice Ax kx cx, .slice Ay ky cy, iq w0, iq w1, iq fr, iq 1] 98 true, .cells m4 [iq W1q, iq H1q, .slice (pB r5) n6 n6] 115 true, .gen (rowE (pB r5) r5 n6 n6 54 1 (ivals .u32 (List.replicate n6 0)) true), .gen (rowE (Ax) gx kx cx 28 4 (rvals xs0) true), .gen (rowE (Ay) gy ky cy 28 4 (rvals xs1) true), .cells b2 [iq 0, iq 0, iq W1q, iq H1q] 28 true, .gen (rdE (A) g o n 7 (dvals Deed18.cells xs)), .gen (subE n (fun i_ => rdE ((dget xs i_).A1) (dget xs i_).g1 (dget xs i_).o1 (dget xs i_).m1 4 (rvals (dget xs i_).x1)))]) rfl rfl [2, 7, 8, 10, 11, 12, 38, 39] (fun _ => rfl) (fun b200 => by kernel_rfl) (fun b200 => by kernel_rfl) (fun b200 => ?_)
    refine cont_done ?_
    refine then_normal ?_
    refine cont_seq ?_
    refine cont_region 8 rfl ?_
    refine bS [0, 0, 0, 0, 0, 0] 6 2 [(2, .slice A n cap), (7, .pointer (pB b2)), (8, .pointer (pB b3)), (10, .pointer (pB b33)), (11, iq (i : Int)), (12, .pointer (pB b200)), (38, iq (i : Int)), (39, .bool true), (48, .slice el.A1 el.m1 el.k1), (52, iq (mn ((el.m1 : Nat) : Int) 4))] ?_
    obtain ⟨mq, hmq⟩ : ∃ y_ : Int, y_ = (mn ((el.m1 : Nat) : Int) 4) := ⟨_, rfl⟩
    refine cont_recast 52 (iq (mn ((el.m1 : Nat) : Int) 4)) (iq mq) rfl (congrArg (Value.int .i64) hmq.symm) ?_
    have hmq2 : 0 ≤ mq ∧ mq ≤ 4 ∧ mq ≤ ((el).m1 : Int) := by rw [hmq]; unfold mn; omega
    have hec_ := helg.c1
    have hem_ := helg.m1
    unfold maxLen at hem_
    refine pl_step 7 1 rfl rfl ?_
    refine sem_step 53 (Instr.sliceAt 62 (.slice el.A1 el.m1 el.k1) none (some (iq mq)) none) (.slice el.A1 (Int.toNat mq) el.k1) (by kernel_rfl) (fun w hT => run_sliceHiA (e := 28) (sz := 4) _ (by kernel_rfl) (by kernel_rfl) (by omega) (by omega) (by omega) w) ?_
    refine bS [0] 8 0 [(2, .slice A n cap), (7, .pointer (pB b2)), (8, .pointer (pB b3)), (10, .pointer (pB b33)), (11, iq (i : Int)), (12, .pointer (pB b200)), (13, .slice el.A1 (Int.toNat mq) el.k1), (38, iq (i : Int)), (39, .bool true)] ?_
    refine cont_done ?_
    refine then_normal ?_
    refine cont_seq ?_
    refine cont_seq ?_
    refine cont_region 2 rfl ?_
    refine bS [0, 0] 2 0 [(2, .slice A n cap), (7, .pointer (pB b2)), (8, .pointer (pB b3)), (10, .pointer (pB b33)), (11, iq (i : Int)), (13, .slice el.A1 (Int.toNat mq) el.k1), (38, iq (i : Int)), (39, .bool true), (55, iq el.x0)] ?_
    refine cont_forget 0 rfl ?_
    refine cont_done ?_
    refine then_normal ?_
    refine cont_block ?_
    refine cont_seq ?_
    refine cont_region 2 rfl ?_
    refine bS [0, 0] 2 0 [(2, .slice A n cap), (7, .pointer (pB b2)), (8, .pointer (pB b3)), (10, .pointer (pB b33)), (11, iq (i : Int)), (13, .slice el.A1 (Int.toNat mq) el.k1), (38, iq (i : Int)), (39, .bool true), (55, iq el.x0), (56, .bool (el.x0 == 0))] ?_
    refine cont_done ?_
    refine then_normal ?_
    refine cont_split 56 (el.x0 == 0) rfl (fun c201_ => ?_) (fun c201_ => ?_)
    ·
     replace c201_ := eq_of_beqt c201_
     refine cont_true rfl ?_
     refine cont_seq ?_
     refine cont_region 3 rfl ?_
     refine bS [0, 0] 2 1 [(2, .slice A n cap), (7, .pointer (pB b2)), (8, .pointer (pB b3)), (10, .pointer (pB b33)), (11, iq (i : Int)), (13, .slice el.A1 (Int.toNat mq) el.k1), (38, iq (i : Int)), (39, .bool true), (58, .pointer (pB b3)), (59, .slice el.A1 (Int.toNat mq) el.k1)] ?_
     refine pl_step 3 0 rfl rfl ?_
     refine call_gen (d := 60) (α := Option Addr × Nat × Nat × Nat × Option Addr × Nat × Nat × Nat) (fun _ => .tuple #[]) (fun x_ => [.gen (rowE (x_.1) x_.2.1 x_.2.2.1 x_.2.2.2.1 28 4 (rvals (keepL hullP (regM orB xs0 (regM andB (canR (el.x1.take (Int.toNat mq))) (canR [(⟨0, 0, W1q, H1q⟩ : Rect)]))) 64)) true), .gen (rowE (x_.2.2.2.2.1) x_.2.2.2.2.2.1 x_.2.2.2.2.2.2.1 x_.2.2.2.2.2.2.2 28 4 (rvals (keepL hullP (regM orB xs1 (regM andB (canR (el.x1.take (Int.toNat mq))) (canR [(⟨0, 0, W1q, H1q⟩ : Rect)]))) 64)) true), .gen (rdE (el.A1) el.g1 el.o1 el.m1 4 (rvals el.x1)), .cells b33 [iq 0, iq 0, iq W1q, iq H1q, .slice Au ku cu, .slice Av kv cv, iq w1, iq w0, iq fr] 81 true, .gen (rowE (Au) gu ku cu 28 4 (rvals xs1) true), .gen (rowE (Av) gv kv cv 28 4 (rvals xs0) true), .cells b3 [.pointer (pB m4), .pointer (pB m17), .slice x_.1 x_.2.2.1 x_.2.2.2.1, .slice x_.2.2.2.2.1 x_.2.2.2.2.2.2.1 x_.2.2.2.2.2.2.2, iq w0, iq w1, iq fr, iq 1] 98 true, .cells m4 [iq W1q, iq H1q, .slice (pB r5) n6 n6] 115 true, .gen (rowE (pB r5) r5 n6 n6 54 1 (ivals .u32 (List.replicate n6 0)) true), .gen (rowE (Ax) gx kx cx 28 4 (rvals xs0) true), .gen (rowE (Ay) gy ky cy 28 4 (rvals xs1) true), .cells b2 [iq 0, iq 0, iq W1q, iq H1q] 28 true, .gen (rdE (A) g o n 7 (dvals Deed18.cells xs)), .gen (subE n (fun i_ => rdE ((dget xs i_).A1) (dget xs i_).g1 (dget xs i_).o1 (dget xs i_).m1 4 (rvals (dget xs i_).x1)))]) (fun _ => True) (by kernel_rfl) (fun w hT => (outDamage b3 m4 m17 Ax Ay kx cx ky cy w0 w1 fr 1 W1q H1q r5 n6 n6 (List.replicate n6 0) gx xs0 gy xs1 el.A1 el.g1 el.o1 (Int.toNat mq) el.k1 (el.x1.take (Int.toNat mq)) w (hT.view (.cons (i := 4) rfl Vw.rw (.cons (i := 5) rfl Vw.roc (.cons (i := 6) rfl Vw.rowRd (.cons (i := 7) rfl Vw.rowRd (.cons (i := 8) rfl Vw.rowRd (.cons (i := 0) rfl (Vw.rdHeadA (n := el.m1) (m := (Int.toNat mq)) (by omega)) .nil)))))) (by decide)) (by omega) (imgOk_new (by omega) hf18_a) (by omega) (by omega) (by omega)).mono fun e w' ⟨A202q, gA203q, k204q, cp205q, B206q, gB207q, kB208q, cB209q, he_, ht_⟩ => ⟨(A202q, gA203q, k204q, cp205q, B206q, gB207q, kB208q, cB209q), he_, trivial, hT.merge (N := [.gen (rowE (A202q) gA203q k204q cp205q 28 4 (rvals (keepL hullP (regM orB xs0 (regM andB (canR (el.x1.take (Int.toNat mq))) (canR [(⟨0, 0, W1q, H1q⟩ : Rect)]))) 64)) true), .gen (rowE (B206q) gB207q kB208q cB209q 28 4 (rvals (keepL hullP (regM orB xs1 (regM andB (canR (el.x1.take (Int.toNat mq))) (canR [(⟨0, 0, W1q, H1q⟩ : Rect)]))) 64)) true)]) (s := [4, 5, 6, 7, 8, 0]) ht_ (.cons (i := 4) rfl Mg.cells (.skip rfl (.skip rfl (.skip rfl (.skip rfl (.skip rfl .nil)))))) (by decide) (allOwn_get rfl)⟩) ?_
     rintro ⟨A202q, gA203q, k204q, cp205q, B206q, gB207q, kB208q, cB209q⟩ -
     refine cont_norm [(2, .slice A n cap), (7, .pointer (pB b2)), (8, .pointer (pB b3)), (10, .pointer (pB b33)), (11, iq (i : Int)), (13, .slice el.A1 (Int.toNat mq) el.k1), (38, iq (i : Int)), (39, .bool true), (58, .pointer (pB b3)), (59, .slice el.A1 (Int.toNat mq) el.k1), (60, .tuple #[])] _ (by kernel_rfl) rfl ?_
     refine cont_fact (F := (0 < k204q → (A202q : Option Addr) = pB gA203q) ∧ (keepL hullP (regM orB xs0 (regM andB (canR (el.x1.take (Int.toNat mq))) (canR [(⟨0, 0, W1q, H1q⟩ : Rect)]))) 64).length = k204q ∧ k204q ≤ cp205q ∧ cp205q ≤ maxLen) (fun w hT => Row.factsR (hT.ok 0 _ rfl)) (fun hr210_ => ?_)
     obtain ⟨hr210_a, hr210_l, hr210_c, hr210_m⟩ := hr210_
     unfold maxLen at hr210_m
     have hr210_k : k204q ≤ 64 := by rw [← hr210_l]; exact keep_len64 _ _
     clear hr210_l
     refine cont_rowEqR 0 (keepL hullP (regM orB xs0 (regM andB (canR (el.x1.take (Int.toNat mq))) (canR [(⟨0, 0, W1q, H1q⟩ : Rect)]))) 64) (keepL hullD (regM orB xs0 (regM andB (canR (el.x1.take (Int.toNat mq))) [(⟨0, 0, W1q, H1q⟩ : Rect)])) 64) rfl (out_new _ _ hbx) ?_
     refine cont_norm [(2, .slice A n cap), (7, .pointer (pB b2)), (8, .pointer (pB b3)), (10, .pointer (pB b33)), (11, iq (i : Int)), (13, .slice el.A1 (Int.toNat mq) el.k1), (38, iq (i : Int)), (39, .bool true), (58, .pointer (pB b3)), (59, .slice el.A1 (Int.toNat mq) el.k1), (60, .tuple #[])] _ (by kernel_rfl) rfl ?_
     refine cont_fact (F := (0 < kB208q → (B206q : Option Addr) = pB gB207q) ∧ (keepL hullP (regM orB xs1 (regM andB (canR (el.x1.take (Int.toNat mq))) (canR [(⟨0, 0, W1q, H1q⟩ : Rect)]))) 64).length = kB208q ∧ kB208q ≤ cB209q ∧ cB209q ≤ maxLen) (fun w hT => Row.factsR (hT.ok 1 _ rfl)) (fun hr211_ => ?_)
     obtain ⟨hr211_a, hr211_l, hr211_c, hr211_m⟩ := hr211_
     unfold maxLen at hr211_m
     have hr211_k : kB208q ≤ 64 := by rw [← hr211_l]; exact keep_len64 _ _
     clear hr211_l
     refine cont_rowEqR 1 (keepL hullP (regM orB xs1 (regM andB (canR (el.x1.take (Int.toNat mq))) (canR [(⟨0, 0, W1q, H1q⟩ : Rect)]))) 64) (keepL hullD (regM orB xs1 (regM andB (canR (el.x1.take (Int.toNat mq))) [(⟨0, 0, W1q, H1q⟩ : Rect)])) 64) rfl (out_new _ _ hbx) ?_
     refine cont_norm [(2, .slice A n cap), (7, .pointer (pB b2)), (8, .pointer (pB b3)), (10, .pointer (pB b33)), (11, iq (i : Int)), (13, .slice el.A1 (Int.toNat mq) el.k1), (38, iq (i : Int)), (39, .bool true), (58, .pointer (pB b3)), (59, .slice el.A1 (Int.toNat mq) el.k1), (60, .tuple #[])] _ (by kernel_rfl) rfl ?_
     refine cont_done ?_
     refine then_normal ?_
     refine cont_region 4 rfl ?_
     refine bS [3, 0] 2 2 [(2, .slice A n cap), (7, .pointer (pB b2)), (8, .pointer (pB b3)), (10, .pointer (pB b33)), (11, iq (i : Int)), (38, iq (i : Int)), (39, .bool true), (61, .agg #[iq 0, iq 0, iq W1q, iq H1q, .slice Au ku cu, .slice Av kv cv, iq w1, iq w0, iq fr]), (62, .slice el.A1 (Int.toNat mq) el.k1)] ?_
     refine cont_forget 9 rfl ?_
     refine cont_forget 9 rfl ?_
     refine pl_step 3 1 rfl rfl ?_
     refine call_gen (d := 63) (α := Option Addr × Nat × Nat × Nat × Option Addr × Nat × Nat × Nat) (fun x_ => .agg #[iq 0, iq 0, iq W1q, iq H1q, .slice x_.1 x_.2.2.1 x_.2.2.2.1, .slice x_.2.2.2.2.1 x_.2.2.2.2.2.2.1 x_.2.2.2.2.2.2.2, iq w1, iq w0, iq fr]) (fun x_ => [.gen (rowE (x_.1) x_.2.1 x_.2.2.1 x_.2.2.2.1 28 4 (rvals (keepL hullD (regM orB xs1 (regM andB (canR (el.x1.take (Int.toNat mq))) [(⟨0, 0, W1q, H1q⟩ : Rect)])) 64)) true), .gen (rowE (x_.2.2.2.2.1) x_.2.2.2.2.2.1 x_.2.2.2.2.2.2.1 x_.2.2.2.2.2.2.2 28 4 (rvals (keepL hullD (regM orB xs0 (regM andB (canR (el.x1.take (Int.toNat mq))) [(⟨0, 0, W1q, H1q⟩ : Rect)])) 64)) true), .gen (rowE (A202q) gA203q k204q cp205q 28 4 (rvals (keepL hullD (regM orB xs0 (regM andB (canR (el.x1.take (Int.toNat mq))) [(⟨0, 0, W1q, H1q⟩ : Rect)])) 64)) true), .gen (rowE (B206q) gB207q kB208q cB209q 28 4 (rvals (keepL hullD (regM orB xs1 (regM andB (canR (el.x1.take (Int.toNat mq))) [(⟨0, 0, W1q, H1q⟩ : Rect)])) 64)) true), .gen (rdE (el.A1) el.g1 el.o1 el.m1 4 (rvals el.x1)), .cells b33 [iq 0, iq 0, iq W1q, iq H1q, .slice Au ku cu, .slice Av kv cv, iq w1, iq w0, iq fr] 81 true, .gen (rowE (Au) gu ku cu 28 4 (rvals xs1) true), .gen (rowE (Av) gv kv cv 28 4 (rvals xs0) true), .cells b3 [.pointer (pB m4), .pointer (pB m17), .slice A202q k204q cp205q, .slice B206q kB208q cB209q, iq w0, iq w1, iq fr, iq 1] 98 true, .cells m4 [iq W1q, iq H1q, .slice (pB r5) n6 n6] 115 true, .gen (rowE (pB r5) r5 n6 n6 54 1 (ivals .u32 (List.replicate n6 0)) true), .cells b2 [iq 0, iq 0, iq W1q, iq H1q] 28 true, .gen (rdE (A) g o n 7 (dvals Deed18.cells xs)), .gen (subE n (fun i_ => rdE ((dget xs i_).A1) (dget xs i_).g1 (dget xs i_).o1 (dget xs i_).m1 4 (rvals (dget xs i_).x1)))]) (fun x_ => True) (by kernel_rfl) (fun w hT => (refDamage18 W1q H1q Au ku cu Av kv cv w1 w0 fr gu xs1 gv xs0 el.A1 el.g1 el.o1 (Int.toNat mq) el.k1 (el.x1.take (Int.toNat mq)) w (hT.viewRo (.cons (i := 4) rfl Vw.rowRd (.cons (i := 5) rfl Vw.rowRd (.cons (i := 2) rfl (Vw.rdHeadA (n := el.m1) (m := (Int.toNat mq)) (by omega)) .nil))) rfl) (by omega) (by omega) (by omega) (by omega)).mono fun e w' ⟨A212, g213, k214, cp215, B216, gB217, kB218, cB219, he_, ht_⟩ => ⟨(A212, g213, k214, cp215, B216, gB217, kB218, cB219), he_, trivial, hT.news ht_ rfl⟩) ?_
     rintro ⟨A212, g213, k214, cp215, B216, gB217, kB218, cB219⟩ hf220_
     refine cont_norm [(2, .slice A n cap), (7, .pointer (pB b2)), (8, .pointer (pB b3)), (10, .pointer (pB b33)), (11, iq (i : Int)), (38, iq (i : Int)), (39, .bool true), (61, .agg #[iq 0, iq 0, iq W1q, iq H1q, .slice Au ku cu, .slice Av kv cv, iq w1, iq w0, iq fr]), (62, .slice el.A1 (Int.toNat mq) el.k1), (63, .agg #[iq 0, iq 0, iq W1q, iq H1q, .slice A212 k214 cp215, .slice B216 kB218 cB219, iq w1, iq w0, iq fr])] _ (by kernel_rfl) rfl ?_
     refine cont_fact (F := (0 < k214 → (A212 : Option Addr) = pB g213) ∧ (keepL hullD (regM orB xs1 (regM andB (canR (el.x1.take (Int.toNat mq))) [(⟨0, 0, W1q, H1q⟩ : Rect)])) 64).length = k214 ∧ k214 ≤ cp215 ∧ cp215 ≤ maxLen) (fun w hT => Row.factsR (hT.ok 0 _ rfl)) (fun hr221_ => ?_)
     obtain ⟨hr221_a, hr221_l, hr221_c, hr221_m⟩ := hr221_
     unfold maxLen at hr221_m
     have hr221_k : k214 ≤ 64 := by rw [← hr221_l]; exact keep_len64 _ _
     clear hr221_l
     refine cont_fact (F := (0 < kB218 → (B216 : Option Addr) = pB gB217) ∧ (keepL hullD (regM orB xs0 (regM andB (canR (el.x1.take (Int.toNat mq))) [(⟨0, 0, W1q, H1q⟩ : Rect)])) 64).length = kB218 ∧ kB218 ≤ cB219 ∧ cB219 ≤ maxLen) (fun w hT => Row.factsR (hT.ok 1 _ rfl)) (fun hr222_ => ?_)
     obtain ⟨hr222_a, hr222_l, hr222_c, hr222_m⟩ := hr222_
     unfold maxLen at hr222_m
     have hr222_k : kB218 ≤ 64 := by rw [← hr222_l]; exact keep_len64 _ _
     clear hr222_l
     refine batch0 [5] 4 0 [(2, .slice A n cap), (7, .pointer (pB b2)), (8, .pointer (pB b3)), (10, .pointer (pB b33)), (11, iq (i : Int)), (38, iq (i : Int)), (39, .bool true)] [.gen (rowE (A212) g213 k214 cp215 28 4 (rvals (keepL hullD (regM orB xs1 (regM andB (canR (el.x1.take (Int.toNat mq))) [(⟨0, 0, W1q, H1q⟩ : Rect)])) 64)) true), .gen (rowE (B216) gB217 kB218 cB219 28 4 (rvals (keepL hullD (regM orB xs0 (regM andB (canR (el.x1.take (Int.toNat mq))) [(⟨0, 0, W1q, H1q⟩ : Rect)])) 64)) true), .gen (rowE (A202q) gA203q k204q cp205q 28 4 (rvals (keepL hullD (regM orB xs0 (regM andB (canR (el.x1.take (Int.toNat mq))) [(⟨0, 0, W1q, H1q⟩ : Rect)])) 64)) true), .gen (rowE (B206q) gB207q kB208q cB209q 28 4 (rvals (keepL hullD (regM orB xs1 (regM andB (canR (el.x1.take (Int.toNat mq))) [(⟨0, 0, W1q, H1q⟩ : Rect)])) 64)) true), .gen (rdE (el.A1) el.g1 el.o1 el.m1 4 (rvals el.x1)), .cells b33 [iq 0, iq 0, iq W1q, iq H1q, .slice A212 k214 cp215, .slice B216 kB218 cB219, iq w1, iq w0, iq fr] 81 true, .gen (rowE (Au) gu ku cu 28 4 (rvals xs1) true), .gen (rowE (Av) gv kv cv 28 4 (rvals xs0) true), .cells b3 [.pointer (pB m4), .pointer (pB m17), .slice A202q k204q cp205q, .slice B206q kB208q cB209q, iq w0, iq w1, iq fr, iq 1] 98 true, .cells m4 [iq W1q, iq H1q, .slice (pB r5) n6 n6] 115 true, .gen (rowE (pB r5) r5 n6 n6 54 1 (ivals .u32 (List.replicate n6 0)) true), .cells b2 [iq 0, iq 0, iq W1q, iq H1q] 28 true, .gen (rdE (A) g o n 7 (dvals Deed18.cells xs)), .gen (subE n (fun i_ => rdE ((dget xs i_).A1) (dget xs i_).g1 (dget xs i_).o1 (dget xs i_).m1 4 (rvals (dget xs i_).x1)))] rfl rfl (by kernel_rfl) (by kernel_rfl) ?_
     refine cont_forget 6 rfl ?_
     refine cont_forget 6 rfl ?_
     refine cont_done ?_
     refine blk_normal ?_
     refine then_normal ?_
     refine cont_seq ?_
     obtain ⟨LQ223, hLQ223⟩ : ∃ y_ : List Rect, y_ = keepL hullD (regM orB xs0 (regM andB (canR (el.x1.take (Int.toNat mq))) [(⟨0, 0, W1q, H1q⟩ : Rect)])) 64 := ⟨_, rfl⟩
     refine cont_rowEqR 2 (keepL hullD (regM orB xs0 (regM andB (canR (el.x1.take (Int.toNat mq))) [(⟨0, 0, W1q, H1q⟩ : Rect)])) 64) (LQ223) rfl hLQ223.symm ?_
     obtain ⟨LQ224, hLQ224⟩ : ∃ y_ : List Rect, y_ = keepL hullD (regM orB xs1 (regM andB (canR (el.x1.take (Int.toNat mq))) [(⟨0, 0, W1q, H1q⟩ : Rect)])) 64 := ⟨_, rfl⟩
     refine cont_rowEqR 3 (keepL hullD (regM orB xs1 (regM andB (canR (el.x1.take (Int.toNat mq))) [(⟨0, 0, W1q, H1q⟩ : Rect)])) 64) (LQ224) rfl hLQ224.symm ?_
     refine cont_rowEqR 0 (keepL hullD (regM orB xs1 (regM andB (canR (el.x1.take (Int.toNat mq))) [(⟨0, 0, W1q, H1q⟩ : Rect)])) 64) (LQ224) rfl hLQ224.symm ?_
     refine cont_rowEqR 1 (keepL hullD (regM orB xs0 (regM andB (canR (el.x1.take (Int.toNat mq))) [(⟨0, 0, W1q, H1q⟩ : Rect)])) 64) (LQ223) rfl hLQ223.symm ?_
     refine cont_norm [(2, .slice A n cap), (7, .pointer (pB b2)), (8, .pointer (pB b3)), (10, .pointer (pB b33)), (11, iq (i : Int)), (38, iq (i : Int)), (39, .bool true)] _ (by kernel_rfl) rfl ?_
     clear hLQ223
     clear hLQ224
     refine cont_fact (F := (0 < k204q → (A202q : Option Addr) = pB gA203q) ∧ LQ223.length = k204q ∧ k204q ≤ cp205q ∧ cp205q ≤ maxLen) (fun w hT => Row.factsR (hT.ok 2 _ rfl)) (fun hr225_ => ?_)
     obtain ⟨hr225_a, hr225_l, hr225_c, hr225_m⟩ := hr225_
     unfold maxLen at hr225_m
     refine cont_fact (F := (0 < kB208q → (B206q : Option Addr) = pB gB207q) ∧ LQ224.length = kB208q ∧ kB208q ≤ cB209q ∧ cB209q ≤ maxLen) (fun w hT => Row.factsR (hT.ok 3 _ rfl)) (fun hr226_ => ?_)
     obtain ⟨hr226_a, hr226_l, hr226_c, hr226_m⟩ := hr226_
     unfold maxLen at hr226_m
     refine cont_fact (F := (0 < k214 → (A212 : Option Addr) = pB g213) ∧ LQ224.length = k214 ∧ k214 ≤ cp215 ∧ cp215 ≤ maxLen) (fun w hT => Row.factsR (hT.ok 0 _ rfl)) (fun hr227_ => ?_)
     obtain ⟨hr227_a, hr227_l, hr227_c, hr227_m⟩ := hr227_
     unfold maxLen at hr227_m
     refine cont_fact (F := (0 < kB218 → (B216 : Option Addr) = pB gB217) ∧ LQ223.length = kB218 ∧ kB218 ≤ cB219 ∧ cB219 ≤ maxLen) (fun w hT => Row.factsR (hT.ok 1 _ rfl)) (fun hr228_ => ?_)
     obtain ⟨hr228_a, hr228_l, hr228_c, hr228_m⟩ := hr228_
     unfold maxLen at hr228_m
     refine drawn_enter 26 [] rfl (by kernel_rfl) ?_
     refine takes 0 [] [(0, 0), (2, 0), (3, 5)] 23 [3, 2, 0] [(2, .slice A n cap), (7, .pointer (pB b2)), (8, .pointer (pB b3)), (10, .pointer (pB b33)), (11, iq (i : Int)), (38, iq (i : Int)), (39, .bool true), (83, .pointer (pB b3)), (86, .slice A212 k214 cp215)] (by kernel_rfl) (pok_then (pok_blk (pok_then (pok_then (pok_blk (pok_then pok_body)))))) (by kernel_rfl) rfl rfl (by kernel_rfl) (by kernel_rfl) ?_
     refine drawn_one 1 22 rfl (by kernel_rfl) ?_
     refine call_gen (d := 84) (α := Option Addr × Nat × Nat × Nat) (fun x_ => .slice x_.1 x_.2.2.1 x_.2.2.2) (fun x_ => [.gen (rowE (x_.1) x_.2.1 x_.2.2.1 x_.2.2.2 28 4 (rvals LQ224) true), .gen (rowE (A212) g213 k214 cp215 28 4 (rvals LQ224) true), .gen (rowE (B216) gB217 kB218 cB219 28 4 (rvals LQ223) true), .gen (rowE (A202q) gA203q k204q cp205q 28 4 (rvals LQ223) true), .gen (rowE (B206q) gB207q kB208q cB209q 28 4 (rvals LQ224) true), .gen (rdE (el.A1) el.g1 el.o1 el.m1 4 (rvals el.x1)), .cells b33 [iq 0, iq 0, iq W1q, iq H1q, .slice A212 k214 cp215, .slice B216 kB218 cB219, iq w1, iq w0, iq fr] 81 true, .cells b3 [.pointer (pB m4), .pointer (pB m17), .slice A202q k204q cp205q, .slice B206q kB208q cB209q, iq w0, iq w1, iq fr, iq 1] 98 true, .cells m4 [iq W1q, iq H1q, .slice (pB r5) n6 n6] 115 true, .gen (rowE (pB r5) r5 n6 n6 54 1 (ivals .u32 (List.replicate n6 0)) true), .cells b2 [iq 0, iq 0, iq W1q, iq H1q] 28 true, .gen (rdE (A) g o n 7 (dvals Deed18.cells xs)), .gen (subE n (fun i_ => rdE ((dget xs i_).A1) (dget xs i_).g1 (dget xs i_).o1 (dget xs i_).m1 4 (rvals (dget xs i_).x1)))]) (fun x_ => True) (by kernel_rfl) (fun w hT => (outStale1 b3 m4 m17 A202q B206q k204q cp205q kB208q cB209q w0 w1 fr gB207q LQ224 w (hT.viewRo (.cons (i := 6) rfl Vw.roc (.cons (i := 3) rfl Vw.rowRd .nil)) rfl) (by omega)).mono fun e w' ⟨A229, g230, k231, cp232, he_, ht_⟩ => ⟨(A229, g230, k231, cp232), he_, trivial, hT.news ht_ rfl⟩) ?_
     rintro ⟨A229, g230, k231, cp232⟩ hf233_
     refine cont_norm [(2, .slice A n cap), (7, .pointer (pB b2)), (8, .pointer (pB b3)), (10, .pointer (pB b33)), (11, iq (i : Int)), (38, iq (i : Int)), (39, .bool true), (83, .pointer (pB b3)), (84, .slice A229 k231 cp232), (86, .slice A212 k214 cp215)] _ (by kernel_rfl) rfl ?_
     refine cont_fact (F := (0 < k231 → (A229 : Option Addr) = pB g230) ∧ LQ224.length = k231 ∧ k231 ≤ cp232 ∧ cp232 ≤ maxLen) (fun w hT => Row.factsR (hT.ok 0 _ rfl)) (fun hr234_ => ?_)
     obtain ⟨hr234_a, hr234_l, hr234_c, hr234_m⟩ := hr234_
     unfold maxLen at hr234_m
     refine drawn_next 1 [] (by kernel_rfl) ?_
     refine drawn_one 4 21 rfl (by kernel_rfl) ?_
     refine call_pure (d := 87) (.bool (decide (LQ224 = LQ224))) (by kernel_rfl) (fun w hT => refSame A229 g230 0 k231 cp232 LQ224 A212 g213 0 k214 cp215 LQ224 w (hT.viewRo (.cons (i := 0) rfl Vw.rowRd (.cons (i := 1) rfl Vw.rowRd .nil)) rfl) (by omega)) ?_
     refine drawn_next 1 [] (by kernel_rfl) ?_
     refine takes 1 [] [(5, 0), (6, 0)] 19 [6, 5, 4, 1, 3, 2, 0] [(2, .slice A n cap), (7, .pointer (pB b2)), (8, .pointer (pB b3)), (10, .pointer (pB b33)), (11, iq (i : Int)), (38, iq (i : Int)), (39, .bool true), (89, .bool (!(decide (LQ224 = LQ224))))] (by kernel_rfl) (pok_then (pok_blk (pok_then (pok_then (pok_blk (pok_then pok_body)))))) (by kernel_rfl) rfl rfl (by kernel_rfl) (by kernel_rfl) ?_
     refine cont_recast 89 (.bool (!(decide (LQ224 = LQ224)))) (.bool false) rfl (congrArg Value.bool (by rw [show (decide (LQ224 = LQ224)) = true from (decide_eq_true rfl)]; rfl)) ?_
     refine takes 1 [] [(7, 0), (9, 0), (10, 5)] 16 [10, 9, 7, 6, 5, 4, 1, 3, 2, 0] [(2, .slice A n cap), (7, .pointer (pB b2)), (8, .pointer (pB b3)), (10, .pointer (pB b33)), (11, iq (i : Int)), (38, iq (i : Int)), (39, .bool true), (89, .bool false), (90, .pointer (pB b3)), (92, .pointer (some ⟨b33, 8, none⟩)), (93, iq fr)] (by kernel_rfl) (pok_then (pok_blk (pok_then (pok_then (pok_blk (pok_then pok_body)))))) (by kernel_rfl) rfl rfl (by kernel_rfl) (by kernel_rfl) ?_
     refine drawn_one 8 15 rfl (by kernel_rfl) ?_
     refine call_pure (d := 91) (iq fr) (by kernel_rfl) (fun w hT => outFrames b3 m4 m17 A202q B206q k204q cp205q kB208q cB209q w0 w1 fr 1 w (hT.viewRo (.cons (i := 7) rfl Vw.roc .nil) rfl)) ?_
     refine drawn_next 1 [] (by kernel_rfl) ?_
     refine takes 1 [] [(11, 0), (12, 0), (13, 0)] 12 [13, 12, 11, 8, 10, 9, 7, 6, 5, 4, 1, 3, 2, 0] [(2, .slice A n cap), (7, .pointer (pB b2)), (8, .pointer (pB b3)), (10, .pointer (pB b33)), (11, iq (i : Int)), (38, iq (i : Int)), (39, .bool true), (90, .pointer (pB b3)), (91, iq fr), (92, .pointer (some ⟨b33, 8, none⟩)), (93, iq fr), (94, .bool (fr != fr)), (96, .bool (fr != fr))] (by kernel_rfl) (pok_then (pok_blk (pok_then (pok_then (pok_blk (pok_then pok_body)))))) (by kernel_rfl) rfl rfl (by kernel_rfl) (by kernel_rfl) ?_
     refine cont_recast 96 (.bool (fr != fr)) (.bool false) rfl (congrArg Value.bool (bne_self_eq_false _)) ?_
     refine cont_recast 94 (.bool (fr != fr)) (.bool false) rfl (congrArg Value.bool (bne_self_eq_false _)) ?_
     refine takes 1 [] [(14, 0), (16, 5)] 10 [16, 14, 13, 12, 11, 8, 10, 9, 7, 6, 5, 4, 1, 3, 2, 0] [(2, .slice A n cap), (7, .pointer (pB b2)), (8, .pointer (pB b3)), (10, .pointer (pB b33)), (11, iq (i : Int)), (38, iq (i : Int)), (39, .bool true), (90, .pointer (pB b3)), (91, iq fr), (92, .pointer (some ⟨b33, 8, none⟩)), (93, iq fr), (94, .bool false), (96, .bool false), (97, .pointer (pB b3)), (99, .agg #[iq 0, iq 0, iq W1q, iq H1q, .slice A212 k214 cp215, .slice B216 kB218 cB219, iq w1, iq w0, iq fr])] (by kernel_rfl) (pok_then (pok_blk (pok_then (pok_then (pok_blk (pok_then pok_body)))))) (by kernel_rfl) rfl rfl (by kernel_rfl) (by kernel_rfl) ?_
     refine drawn_one 15 9 rfl (by kernel_rfl) ?_
     refine call_pure (d := 98) (iq (ageI w1 fr)) (by kernel_rfl) (fun w hT => outAge1 b3 m4 m17 A202q B206q k204q cp205q kB208q cB209q w0 w1 fr w (hT.viewRo (.cons (i := 7) rfl Vw.roc .nil) rfl) (by omega)) ?_
     refine drawn_next 1 [] (by kernel_rfl) ?_
     refine drawn_one 17 8 rfl (by kernel_rfl) ?_
     refine call_pure (d := 100) (iq (ageI w1 fr)) (by kernel_rfl) (fun w hT => refAge18 W1q H1q A212 k214 cp215 B216 kB218 cB219 w1 w0 fr w (by omega)) ?_
     refine drawn_next 1 [] (by kernel_rfl) ?_
     refine takes 1 [] [(18, 0), (19, 0), (20, 0)] 5 [20, 19, 18, 17, 15, 16, 14, 13, 12, 11, 8, 10, 9, 7, 6, 5, 4, 1, 3, 2, 0] [(2, .slice A n cap), (7, .pointer (pB b2)), (8, .pointer (pB b3)), (10, .pointer (pB b33)), (11, iq (i : Int)), (38, iq (i : Int)), (39, .bool true), (90, .pointer (pB b3)), (91, iq fr), (92, .pointer (some ⟨b33, 8, none⟩)), (93, iq fr), (94, .bool false), (97, .pointer (pB b3)), (98, iq (ageI w1 fr)), (99, .agg #[iq 0, iq 0, iq W1q, iq H1q, .slice A212 k214 cp215, .slice B216 kB218 cB219, iq w1, iq w0, iq fr]), (100, iq (ageI w1 fr)), (101, .bool ((ageI w1 fr) != (ageI w1 fr))), (103, .bool ((ageI w1 fr) != (ageI w1 fr)))] (by kernel_rfl) (pok_then (pok_blk (pok_then (pok_then (pok_blk (pok_then pok_body)))))) (by kernel_rfl) rfl rfl (by kernel_rfl) (by kernel_rfl) ?_
     refine cont_recast 103 (.bool ((ageI w1 fr) != (ageI w1 fr))) (.bool false) rfl (congrArg Value.bool (bne_self_eq_false _)) ?_
     refine cont_recast 101 (.bool ((ageI w1 fr) != (ageI w1 fr))) (.bool false) rfl (congrArg Value.bool (bne_self_eq_false _)) ?_
     refine takes 1 [] [(21, 0), (23, 9)] 3 [23, 21, 20, 19, 18, 17, 15, 16, 14, 13, 12, 11, 8, 10, 9, 7, 6, 5, 4, 1, 3, 2, 0] [(2, .slice A n cap), (7, .pointer (pB b2)), (8, .pointer (pB b3)), (10, .pointer (pB b33)), (11, iq (i : Int)), (38, iq (i : Int)), (39, .bool true), (90, .pointer (pB b3)), (91, iq fr), (92, .pointer (some ⟨b33, 8, none⟩)), (93, iq fr), (94, .bool false), (97, .pointer (pB b3)), (98, iq (ageI w1 fr)), (99, .agg #[iq 0, iq 0, iq W1q, iq H1q, .slice A212 k214 cp215, .slice B216 kB218 cB219, iq w1, iq w0, iq fr]), (100, iq (ageI w1 fr)), (101, .bool false), (103, .bool false), (104, .pointer (pB b3)), (106, .agg #[iq 0, iq 0, iq W1q, iq H1q])] (by kernel_rfl) (pok_then (pok_blk (pok_then (pok_then (pok_blk (pok_then pok_body)))))) (by kernel_rfl) rfl rfl (by kernel_rfl) (by kernel_rfl) ?_
     refine drawn_one 22 2 rfl (by kernel_rfl) ?_
     refine call_pure (d := 105) (.agg #[iq 0, iq 0, iq W1q, iq H1q]) (by kernel_rfl) (fun w hT => outBox b3 m4 m17 A202q B206q k204q cp205q kB208q cB209q w0 w1 fr 1 W1q H1q r5 n6 n6 (List.replicate n6 0) w (hT.viewRo (.cons (i := 7) rfl Vw.roc (.cons (i := 8) rfl Vw.roc (.cons (i := 9) rfl Vw.rowRd .nil))) rfl) (by omega) (imgOk_new (by omega) hf18_a)) ?_
     refine drawn_next 1 [] (by kernel_rfl) ?_
     refine sem_take 1 [] 24 1 107 (bopS .neq 28 (.tmp 105) (.tmp 106) (.agg #[iq 0, iq 0, iq W1q, iq H1q]) (.agg #[iq 0, iq 0, iq W1q, iq H1q])) (.bool (!(eqInts [0, 0, W1q, H1q] [0, 0, W1q, H1q]))) (by kernel_rfl) (pok_then (pok_blk (pok_then (pok_then (pok_blk (pok_then pok_body)))))) (by kernel_rfl) rfl (by kernel_rfl) (by kernel_rfl) (fun w hT => run_neS [0, 0, W1q, H1q] [0, 0, W1q, H1q] (by kernel_rfl) (by kernel_rfl) (by kernel_rfl) (by kernel_rfl) rfl rfl w) ?_
     refine takes 1 [] [(25, 0)] 0 [25, 24, 22, 23, 21, 20, 19, 18, 17, 15, 16, 14, 13, 12, 11, 8, 10, 9, 7, 6, 5, 4, 1, 3, 2, 0] [(2, .slice A n cap), (7, .pointer (pB b2)), (8, .pointer (pB b3)), (10, .pointer (pB b33)), (11, iq (i : Int)), (38, iq (i : Int)), (39, .bool true), (90, .pointer (pB b3)), (91, iq fr), (92, .pointer (some ⟨b33, 8, none⟩)), (93, iq fr), (94, .bool false), (97, .pointer (pB b3)), (98, iq (ageI w1 fr)), (99, .agg #[iq 0, iq 0, iq W1q, iq H1q, .slice A212 k214 cp215, .slice B216 kB218 cB219, iq w1, iq w0, iq fr]), (100, iq (ageI w1 fr)), (101, .bool false), (104, .pointer (pB b3)), (105, .agg #[iq 0, iq 0, iq W1q, iq H1q]), (106, .agg #[iq 0, iq 0, iq W1q, iq H1q]), (107, .bool (!(eqInts [0, 0, W1q, H1q] [0, 0, W1q, H1q]))), (108, .bool (!(eqInts [0, 0, W1q, H1q] [0, 0, W1q, H1q])))] (by kernel_rfl) (pok_then (pok_blk (pok_then (pok_then (pok_blk (pok_then pok_body)))))) (by kernel_rfl) rfl rfl (by kernel_rfl) (by kernel_rfl) ?_
     refine drawn_done (by kernel_rfl) ?_
     refine then_normal ?_
     refine cont_recast 108 (.bool (!(eqInts [0, 0, W1q, H1q] [0, 0, W1q, H1q]))) (.bool false) rfl (congrArg Value.bool (by rw [show eqInts [0, 0, W1q, H1q] [0, 0, W1q, H1q] = true from ((eqInts_rect (r := ⟨0, 0, W1q, H1q⟩) (s := ⟨0, 0, W1q, H1q⟩)).trans (decide_eq_true rfl))]; rfl)) ?_
     refine cont_recast 107 (.bool (!(eqInts [0, 0, W1q, H1q] [0, 0, W1q, H1q]))) (.bool false) rfl (congrArg Value.bool (by rw [show eqInts [0, 0, W1q, H1q] [0, 0, W1q, H1q] = true from ((eqInts_rect (r := ⟨0, 0, W1q, H1q⟩) (s := ⟨0, 0, W1q, H1q⟩)).trans (decide_eq_true rfl))]; rfl)) ?_
     refine cont_false rfl ?_
     refine cont_skip ?_
     refine blk_normal ?_
     refine then_normal ?_
     refine cont_region 3 rfl ?_
     refine bS [0, 0] 2 1 [(2, .slice A n cap), (7, .pointer (pB b2)), (8, .pointer (pB b3)), (10, .pointer (pB b33)), (38, iq (i : Int)), (39, .bool true), (42, iq (IntKind.i64.wrap ((i : Int) + 1))), (90, .pointer (pB b3)), (91, iq fr), (92, .pointer (some ⟨b33, 8, none⟩)), (93, iq fr), (94, .bool false), (97, .pointer (pB b3)), (98, iq (ageI w1 fr)), (99, .agg #[iq 0, iq 0, iq W1q, iq H1q, .slice A212 k214 cp215, .slice B216 kB218 cB219, iq w1, iq w0, iq fr]), (100, iq (ageI w1 fr)), (101, .bool false), (104, .pointer (pB b3)), (105, .agg #[iq 0, iq 0, iq W1q, iq H1q]), (106, .agg #[iq 0, iq 0, iq W1q, iq H1q]), (107, .bool false)] ?_
     refine cont_recast 42 (iq (IntKind.i64.wrap ((i : Int) + 1))) (iq ((i : Int) + 1)) rfl (wrapI (by omega) (by omega)) ?_
     refine cont_forget 0 rfl ?_
     refine bS [0] 3 0 [(2, .slice A n cap), (7, .pointer (pB b2)), (8, .pointer (pB b3)), (10, .pointer (pB b33)), (11, iq ((i : Int) + 1)), (38, iq (i : Int)), (39, .bool true), (90, .pointer (pB b3)), (91, iq fr), (92, .pointer (some ⟨b33, 8, none⟩)), (93, iq fr), (94, .bool false), (97, .pointer (pB b3)), (98, iq (ageI w1 fr)), (99, .agg #[iq 0, iq 0, iq W1q, iq H1q, .slice A212 k214 cp215, .slice B216 kB218 cB219, iq w1, iq w0, iq fr]), (100, iq (ageI w1 fr)), (101, .bool false), (104, .pointer (pB b3)), (105, .agg #[iq 0, iq 0, iq W1q, iq H1q]), (106, .agg #[iq 0, iq 0, iq W1q, iq H1q]), (107, .bool false)] ?_
     refine cont_done ?_
     refine then_normal ?_
     refine cont_pick [5, 0, 1, 6, 7, 8, 2, 3, 9, 10, 11] [.cells b33 [iq 0, iq 0, iq W1q, iq H1q, .slice A212 k214 cp215, .slice B216 kB218 cB219, iq w1, iq w0, iq fr] 81 true, .gen (rowE (A212) g213 k214 cp215 28 4 (rvals LQ224) true), .gen (rowE (B216) gB217 kB218 cB219 28 4 (rvals LQ223) true), .cells b3 [.pointer (pB m4), .pointer (pB m17), .slice A202q k204q cp205q, .slice B206q kB208q cB209q, iq w0, iq w1, iq fr, iq 1] 98 true, .cells m4 [iq W1q, iq H1q, .slice (pB r5) n6 n6] 115 true, .gen (rowE (pB r5) r5 n6 n6 54 1 (ivals .u32 (List.replicate n6 0)) true), .gen (rowE (A202q) gA203q k204q cp205q 28 4 (rvals LQ223) true), .gen (rowE (B206q) gB207q kB208q cB209q 28 4 (rvals LQ224) true), .cells b2 [iq 0, iq 0, iq W1q, iq H1q] 28 true, .gen (rdE (A) g o n 7 (dvals Deed18.cells xs)), .gen (subE n (fun i_ => rdE ((dget xs i_).A1) (dget xs i_).g1 (dget xs i_).o1 (dget xs i_).m1 4 (rvals (dget xs i_).x1)))] (by decide) rfl rfl ?_
     refine cont_norm [(2, .slice A n cap), (7, .pointer (pB b2)), (8, .pointer (pB b3)), (10, .pointer (pB b33)), (11, iq ((i : Int) + 1)), (38, iq (i : Int)), (39, .bool true), (90, .pointer (pB b3)), (91, iq fr), (92, .pointer (some ⟨b33, 8, none⟩)), (93, iq fr), (94, .bool false), (97, .pointer (pB b3)), (98, iq (ageI w1 fr)), (99, .agg #[iq 0, iq 0, iq W1q, iq H1q, .slice A212 k214 cp215, .slice B216 kB218 cB219, iq w1, iq w0, iq fr]), (100, iq (ageI w1 fr)), (101, .bool false), (104, .pointer (pB b3)), (105, .agg #[iq 0, iq 0, iq W1q, iq H1q]), (106, .agg #[iq 0, iq 0, iq W1q, iq H1q]), (107, .bool false)] _ (by kernel_rfl) rfl ?_
     refine cont_again ((i + 1 : Nat), 1, w0, w1, fr, LQ223, A202q, gA203q, k204q, cp205q, LQ224, B206q, gB207q, kB208q, cB209q, A212, g213, k214, cp215, B216, gB217, kB218, cB219) (show ((i + 1 : Nat)) ≤ 30 ∧ ((i + 1 : Nat)) ≤ n ∧ (1) ≤ 1 ∧ 0 ≤ (fr) ∧ (fr) ≤ (((i + 1 : Nat)) : Int) ∧ 0 ≤ (w0) ∧ (w0) ≤ (fr) ∧ 0 ≤ (w1) ∧ (w1) ≤ (fr) ∧ (k204q) ≤ 64 ∧ (kB208q) ≤ 64 ∧ (k214) ≤ 64 ∧ (kB218) ≤ 64 from ⟨by omega, by omega, by omega, by omega, by omega, by omega, by omega, by omega, by omega, by omega, by omega, by omega, by omega⟩) (show 40 - ((i + 1 : Nat)) < 40 - i from by omega) (by kernel_rfl) (by kernel_rfl)
    replace c201_ := ne_of_beqf c201_
    refine cont_false rfl ?_
    refine cont_seq ?_
    refine cont_region 2 rfl ?_
    refine bS [0, 0] 2 0 [(2, .slice A n cap), (7, .pointer (pB b2)), (8, .pointer (pB b3)), (10, .pointer (pB b33)), (11, iq (i : Int)), (13, .slice el.A1 (Int.toNat mq) el.k1), (38, iq (i : Int)), (39, .bool true), (55, iq el.x0), (64, .bool (el.x0 == 1))] ?_
    refine cont_done ?_
    refine then_normal ?_
    refine cont_split 64 (el.x0 == 1) rfl (fun c239_ => ?_) (fun c239_ => ?_)
    ·
     replace c239_ := eq_of_beqt c239_
     refine cont_true rfl ?_
     refine cont_seq ?_
     refine cont_region 4 rfl ?_
     refine bS [0, 0] 2 2 [(2, .slice A n cap), (7, .pointer (pB b2)), (8, .pointer (pB b3)), (10, .pointer (pB b33)), (11, iq (i : Int)), (13, .slice el.A1 (Int.toNat mq) el.k1), (38, iq (i : Int)), (39, .bool true), (66, .pointer (pB b3)), (67, .slice el.A1 (Int.toNat mq) el.k1)] ?_
     refine pl_step 3 1 rfl rfl ?_
     refine call_gen (d := 68) (α := Option Addr × Nat × Nat × Nat) (fun x_ => .slice x_.1 x_.2.2.1 x_.2.2.2) (fun x_ => [.gen (rowE (x_.1) x_.2.1 x_.2.2.1 x_.2.2.2 28 4 (rvals (smallL (el.x1.take (Int.toNat mq)) 4)) true), .gen (rdE (el.A1) el.g1 el.o1 el.m1 4 (rvals el.x1)), .cells b33 [iq 0, iq 0, iq W1q, iq H1q, .slice Au ku cu, .slice Av kv cv, iq w1, iq w0, iq fr] 81 true, .gen (rowE (Au) gu ku cu 28 4 (rvals xs1) true), .gen (rowE (Av) gv kv cv 28 4 (rvals xs0) true), .cells b3 [.pointer (pB m4), .pointer (pB m17), .slice Ax kx cx, .slice Ay ky cy, iq w0, iq w1, iq fr, iq 1] 98 true, .cells m4 [iq W1q, iq H1q, .slice (pB r5) n6 n6] 115 true, .gen (rowE (pB r5) r5 n6 n6 54 1 (ivals .u32 (List.replicate n6 0)) true), .gen (rowE (Ax) gx kx cx 28 4 (rvals xs0) true), .gen (rowE (Ay) gy ky cy 28 4 (rvals xs1) true), .cells b2 [iq 0, iq 0, iq W1q, iq H1q] 28 true, .gen (rdE (A) g o n 7 (dvals Deed18.cells xs)), .gen (subE n (fun i_ => rdE ((dget xs i_).A1) (dget xs i_).g1 (dget xs i_).o1 (dget xs i_).m1 4 (rvals (dget xs i_).x1)))]) (fun x_ => True) (by kernel_rfl) (fun w hT => (refSmallL el.A1 el.g1 el.o1 (Int.toNat mq) el.k1 (el.x1.take (Int.toNat mq)) 4 w (hT.viewRo (.cons (i := 0) rfl (Vw.rdHeadA (n := el.m1) (m := (Int.toNat mq)) (by omega)) .nil) rfl) (fun r hr => helg.b1 r (List.mem_of_mem_take hr)) (by omega)).mono fun e w' ⟨A240, g241, k242, cp243, he_, ht_⟩ => ⟨(A240, g241, k242, cp243), he_, trivial, hT.news ht_ rfl⟩) ?_
     rintro ⟨A240, g241, k242, cp243⟩ hf244_
     refine cont_norm [(2, .slice A n cap), (7, .pointer (pB b2)), (8, .pointer (pB b3)), (10, .pointer (pB b33)), (11, iq (i : Int)), (13, .slice el.A1 (Int.toNat mq) el.k1), (38, iq (i : Int)), (39, .bool true), (66, .pointer (pB b3)), (67, .slice el.A1 (Int.toNat mq) el.k1), (68, .slice A240 k242 cp243)] _ (by kernel_rfl) rfl ?_
     refine cont_fact (F := (0 < k242 → (A240 : Option Addr) = pB g241) ∧ (smallL (el.x1.take (Int.toNat mq)) 4).length = k242 ∧ k242 ≤ cp243 ∧ cp243 ≤ maxLen) (fun w hT => Row.factsR (hT.ok 0 _ rfl)) (fun hr245_ => ?_)
     obtain ⟨hr245_a, hr245_l, hr245_c, hr245_m⟩ := hr245_
     unfold maxLen at hr245_m
     have hsl246_ := smallL_length (el.x1.take (Int.toNat mq)) 4
     refine pl_step 4 0 rfl rfl ?_
     refine call_gen (d := 69) (α := Option Addr × Nat × Nat × Nat × Option Addr × Nat × Nat × Nat) (fun _ => .tuple #[]) (fun x_ => [.gen (rowE (x_.1) x_.2.1 x_.2.2.1 x_.2.2.2.1 28 4 (rvals (keepL hullP (regM orB xs0 (regM andB (canR (smallL (el.x1.take (Int.toNat mq)) 4)) (canR [(⟨0, 0, W1q, H1q⟩ : Rect)]))) 64)) true), .gen (rowE (x_.2.2.2.2.1) x_.2.2.2.2.2.1 x_.2.2.2.2.2.2.1 x_.2.2.2.2.2.2.2 28 4 (rvals (keepL hullP (regM orB xs1 (regM andB (canR (smallL (el.x1.take (Int.toNat mq)) 4)) (canR [(⟨0, 0, W1q, H1q⟩ : Rect)]))) 64)) true), .gen (rowE (A240) g241 k242 cp243 28 4 (rvals (smallL (el.x1.take (Int.toNat mq)) 4)) true), .gen (rdE (el.A1) el.g1 el.o1 el.m1 4 (rvals el.x1)), .cells b33 [iq 0, iq 0, iq W1q, iq H1q, .slice Au ku cu, .slice Av kv cv, iq w1, iq w0, iq fr] 81 true, .gen (rowE (Au) gu ku cu 28 4 (rvals xs1) true), .gen (rowE (Av) gv kv cv 28 4 (rvals xs0) true), .cells b3 [.pointer (pB m4), .pointer (pB m17), .slice x_.1 x_.2.2.1 x_.2.2.2.1, .slice x_.2.2.2.2.1 x_.2.2.2.2.2.2.1 x_.2.2.2.2.2.2.2, iq w0, iq w1, iq fr, iq 1] 98 true, .cells m4 [iq W1q, iq H1q, .slice (pB r5) n6 n6] 115 true, .gen (rowE (pB r5) r5 n6 n6 54 1 (ivals .u32 (List.replicate n6 0)) true), .gen (rowE (Ax) gx kx cx 28 4 (rvals xs0) true), .gen (rowE (Ay) gy ky cy 28 4 (rvals xs1) true), .cells b2 [iq 0, iq 0, iq W1q, iq H1q] 28 true, .gen (rdE (A) g o n 7 (dvals Deed18.cells xs)), .gen (subE n (fun i_ => rdE ((dget xs i_).A1) (dget xs i_).g1 (dget xs i_).o1 (dget xs i_).m1 4 (rvals (dget xs i_).x1)))]) (fun _ => True) (by kernel_rfl) (fun w hT => (outDamage b3 m4 m17 Ax Ay kx cx ky cy w0 w1 fr 1 W1q H1q r5 n6 n6 (List.replicate n6 0) gx xs0 gy xs1 A240 g241 0 k242 cp243 (smallL (el.x1.take (Int.toNat mq)) 4) w (hT.view (.cons (i := 5) rfl Vw.rw (.cons (i := 6) rfl Vw.roc (.cons (i := 7) rfl Vw.rowRd (.cons (i := 8) rfl Vw.rowRd (.cons (i := 9) rfl Vw.rowRd (.cons (i := 0) rfl Vw.rowRd .nil)))))) (by decide)) (by omega) (imgOk_new (by omega) hf18_a) (by omega) (by omega) (by omega)).mono fun e w' ⟨A247q, gA248q, k249q, cp250q, B251q, gB252q, kB253q, cB254q, he_, ht_⟩ => ⟨(A247q, gA248q, k249q, cp250q, B251q, gB252q, kB253q, cB254q), he_, trivial, hT.merge (N := [.gen (rowE (A247q) gA248q k249q cp250q 28 4 (rvals (keepL hullP (regM orB xs0 (regM andB (canR (smallL (el.x1.take (Int.toNat mq)) 4)) (canR [(⟨0, 0, W1q, H1q⟩ : Rect)]))) 64)) true), .gen (rowE (B251q) gB252q kB253q cB254q 28 4 (rvals (keepL hullP (regM orB xs1 (regM andB (canR (smallL (el.x1.take (Int.toNat mq)) 4)) (canR [(⟨0, 0, W1q, H1q⟩ : Rect)]))) 64)) true)]) (s := [5, 6, 7, 8, 9, 0]) ht_ (.cons (i := 5) rfl Mg.cells (.skip rfl (.skip rfl (.skip rfl (.skip rfl (.skip rfl .nil)))))) (by decide) (allOwn_get rfl)⟩) ?_
     rintro ⟨A247q, gA248q, k249q, cp250q, B251q, gB252q, kB253q, cB254q⟩ -
     refine cont_norm [(2, .slice A n cap), (7, .pointer (pB b2)), (8, .pointer (pB b3)), (10, .pointer (pB b33)), (11, iq (i : Int)), (13, .slice el.A1 (Int.toNat mq) el.k1), (38, iq (i : Int)), (39, .bool true), (66, .pointer (pB b3)), (67, .slice el.A1 (Int.toNat mq) el.k1), (68, .slice A240 k242 cp243), (69, .tuple #[])] _ (by kernel_rfl) rfl ?_
     refine cont_fact (F := (0 < k249q → (A247q : Option Addr) = pB gA248q) ∧ (keepL hullP (regM orB xs0 (regM andB (canR (smallL (el.x1.take (Int.toNat mq)) 4)) (canR [(⟨0, 0, W1q, H1q⟩ : Rect)]))) 64).length = k249q ∧ k249q ≤ cp250q ∧ cp250q ≤ maxLen) (fun w hT => Row.factsR (hT.ok 0 _ rfl)) (fun hr255_ => ?_)
     obtain ⟨hr255_a, hr255_l, hr255_c, hr255_m⟩ := hr255_
     unfold maxLen at hr255_m
     have hr255_k : k249q ≤ 64 := by rw [← hr255_l]; exact keep_len64 _ _
     clear hr255_l
     refine cont_rowEqR 0 (keepL hullP (regM orB xs0 (regM andB (canR (smallL (el.x1.take (Int.toNat mq)) 4)) (canR [(⟨0, 0, W1q, H1q⟩ : Rect)]))) 64) (keepL hullD (regM orB xs0 (regM andB (canR (smallL (el.x1.take (Int.toNat mq)) 4)) [(⟨0, 0, W1q, H1q⟩ : Rect)])) 64) rfl (out_new _ _ hbx) ?_
     refine cont_norm [(2, .slice A n cap), (7, .pointer (pB b2)), (8, .pointer (pB b3)), (10, .pointer (pB b33)), (11, iq (i : Int)), (13, .slice el.A1 (Int.toNat mq) el.k1), (38, iq (i : Int)), (39, .bool true), (66, .pointer (pB b3)), (67, .slice el.A1 (Int.toNat mq) el.k1), (68, .slice A240 k242 cp243), (69, .tuple #[])] _ (by kernel_rfl) rfl ?_
     refine cont_fact (F := (0 < kB253q → (B251q : Option Addr) = pB gB252q) ∧ (keepL hullP (regM orB xs1 (regM andB (canR (smallL (el.x1.take (Int.toNat mq)) 4)) (canR [(⟨0, 0, W1q, H1q⟩ : Rect)]))) 64).length = kB253q ∧ kB253q ≤ cB254q ∧ cB254q ≤ maxLen) (fun w hT => Row.factsR (hT.ok 1 _ rfl)) (fun hr256_ => ?_)
     obtain ⟨hr256_a, hr256_l, hr256_c, hr256_m⟩ := hr256_
     unfold maxLen at hr256_m
     have hr256_k : kB253q ≤ 64 := by rw [← hr256_l]; exact keep_len64 _ _
     clear hr256_l
     refine cont_rowEqR 1 (keepL hullP (regM orB xs1 (regM andB (canR (smallL (el.x1.take (Int.toNat mq)) 4)) (canR [(⟨0, 0, W1q, H1q⟩ : Rect)]))) 64) (keepL hullD (regM orB xs1 (regM andB (canR (smallL (el.x1.take (Int.toNat mq)) 4)) [(⟨0, 0, W1q, H1q⟩ : Rect)])) 64) rfl (out_new _ _ hbx) ?_
     refine cont_norm [(2, .slice A n cap), (7, .pointer (pB b2)), (8, .pointer (pB b3)), (10, .pointer (pB b33)), (11, iq (i : Int)), (13, .slice el.A1 (Int.toNat mq) el.k1), (38, iq (i : Int)), (39, .bool true), (66, .pointer (pB b3)), (67, .slice el.A1 (Int.toNat mq) el.k1), (68, .slice A240 k242 cp243), (69, .tuple #[])] _ (by kernel_rfl) rfl ?_
     refine cont_done ?_
     refine then_normal ?_
     refine drawn_enter 5 [4] rfl (by kernel_rfl) ?_
     refine takes 0 [4] [(1, 0)] 4 [1] [(2, .slice A n cap), (7, .pointer (pB b2)), (8, .pointer (pB b3)), (10, .pointer (pB b33)), (11, iq (i : Int)), (38, iq (i : Int)), (39, .bool true), (71, .slice el.A1 (Int.toNat mq) el.k1)] (by kernel_rfl) (pok_blk (pok_then (pok_blk (pok_then (pok_then (pok_blk (pok_then pok_body))))))) (by kernel_rfl) rfl rfl (by kernel_rfl) (by kernel_rfl) ?_
     refine drawn_two 0 2 3 rfl (by kernel_rfl) ?_ ?_
     ·
      refine one_step 4 [(2, .slice A n cap), (7, .pointer (pB b2)), (8, .pointer (pB b3)), (10, .pointer (pB b33)), (11, iq (i : Int)), (38, iq (i : Int)), (39, .bool true), (70, .agg #[iq 0, iq 0, iq W1q, iq H1q, .slice Au ku cu, .slice Av kv cv, iq w1, iq w0, iq fr]), (71, .slice el.A1 (Int.toNat mq) el.k1)] [.gen (rowE (A247q) gA248q k249q cp250q 28 4 (rvals (keepL hullD (regM orB xs0 (regM andB (canR (smallL (el.x1.take (Int.toNat mq)) 4)) [(⟨0, 0, W1q, H1q⟩ : Rect)])) 64)) true), .gen (rowE (B251q) gB252q kB253q cB254q 28 4 (rvals (keepL hullD (regM orB xs1 (regM andB (canR (smallL (el.x1.take (Int.toNat mq)) 4)) [(⟨0, 0, W1q, H1q⟩ : Rect)])) 64)) true), .gen (rowE (A240) g241 k242 cp243 28 4 (rvals (smallL (el.x1.take (Int.toNat mq)) 4)) true), .gen (rdE (el.A1) el.g1 el.o1 el.m1 4 (rvals el.x1)), .cells b33 [iq 0, iq 0, iq W1q, iq H1q, .slice Au ku cu, .slice Av kv cv, iq w1, iq w0, iq fr] 81 true, .gen (rowE (Au) gu ku cu 28 4 (rvals xs1) true), .gen (rowE (Av) gv kv cv 28 4 (rvals xs0) true), .cells b3 [.pointer (pB m4), .pointer (pB m17), .slice A247q k249q cp250q, .slice B251q kB253q cB254q, iq w0, iq w1, iq fr, iq 1] 98 true, .cells m4 [iq W1q, iq H1q, .slice (pB r5) n6 n6] 115 true, .gen (rowE (pB r5) r5 n6 n6 54 1 (ivals .u32 (List.replicate n6 0)) true), .gen (rowE (Ax) gx kx cx 28 4 (rvals xs0) true), .gen (rowE (Ay) gy ky cy 28 4 (rvals xs1) true), .cells b2 [iq 0, iq 0, iq W1q, iq H1q] 28 true, .gen (rdE (A) g o n 7 (dvals Deed18.cells xs)), .gen (subE n (fun i_ => rdE ((dget xs i_).A1) (dget xs i_).g1 (dget xs i_).o1 (dget xs i_).m1 4 (rvals (dget xs i_).x1)))] (by kernel_rfl) (by kernel_rfl) ?_
      refine drawn_next 0 [4] (by kernel_rfl) ?_
      refine drawn_one 2 2 rfl (by kernel_rfl) ?_
      refine call_gen (d := 72) (α := Option Addr × Nat × Nat × Nat) (fun x_ => .slice x_.1 x_.2.2.1 x_.2.2.2) (fun x_ => [.gen (rowE (x_.1) x_.2.1 x_.2.2.1 x_.2.2.2 28 4 (rvals (smallL (el.x1.take (Int.toNat mq)) 4)) true), .gen (rowE (A247q) gA248q k249q cp250q 28 4 (rvals (keepL hullD (regM orB xs0 (regM andB (canR (smallL (el.x1.take (Int.toNat mq)) 4)) [(⟨0, 0, W1q, H1q⟩ : Rect)])) 64)) true), .gen (rowE (B251q) gB252q kB253q cB254q 28 4 (rvals (keepL hullD (regM orB xs1 (regM andB (canR (smallL (el.x1.take (Int.toNat mq)) 4)) [(⟨0, 0, W1q, H1q⟩ : Rect)])) 64)) true), .gen (rowE (A240) g241 k242 cp243 28 4 (rvals (smallL (el.x1.take (Int.toNat mq)) 4)) true), .gen (rdE (el.A1) el.g1 el.o1 el.m1 4 (rvals el.x1)), .cells b33 [iq 0, iq 0, iq W1q, iq H1q, .slice Au ku cu, .slice Av kv cv, iq w1, iq w0, iq fr] 81 true, .gen (rowE (Au) gu ku cu 28 4 (rvals xs1) true), .gen (rowE (Av) gv kv cv 28 4 (rvals xs0) true), .cells b3 [.pointer (pB m4), .pointer (pB m17), .slice A247q k249q cp250q, .slice B251q kB253q cB254q, iq w0, iq w1, iq fr, iq 1] 98 true, .cells m4 [iq W1q, iq H1q, .slice (pB r5) n6 n6] 115 true, .gen (rowE (pB r5) r5 n6 n6 54 1 (ivals .u32 (List.replicate n6 0)) true), .gen (rowE (Ax) gx kx cx 28 4 (rvals xs0) true), .gen (rowE (Ay) gy ky cy 28 4 (rvals xs1) true), .cells b2 [iq 0, iq 0, iq W1q, iq H1q] 28 true, .gen (rdE (A) g o n 7 (dvals Deed18.cells xs)), .gen (subE n (fun i_ => rdE ((dget xs i_).A1) (dget xs i_).g1 (dget xs i_).o1 (dget xs i_).m1 4 (rvals (dget xs i_).x1)))]) (fun x_ => True) (by kernel_rfl) (fun w hT => (refSmallL el.A1 el.g1 el.o1 (Int.toNat mq) el.k1 (el.x1.take (Int.toNat mq)) 4 w (hT.viewRo (.cons (i := 3) rfl (Vw.rdHeadA (n := el.m1) (m := (Int.toNat mq)) (by omega)) .nil) rfl) (fun r hr => helg.b1 r (List.mem_of_mem_take hr)) (by omega)).mono fun e w' ⟨A257, g258, k259, cp260, he_, ht_⟩ => ⟨(A257, g258, k259, cp260), he_, trivial, hT.news ht_ rfl⟩) ?_
      rintro ⟨A257, g258, k259, cp260⟩ hf261_
      refine cont_norm [(2, .slice A n cap), (7, .pointer (pB b2)), (8, .pointer (pB b3)), (10, .pointer (pB b33)), (11, iq (i : Int)), (38, iq (i : Int)), (39, .bool true), (70, .agg #[iq 0, iq 0, iq W1q, iq H1q, .slice Au ku cu, .slice Av kv cv, iq w1, iq w0, iq fr]), (71, .slice el.A1 (Int.toNat mq) el.k1), (72, .slice A257 k259 cp260)] _ (by kernel_rfl) rfl ?_
      refine cont_fact (F := (0 < k259 → (A257 : Option Addr) = pB g258) ∧ (smallL (el.x1.take (Int.toNat mq)) 4).length = k259 ∧ k259 ≤ cp260 ∧ cp260 ≤ maxLen) (fun w hT => Row.factsR (hT.ok 0 _ rfl)) (fun hr262_ => ?_)
      obtain ⟨hr262_a, hr262_l, hr262_c, hr262_m⟩ := hr262_
      unfold maxLen at hr262_m
      have hsl263_ := smallL_length (el.x1.take (Int.toNat mq)) 4
      refine drawn_next 1 [4] (by kernel_rfl) ?_
      refine drawn_one 3 1 rfl (by kernel_rfl) ?_
      refine call_gen (d := 73) (α := Option Addr × Nat × Nat × Nat × Option Addr × Nat × Nat × Nat) (fun x_ => .agg #[iq 0, iq 0, iq W1q, iq H1q, .slice x_.1 x_.2.2.1 x_.2.2.2.1, .slice x_.2.2.2.2.1 x_.2.2.2.2.2.2.1 x_.2.2.2.2.2.2.2, iq w1, iq w0, iq fr]) (fun x_ => [.gen (rowE (x_.1) x_.2.1 x_.2.2.1 x_.2.2.2.1 28 4 (rvals (keepL hullD (regM orB xs1 (regM andB (canR (smallL (el.x1.take (Int.toNat mq)) 4)) [(⟨0, 0, W1q, H1q⟩ : Rect)])) 64)) true), .gen (rowE (x_.2.2.2.2.1) x_.2.2.2.2.2.1 x_.2.2.2.2.2.2.1 x_.2.2.2.2.2.2.2 28 4 (rvals (keepL hullD (regM orB xs0 (regM andB (canR (smallL (el.x1.take (Int.toNat mq)) 4)) [(⟨0, 0, W1q, H1q⟩ : Rect)])) 64)) true), .gen (rowE (A257) g258 k259 cp260 28 4 (rvals (smallL (el.x1.take (Int.toNat mq)) 4)) true), .gen (rowE (A247q) gA248q k249q cp250q 28 4 (rvals (keepL hullD (regM orB xs0 (regM andB (canR (smallL (el.x1.take (Int.toNat mq)) 4)) [(⟨0, 0, W1q, H1q⟩ : Rect)])) 64)) true), .gen (rowE (B251q) gB252q kB253q cB254q 28 4 (rvals (keepL hullD (regM orB xs1 (regM andB (canR (smallL (el.x1.take (Int.toNat mq)) 4)) [(⟨0, 0, W1q, H1q⟩ : Rect)])) 64)) true), .gen (rowE (A240) g241 k242 cp243 28 4 (rvals (smallL (el.x1.take (Int.toNat mq)) 4)) true), .gen (rdE (el.A1) el.g1 el.o1 el.m1 4 (rvals el.x1)), .cells b33 [iq 0, iq 0, iq W1q, iq H1q, .slice Au ku cu, .slice Av kv cv, iq w1, iq w0, iq fr] 81 true, .gen (rowE (Au) gu ku cu 28 4 (rvals xs1) true), .gen (rowE (Av) gv kv cv 28 4 (rvals xs0) true), .cells b3 [.pointer (pB m4), .pointer (pB m17), .slice A247q k249q cp250q, .slice B251q kB253q cB254q, iq w0, iq w1, iq fr, iq 1] 98 true, .cells m4 [iq W1q, iq H1q, .slice (pB r5) n6 n6] 115 true, .gen (rowE (pB r5) r5 n6 n6 54 1 (ivals .u32 (List.replicate n6 0)) true), .gen (rowE (Ax) gx kx cx 28 4 (rvals xs0) true), .gen (rowE (Ay) gy ky cy 28 4 (rvals xs1) true), .cells b2 [iq 0, iq 0, iq W1q, iq H1q] 28 true, .gen (rdE (A) g o n 7 (dvals Deed18.cells xs)), .gen (subE n (fun i_ => rdE ((dget xs i_).A1) (dget xs i_).g1 (dget xs i_).o1 (dget xs i_).m1 4 (rvals (dget xs i_).x1)))]) (fun x_ => True) (by kernel_rfl) (fun w hT => (refDamage18 W1q H1q Au ku cu Av kv cv w1 w0 fr gu xs1 gv xs0 A257 g258 0 k259 cp260 (smallL (el.x1.take (Int.toNat mq)) 4) w (hT.viewRo (.cons (i := 6) rfl Vw.rowRd (.cons (i := 7) rfl Vw.rowRd (.cons (i := 0) rfl Vw.rowRd .nil))) rfl) (by omega) (by omega) (by omega) (by omega)).mono fun e w' ⟨A264, g265, k266, cp267, B268, gB269, kB270, cB271, he_, ht_⟩ => ⟨(A264, g265, k266, cp267, B268, gB269, kB270, cB271), he_, trivial, hT.news ht_ rfl⟩) ?_
      rintro ⟨A264, g265, k266, cp267, B268, gB269, kB270, cB271⟩ hf272_
      refine cont_norm [(2, .slice A n cap), (7, .pointer (pB b2)), (8, .pointer (pB b3)), (10, .pointer (pB b33)), (11, iq (i : Int)), (38, iq (i : Int)), (39, .bool true), (70, .agg #[iq 0, iq 0, iq W1q, iq H1q, .slice Au ku cu, .slice Av kv cv, iq w1, iq w0, iq fr]), (71, .slice el.A1 (Int.toNat mq) el.k1), (72, .slice A257 k259 cp260), (73, .agg #[iq 0, iq 0, iq W1q, iq H1q, .slice A264 k266 cp267, .slice B268 kB270 cB271, iq w1, iq w0, iq fr])] _ (by kernel_rfl) rfl ?_
      refine cont_fact (F := (0 < k266 → (A264 : Option Addr) = pB g265) ∧ (keepL hullD (regM orB xs1 (regM andB (canR (smallL (el.x1.take (Int.toNat mq)) 4)) [(⟨0, 0, W1q, H1q⟩ : Rect)])) 64).length = k266 ∧ k266 ≤ cp267 ∧ cp267 ≤ maxLen) (fun w hT => Row.factsR (hT.ok 0 _ rfl)) (fun hr273_ => ?_)
      obtain ⟨hr273_a, hr273_l, hr273_c, hr273_m⟩ := hr273_
      unfold maxLen at hr273_m
      have hr273_k : k266 ≤ 64 := by rw [← hr273_l]; exact keep_len64 _ _
      clear hr273_l
      refine cont_fact (F := (0 < kB270 → (B268 : Option Addr) = pB gB269) ∧ (keepL hullD (regM orB xs0 (regM andB (canR (smallL (el.x1.take (Int.toNat mq)) 4)) [(⟨0, 0, W1q, H1q⟩ : Rect)])) 64).length = kB270 ∧ kB270 ≤ cB271 ∧ cB271 ≤ maxLen) (fun w hT => Row.factsR (hT.ok 1 _ rfl)) (fun hr274_ => ?_)
      obtain ⟨hr274_a, hr274_l, hr274_c, hr274_m⟩ := hr274_
      unfold maxLen at hr274_m
      have hr274_k : kB270 ≤ 64 := by rw [← hr274_l]; exact keep_len64 _ _
      clear hr274_l
      refine drawn_next 3 [4] (by kernel_rfl) ?_
      refine drawn_one 4 0 rfl (by kernel_rfl) ?_
      refine one_step 7 [(2, .slice A n cap), (7, .pointer (pB b2)), (8, .pointer (pB b3)), (10, .pointer (pB b33)), (11, iq (i : Int)), (38, iq (i : Int)), (39, .bool true)] [.gen (rowE (A264) g265 k266 cp267 28 4 (rvals (keepL hullD (regM orB xs1 (regM andB (canR (smallL (el.x1.take (Int.toNat mq)) 4)) [(⟨0, 0, W1q, H1q⟩ : Rect)])) 64)) true), .gen (rowE (B268) gB269 kB270 cB271 28 4 (rvals (keepL hullD (regM orB xs0 (regM andB (canR (smallL (el.x1.take (Int.toNat mq)) 4)) [(⟨0, 0, W1q, H1q⟩ : Rect)])) 64)) true), .gen (rowE (A257) g258 k259 cp260 28 4 (rvals (smallL (el.x1.take (Int.toNat mq)) 4)) true), .gen (rowE (A247q) gA248q k249q cp250q 28 4 (rvals (keepL hullD (regM orB xs0 (regM andB (canR (smallL (el.x1.take (Int.toNat mq)) 4)) [(⟨0, 0, W1q, H1q⟩ : Rect)])) 64)) true), .gen (rowE (B251q) gB252q kB253q cB254q 28 4 (rvals (keepL hullD (regM orB xs1 (regM andB (canR (smallL (el.x1.take (Int.toNat mq)) 4)) [(⟨0, 0, W1q, H1q⟩ : Rect)])) 64)) true), .gen (rowE (A240) g241 k242 cp243 28 4 (rvals (smallL (el.x1.take (Int.toNat mq)) 4)) true), .gen (rdE (el.A1) el.g1 el.o1 el.m1 4 (rvals el.x1)), .cells b33 [iq 0, iq 0, iq W1q, iq H1q, .slice A264 k266 cp267, .slice B268 kB270 cB271, iq w1, iq w0, iq fr] 81 true, .gen (rowE (Au) gu ku cu 28 4 (rvals xs1) true), .gen (rowE (Av) gv kv cv 28 4 (rvals xs0) true), .cells b3 [.pointer (pB m4), .pointer (pB m17), .slice A247q k249q cp250q, .slice B251q kB253q cB254q, iq w0, iq w1, iq fr, iq 1] 98 true, .cells m4 [iq W1q, iq H1q, .slice (pB r5) n6 n6] 115 true, .gen (rowE (pB r5) r5 n6 n6 54 1 (ivals .u32 (List.replicate n6 0)) true), .gen (rowE (Ax) gx kx cx 28 4 (rvals xs0) true), .gen (rowE (Ay) gy ky cy 28 4 (rvals xs1) true), .cells b2 [iq 0, iq 0, iq W1q, iq H1q] 28 true, .gen (rdE (A) g o n 7 (dvals Deed18.cells xs)), .gen (subE n (fun i_ => rdE ((dget xs i_).A1) (dget xs i_).g1 (dget xs i_).o1 (dget xs i_).m1 4 (rvals (dget xs i_).x1)))] (by kernel_rfl) (by kernel_rfl) ?_
      refine drawn_next 3 [4] (by kernel_rfl) ?_
      refine drawn_done (by kernel_rfl) ?_
      refine blk_normal ?_
      refine then_normal ?_
      refine cont_seq ?_
      obtain ⟨LQ275, hLQ275⟩ : ∃ y_ : List Rect, y_ = keepL hullD (regM orB xs0 (regM andB (canR (smallL (el.x1.take (Int.toNat mq)) 4)) [(⟨0, 0, W1q, H1q⟩ : Rect)])) 64 := ⟨_, rfl⟩
      refine cont_rowEqR 3 (keepL hullD (regM orB xs0 (regM andB (canR (smallL (el.x1.take (Int.toNat mq)) 4)) [(⟨0, 0, W1q, H1q⟩ : Rect)])) 64) (LQ275) rfl hLQ275.symm ?_
      obtain ⟨LQ276, hLQ276⟩ : ∃ y_ : List Rect, y_ = keepL hullD (regM orB xs1 (regM andB (canR (smallL (el.x1.take (Int.toNat mq)) 4)) [(⟨0, 0, W1q, H1q⟩ : Rect)])) 64 := ⟨_, rfl⟩
      refine cont_rowEqR 4 (keepL hullD (regM orB xs1 (regM andB (canR (smallL (el.x1.take (Int.toNat mq)) 4)) [(⟨0, 0, W1q, H1q⟩ : Rect)])) 64) (LQ276) rfl hLQ276.symm ?_
      refine cont_rowEqR 0 (keepL hullD (regM orB xs1 (regM andB (canR (smallL (el.x1.take (Int.toNat mq)) 4)) [(⟨0, 0, W1q, H1q⟩ : Rect)])) 64) (LQ276) rfl hLQ276.symm ?_
      refine cont_rowEqR 1 (keepL hullD (regM orB xs0 (regM andB (canR (smallL (el.x1.take (Int.toNat mq)) 4)) [(⟨0, 0, W1q, H1q⟩ : Rect)])) 64) (LQ275) rfl hLQ275.symm ?_
      refine cont_norm [(2, .slice A n cap), (7, .pointer (pB b2)), (8, .pointer (pB b3)), (10, .pointer (pB b33)), (11, iq (i : Int)), (38, iq (i : Int)), (39, .bool true)] _ (by kernel_rfl) rfl ?_
      clear hLQ275
      clear hLQ276
      refine cont_fact (F := (0 < k249q → (A247q : Option Addr) = pB gA248q) ∧ LQ275.length = k249q ∧ k249q ≤ cp250q ∧ cp250q ≤ maxLen) (fun w hT => Row.factsR (hT.ok 3 _ rfl)) (fun hr277_ => ?_)
      obtain ⟨hr277_a, hr277_l, hr277_c, hr277_m⟩ := hr277_
      unfold maxLen at hr277_m
      refine cont_fact (F := (0 < kB253q → (B251q : Option Addr) = pB gB252q) ∧ LQ276.length = kB253q ∧ kB253q ≤ cB254q ∧ cB254q ≤ maxLen) (fun w hT => Row.factsR (hT.ok 4 _ rfl)) (fun hr278_ => ?_)
      obtain ⟨hr278_a, hr278_l, hr278_c, hr278_m⟩ := hr278_
      unfold maxLen at hr278_m
      refine cont_fact (F := (0 < k266 → (A264 : Option Addr) = pB g265) ∧ LQ276.length = k266 ∧ k266 ≤ cp267 ∧ cp267 ≤ maxLen) (fun w hT => Row.factsR (hT.ok 0 _ rfl)) (fun hr279_ => ?_)
      obtain ⟨hr279_a, hr279_l, hr279_c, hr279_m⟩ := hr279_
      unfold maxLen at hr279_m
      refine cont_fact (F := (0 < kB270 → (B268 : Option Addr) = pB gB269) ∧ LQ275.length = kB270 ∧ kB270 ≤ cB271 ∧ cB271 ≤ maxLen) (fun w hT => Row.factsR (hT.ok 1 _ rfl)) (fun hr280_ => ?_)
      obtain ⟨hr280_a, hr280_l, hr280_c, hr280_m⟩ := hr280_
      unfold maxLen at hr280_m
      refine drawn_enter 26 [] rfl (by kernel_rfl) ?_
      refine takes 0 [] [(0, 0), (2, 0), (3, 7)] 23 [3, 2, 0] [(2, .slice A n cap), (7, .pointer (pB b2)), (8, .pointer (pB b3)), (10, .pointer (pB b33)), (11, iq (i : Int)), (38, iq (i : Int)), (39, .bool true), (83, .pointer (pB b3)), (86, .slice A264 k266 cp267)] (by kernel_rfl) (pok_then (pok_blk (pok_then (pok_then (pok_blk (pok_then pok_body)))))) (by kernel_rfl) rfl rfl (by kernel_rfl) (by kernel_rfl) ?_
      refine drawn_one 1 22 rfl (by kernel_rfl) ?_
      refine call_gen (d := 84) (α := Option Addr × Nat × Nat × Nat) (fun x_ => .slice x_.1 x_.2.2.1 x_.2.2.2) (fun x_ => [.gen (rowE (x_.1) x_.2.1 x_.2.2.1 x_.2.2.2 28 4 (rvals LQ276) true), .gen (rowE (A264) g265 k266 cp267 28 4 (rvals LQ276) true), .gen (rowE (B268) gB269 kB270 cB271 28 4 (rvals LQ275) true), .gen (rowE (A257) g258 k259 cp260 28 4 (rvals (smallL (el.x1.take (Int.toNat mq)) 4)) true), .gen (rowE (A247q) gA248q k249q cp250q 28 4 (rvals LQ275) true), .gen (rowE (B251q) gB252q kB253q cB254q 28 4 (rvals LQ276) true), .gen (rowE (A240) g241 k242 cp243 28 4 (rvals (smallL (el.x1.take (Int.toNat mq)) 4)) true), .gen (rdE (el.A1) el.g1 el.o1 el.m1 4 (rvals el.x1)), .cells b33 [iq 0, iq 0, iq W1q, iq H1q, .slice A264 k266 cp267, .slice B268 kB270 cB271, iq w1, iq w0, iq fr] 81 true, .gen (rowE (Au) gu ku cu 28 4 (rvals xs1) true), .gen (rowE (Av) gv kv cv 28 4 (rvals xs0) true), .cells b3 [.pointer (pB m4), .pointer (pB m17), .slice A247q k249q cp250q, .slice B251q kB253q cB254q, iq w0, iq w1, iq fr, iq 1] 98 true, .cells m4 [iq W1q, iq H1q, .slice (pB r5) n6 n6] 115 true, .gen (rowE (pB r5) r5 n6 n6 54 1 (ivals .u32 (List.replicate n6 0)) true), .gen (rowE (Ax) gx kx cx 28 4 (rvals xs0) true), .gen (rowE (Ay) gy ky cy 28 4 (rvals xs1) true), .cells b2 [iq 0, iq 0, iq W1q, iq H1q] 28 true, .gen (rdE (A) g o n 7 (dvals Deed18.cells xs)), .gen (subE n (fun i_ => rdE ((dget xs i_).A1) (dget xs i_).g1 (dget xs i_).o1 (dget xs i_).m1 4 (rvals (dget xs i_).x1)))]) (fun x_ => True) (by kernel_rfl) (fun w hT => (outStale1 b3 m4 m17 A247q B251q k249q cp250q kB253q cB254q w0 w1 fr gB252q LQ276 w (hT.viewRo (.cons (i := 10) rfl Vw.roc (.cons (i := 4) rfl Vw.rowRd .nil)) rfl) (by omega)).mono fun e w' ⟨A281, g282, k283, cp284, he_, ht_⟩ => ⟨(A281, g282, k283, cp284), he_, trivial, hT.news ht_ rfl⟩) ?_
      rintro ⟨A281, g282, k283, cp284⟩ hf285_
      refine cont_norm [(2, .slice A n cap), (7, .pointer (pB b2)), (8, .pointer (pB b3)), (10, .pointer (pB b33)), (11, iq (i : Int)), (38, iq (i : Int)), (39, .bool true), (83, .pointer (pB b3)), (84, .slice A281 k283 cp284), (86, .slice A264 k266 cp267)] _ (by kernel_rfl) rfl ?_
      refine cont_fact (F := (0 < k283 → (A281 : Option Addr) = pB g282) ∧ LQ276.length = k283 ∧ k283 ≤ cp284 ∧ cp284 ≤ maxLen) (fun w hT => Row.factsR (hT.ok 0 _ rfl)) (fun hr286_ => ?_)
      obtain ⟨hr286_a, hr286_l, hr286_c, hr286_m⟩ := hr286_
      unfold maxLen at hr286_m
      refine drawn_next 1 [] (by kernel_rfl) ?_
      refine drawn_one 4 21 rfl (by kernel_rfl) ?_
      refine call_pure (d := 87) (.bool (decide (LQ276 = LQ276))) (by kernel_rfl) (fun w hT => refSame A281 g282 0 k283 cp284 LQ276 A264 g265 0 k266 cp267 LQ276 w (hT.viewRo (.cons (i := 0) rfl Vw.rowRd (.cons (i := 1) rfl Vw.rowRd .nil)) rfl) (by omega)) ?_
      refine drawn_next 1 [] (by kernel_rfl) ?_
      refine takes 1 [] [(5, 0), (6, 0)] 19 [6, 5, 4, 1, 3, 2, 0] [(2, .slice A n cap), (7, .pointer (pB b2)), (8, .pointer (pB b3)), (10, .pointer (pB b33)), (11, iq (i : Int)), (38, iq (i : Int)), (39, .bool true), (89, .bool (!(decide (LQ276 = LQ276))))] (by kernel_rfl) (pok_then (pok_blk (pok_then (pok_then (pok_blk (pok_then pok_body)))))) (by kernel_rfl) rfl rfl (by kernel_rfl) (by kernel_rfl) ?_
      refine cont_recast 89 (.bool (!(decide (LQ276 = LQ276)))) (.bool false) rfl (congrArg Value.bool (by rw [show (decide (LQ276 = LQ276)) = true from (decide_eq_true rfl)]; rfl)) ?_
      refine takes 1 [] [(7, 0), (9, 0), (10, 7)] 16 [10, 9, 7, 6, 5, 4, 1, 3, 2, 0] [(2, .slice A n cap), (7, .pointer (pB b2)), (8, .pointer (pB b3)), (10, .pointer (pB b33)), (11, iq (i : Int)), (38, iq (i : Int)), (39, .bool true), (89, .bool false), (90, .pointer (pB b3)), (92, .pointer (some ⟨b33, 8, none⟩)), (93, iq fr)] (by kernel_rfl) (pok_then (pok_blk (pok_then (pok_then (pok_blk (pok_then pok_body)))))) (by kernel_rfl) rfl rfl (by kernel_rfl) (by kernel_rfl) ?_
      refine drawn_one 8 15 rfl (by kernel_rfl) ?_
      refine call_pure (d := 91) (iq fr) (by kernel_rfl) (fun w hT => outFrames b3 m4 m17 A247q B251q k249q cp250q kB253q cB254q w0 w1 fr 1 w (hT.viewRo (.cons (i := 11) rfl Vw.roc .nil) rfl)) ?_
      refine drawn_next 1 [] (by kernel_rfl) ?_
      refine takes 1 [] [(11, 0), (12, 0), (13, 0)] 12 [13, 12, 11, 8, 10, 9, 7, 6, 5, 4, 1, 3, 2, 0] [(2, .slice A n cap), (7, .pointer (pB b2)), (8, .pointer (pB b3)), (10, .pointer (pB b33)), (11, iq (i : Int)), (38, iq (i : Int)), (39, .bool true), (90, .pointer (pB b3)), (91, iq fr), (92, .pointer (some ⟨b33, 8, none⟩)), (93, iq fr), (94, .bool (fr != fr)), (96, .bool (fr != fr))] (by kernel_rfl) (pok_then (pok_blk (pok_then (pok_then (pok_blk (pok_then pok_body)))))) (by kernel_rfl) rfl rfl (by kernel_rfl) (by kernel_rfl) ?_
      refine cont_recast 96 (.bool (fr != fr)) (.bool false) rfl (congrArg Value.bool (bne_self_eq_false _)) ?_
      refine cont_recast 94 (.bool (fr != fr)) (.bool false) rfl (congrArg Value.bool (bne_self_eq_false _)) ?_
      refine takes 1 [] [(14, 0), (16, 7)] 10 [16, 14, 13, 12, 11, 8, 10, 9, 7, 6, 5, 4, 1, 3, 2, 0] [(2, .slice A n cap), (7, .pointer (pB b2)), (8, .pointer (pB b3)), (10, .pointer (pB b33)), (11, iq (i : Int)), (38, iq (i : Int)), (39, .bool true), (90, .pointer (pB b3)), (91, iq fr), (92, .pointer (some ⟨b33, 8, none⟩)), (93, iq fr), (94, .bool false), (96, .bool false), (97, .pointer (pB b3)), (99, .agg #[iq 0, iq 0, iq W1q, iq H1q, .slice A264 k266 cp267, .slice B268 kB270 cB271, iq w1, iq w0, iq fr])] (by kernel_rfl) (pok_then (pok_blk (pok_then (pok_then (pok_blk (pok_then pok_body)))))) (by kernel_rfl) rfl rfl (by kernel_rfl) (by kernel_rfl) ?_
      refine drawn_one 15 9 rfl (by kernel_rfl) ?_
      refine call_pure (d := 98) (iq (ageI w1 fr)) (by kernel_rfl) (fun w hT => outAge1 b3 m4 m17 A247q B251q k249q cp250q kB253q cB254q w0 w1 fr w (hT.viewRo (.cons (i := 11) rfl Vw.roc .nil) rfl) (by omega)) ?_
      refine drawn_next 1 [] (by kernel_rfl) ?_
      refine drawn_one 17 8 rfl (by kernel_rfl) ?_
      refine call_pure (d := 100) (iq (ageI w1 fr)) (by kernel_rfl) (fun w hT => refAge18 W1q H1q A264 k266 cp267 B268 kB270 cB271 w1 w0 fr w (by omega)) ?_
      refine drawn_next 1 [] (by kernel_rfl) ?_
      refine takes 1 [] [(18, 0), (19, 0), (20, 0)] 5 [20, 19, 18, 17, 15, 16, 14, 13, 12, 11, 8, 10, 9, 7, 6, 5, 4, 1, 3, 2, 0] [(2, .slice A n cap), (7, .pointer (pB b2)), (8, .pointer (pB b3)), (10, .pointer (pB b33)), (11, iq (i : Int)), (38, iq (i : Int)), (39, .bool true), (90, .pointer (pB b3)), (91, iq fr), (92, .pointer (some ⟨b33, 8, none⟩)), (93, iq fr), (94, .bool false), (97, .pointer (pB b3)), (98, iq (ageI w1 fr)), (99, .agg #[iq 0, iq 0, iq W1q, iq H1q, .slice A264 k266 cp267, .slice B268 kB270 cB271, iq w1, iq w0, iq fr]), (100, iq (ageI w1 fr)), (101, .bool ((ageI w1 fr) != (ageI w1 fr))), (103, .bool ((ageI w1 fr) != (ageI w1 fr)))] (by kernel_rfl) (pok_then (pok_blk (pok_then (pok_then (pok_blk (pok_then pok_body)))))) (by kernel_rfl) rfl rfl (by kernel_rfl) (by kernel_rfl) ?_
      refine cont_recast 103 (.bool ((ageI w1 fr) != (ageI w1 fr))) (.bool false) rfl (congrArg Value.bool (bne_self_eq_false _)) ?_
      refine cont_recast 101 (.bool ((ageI w1 fr) != (ageI w1 fr))) (.bool false) rfl (congrArg Value.bool (bne_self_eq_false _)) ?_
      refine takes 1 [] [(21, 0), (23, 15)] 3 [23, 21, 20, 19, 18, 17, 15, 16, 14, 13, 12, 11, 8, 10, 9, 7, 6, 5, 4, 1, 3, 2, 0] [(2, .slice A n cap), (7, .pointer (pB b2)), (8, .pointer (pB b3)), (10, .pointer (pB b33)), (11, iq (i : Int)), (38, iq (i : Int)), (39, .bool true), (90, .pointer (pB b3)), (91, iq fr), (92, .pointer (some ⟨b33, 8, none⟩)), (93, iq fr), (94, .bool false), (97, .pointer (pB b3)), (98, iq (ageI w1 fr)), (99, .agg #[iq 0, iq 0, iq W1q, iq H1q, .slice A264 k266 cp267, .slice B268 kB270 cB271, iq w1, iq w0, iq fr]), (100, iq (ageI w1 fr)), (101, .bool false), (103, .bool false), (104, .pointer (pB b3)), (106, .agg #[iq 0, iq 0, iq W1q, iq H1q])] (by kernel_rfl) (pok_then (pok_blk (pok_then (pok_then (pok_blk (pok_then pok_body)))))) (by kernel_rfl) rfl rfl (by kernel_rfl) (by kernel_rfl) ?_
      refine drawn_one 22 2 rfl (by kernel_rfl) ?_
      refine call_pure (d := 105) (.agg #[iq 0, iq 0, iq W1q, iq H1q]) (by kernel_rfl) (fun w hT => outBox b3 m4 m17 A247q B251q k249q cp250q kB253q cB254q w0 w1 fr 1 W1q H1q r5 n6 n6 (List.replicate n6 0) w (hT.viewRo (.cons (i := 11) rfl Vw.roc (.cons (i := 12) rfl Vw.roc (.cons (i := 13) rfl Vw.rowRd .nil))) rfl) (by omega) (imgOk_new (by omega) hf18_a)) ?_
      refine drawn_next 1 [] (by kernel_rfl) ?_
      refine sem_take 1 [] 24 1 107 (bopS .neq 28 (.tmp 105) (.tmp 106) (.agg #[iq 0, iq 0, iq W1q, iq H1q]) (.agg #[iq 0, iq 0, iq W1q, iq H1q])) (.bool (!(eqInts [0, 0, W1q, H1q] [0, 0, W1q, H1q]))) (by kernel_rfl) (pok_then (pok_blk (pok_then (pok_then (pok_blk (pok_then pok_body)))))) (by kernel_rfl) rfl (by kernel_rfl) (by kernel_rfl) (fun w hT => run_neS [0, 0, W1q, H1q] [0, 0, W1q, H1q] (by kernel_rfl) (by kernel_rfl) (by kernel_rfl) (by kernel_rfl) rfl rfl w) ?_
      refine takes 1 [] [(25, 0)] 0 [25, 24, 22, 23, 21, 20, 19, 18, 17, 15, 16, 14, 13, 12, 11, 8, 10, 9, 7, 6, 5, 4, 1, 3, 2, 0] [(2, .slice A n cap), (7, .pointer (pB b2)), (8, .pointer (pB b3)), (10, .pointer (pB b33)), (11, iq (i : Int)), (38, iq (i : Int)), (39, .bool true), (90, .pointer (pB b3)), (91, iq fr), (92, .pointer (some ⟨b33, 8, none⟩)), (93, iq fr), (94, .bool false), (97, .pointer (pB b3)), (98, iq (ageI w1 fr)), (99, .agg #[iq 0, iq 0, iq W1q, iq H1q, .slice A264 k266 cp267, .slice B268 kB270 cB271, iq w1, iq w0, iq fr]), (100, iq (ageI w1 fr)), (101, .bool false), (104, .pointer (pB b3)), (105, .agg #[iq 0, iq 0, iq W1q, iq H1q]), (106, .agg #[iq 0, iq 0, iq W1q, iq H1q]), (107, .bool (!(eqInts [0, 0, W1q, H1q] [0, 0, W1q, H1q]))), (108, .bool (!(eqInts [0, 0, W1q, H1q] [0, 0, W1q, H1q])))] (by kernel_rfl) (pok_then (pok_blk (pok_then (pok_then (pok_blk (pok_then pok_body)))))) (by kernel_rfl) rfl rfl (by kernel_rfl) (by kernel_rfl) ?_
      refine drawn_done (by kernel_rfl) ?_
      refine then_normal ?_
      refine cont_recast 108 (.bool (!(eqInts [0, 0, W1q, H1q] [0, 0, W1q, H1q]))) (.bool false) rfl (congrArg Value.bool (by rw [show eqInts [0, 0, W1q, H1q] [0, 0, W1q, H1q] = true from ((eqInts_rect (r := ⟨0, 0, W1q, H1q⟩) (s := ⟨0, 0, W1q, H1q⟩)).trans (decide_eq_true rfl))]; rfl)) ?_
      refine cont_recast 107 (.bool (!(eqInts [0, 0, W1q, H1q] [0, 0, W1q, H1q]))) (.bool false) rfl (congrArg Value.bool (by rw [show eqInts [0, 0, W1q, H1q] [0, 0, W1q, H1q] = true from ((eqInts_rect (r := ⟨0, 0, W1q, H1q⟩) (s := ⟨0, 0, W1q, H1q⟩)).trans (decide_eq_true rfl))]; rfl)) ?_
      refine cont_false rfl ?_
      refine cont_skip ?_
      refine blk_normal ?_
      refine then_normal ?_
      refine cont_region 3 rfl ?_
      refine bS [0, 0] 2 1 [(2, .slice A n cap), (7, .pointer (pB b2)), (8, .pointer (pB b3)), (10, .pointer (pB b33)), (38, iq (i : Int)), (39, .bool true), (42, iq (IntKind.i64.wrap ((i : Int) + 1))), (90, .pointer (pB b3)), (91, iq fr), (92, .pointer (some ⟨b33, 8, none⟩)), (93, iq fr), (94, .bool false), (97, .pointer (pB b3)), (98, iq (ageI w1 fr)), (99, .agg #[iq 0, iq 0, iq W1q, iq H1q, .slice A264 k266 cp267, .slice B268 kB270 cB271, iq w1, iq w0, iq fr]), (100, iq (ageI w1 fr)), (101, .bool false), (104, .pointer (pB b3)), (105, .agg #[iq 0, iq 0, iq W1q, iq H1q]), (106, .agg #[iq 0, iq 0, iq W1q, iq H1q]), (107, .bool false)] ?_
      refine cont_recast 42 (iq (IntKind.i64.wrap ((i : Int) + 1))) (iq ((i : Int) + 1)) rfl (wrapI (by omega) (by omega)) ?_
      refine cont_forget 0 rfl ?_
      refine cont_forget 2 rfl ?_
      refine cont_forget 4 rfl ?_
      refine cont_forget 6 rfl ?_
      refine cont_forget 6 rfl ?_
      refine cont_forget 9 rfl ?_
      refine cont_forget 9 rfl ?_
      refine bS [0] 3 0 [(2, .slice A n cap), (7, .pointer (pB b2)), (8, .pointer (pB b3)), (10, .pointer (pB b33)), (11, iq ((i : Int) + 1)), (38, iq (i : Int)), (39, .bool true), (90, .pointer (pB b3)), (91, iq fr), (92, .pointer (some ⟨b33, 8, none⟩)), (93, iq fr), (94, .bool false), (97, .pointer (pB b3)), (98, iq (ageI w1 fr)), (99, .agg #[iq 0, iq 0, iq W1q, iq H1q, .slice A264 k266 cp267, .slice B268 kB270 cB271, iq w1, iq w0, iq fr]), (100, iq (ageI w1 fr)), (101, .bool false), (104, .pointer (pB b3)), (105, .agg #[iq 0, iq 0, iq W1q, iq H1q]), (106, .agg #[iq 0, iq 0, iq W1q, iq H1q]), (107, .bool false)] ?_
      refine cont_done ?_
      refine then_normal ?_
      refine cont_pick [5, 0, 1, 6, 7, 8, 2, 3, 9, 10, 11] [.cells b33 [iq 0, iq 0, iq W1q, iq H1q, .slice A264 k266 cp267, .slice B268 kB270 cB271, iq w1, iq w0, iq fr] 81 true, .gen (rowE (A264) g265 k266 cp267 28 4 (rvals LQ276) true), .gen (rowE (B268) gB269 kB270 cB271 28 4 (rvals LQ275) true), .cells b3 [.pointer (pB m4), .pointer (pB m17), .slice A247q k249q cp250q, .slice B251q kB253q cB254q, iq w0, iq w1, iq fr, iq 1] 98 true, .cells m4 [iq W1q, iq H1q, .slice (pB r5) n6 n6] 115 true, .gen (rowE (pB r5) r5 n6 n6 54 1 (ivals .u32 (List.replicate n6 0)) true), .gen (rowE (A247q) gA248q k249q cp250q 28 4 (rvals LQ275) true), .gen (rowE (B251q) gB252q kB253q cB254q 28 4 (rvals LQ276) true), .cells b2 [iq 0, iq 0, iq W1q, iq H1q] 28 true, .gen (rdE (A) g o n 7 (dvals Deed18.cells xs)), .gen (subE n (fun i_ => rdE ((dget xs i_).A1) (dget xs i_).g1 (dget xs i_).o1 (dget xs i_).m1 4 (rvals (dget xs i_).x1)))] (by decide) rfl rfl ?_
      refine cont_norm [(2, .slice A n cap), (7, .pointer (pB b2)), (8, .pointer (pB b3)), (10, .pointer (pB b33)), (11, iq ((i : Int) + 1)), (38, iq (i : Int)), (39, .bool true), (90, .pointer (pB b3)), (91, iq fr), (92, .pointer (some ⟨b33, 8, none⟩)), (93, iq fr), (94, .bool false), (97, .pointer (pB b3)), (98, iq (ageI w1 fr)), (99, .agg #[iq 0, iq 0, iq W1q, iq H1q, .slice A264 k266 cp267, .slice B268 kB270 cB271, iq w1, iq w0, iq fr]), (100, iq (ageI w1 fr)), (101, .bool false), (104, .pointer (pB b3)), (105, .agg #[iq 0, iq 0, iq W1q, iq H1q]), (106, .agg #[iq 0, iq 0, iq W1q, iq H1q]), (107, .bool false)] _ (by kernel_rfl) rfl ?_
      refine cont_again ((i + 1 : Nat), 1, w0, w1, fr, LQ275, A247q, gA248q, k249q, cp250q, LQ276, B251q, gB252q, kB253q, cB254q, A264, g265, k266, cp267, B268, gB269, kB270, cB271) (show ((i + 1 : Nat)) ≤ 30 ∧ ((i + 1 : Nat)) ≤ n ∧ (1) ≤ 1 ∧ 0 ≤ (fr) ∧ (fr) ≤ (((i + 1 : Nat)) : Int) ∧ 0 ≤ (w0) ∧ (w0) ≤ (fr) ∧ 0 ≤ (w1) ∧ (w1) ≤ (fr) ∧ (k249q) ≤ 64 ∧ (kB253q) ≤ 64 ∧ (k266) ≤ 64 ∧ (kB270) ≤ 64 from ⟨by omega, by omega, by omega, by omega, by omega, by omega, by omega, by omega, by omega, by omega, by omega, by omega, by omega⟩) (show 40 - ((i + 1 : Nat)) < 40 - i from by omega) (by kernel_rfl) (by kernel_rfl)
     refine call_gen (d := 72) (α := Option Addr × Nat × Nat × Nat) (fun x_ => .slice x_.1 x_.2.2.1 x_.2.2.2) (fun x_ => [.gen (rowE (x_.1) x_.2.1 x_.2.2.1 x_.2.2.2 28 4 (rvals (smallL (el.x1.take (Int.toNat mq)) 4)) true), .gen (rowE (A247q) gA248q k249q cp250q 28 4 (rvals (keepL hullD (regM orB xs0 (regM andB (canR (smallL (el.x1.take (Int.toNat mq)) 4)) [(⟨0, 0, W1q, H1q⟩ : Rect)])) 64)) true), .gen (rowE (B251q) gB252q kB253q cB254q 28 4 (rvals (keepL hullD (regM orB xs1 (regM andB (canR (smallL (el.x1.take (Int.toNat mq)) 4)) [(⟨0, 0, W1q, H1q⟩ : Rect)])) 64)) true), .gen (rowE (A240) g241 k242 cp243 28 4 (rvals (smallL (el.x1.take (Int.toNat mq)) 4)) true), .gen (rdE (el.A1) el.g1 el.o1 el.m1 4 (rvals el.x1)), .cells b33 [iq 0, iq 0, iq W1q, iq H1q, .slice Au ku cu, .slice Av kv cv, iq w1, iq w0, iq fr] 81 true, .gen (rowE (Au) gu ku cu 28 4 (rvals xs1) true), .gen (rowE (Av) gv kv cv 28 4 (rvals xs0) true), .cells b3 [.pointer (pB m4), .pointer (pB m17), .slice A247q k249q cp250q, .slice B251q kB253q cB254q, iq w0, iq w1, iq fr, iq 1] 98 true, .cells m4 [iq W1q, iq H1q, .slice (pB r5) n6 n6] 115 true, .gen (rowE (pB r5) r5 n6 n6 54 1 (ivals .u32 (List.replicate n6 0)) true), .gen (rowE (Ax) gx kx cx 28 4 (rvals xs0) true), .gen (rowE (Ay) gy ky cy 28 4 (rvals xs1) true), .cells b2 [iq 0, iq 0, iq W1q, iq H1q] 28 true, .gen (rdE (A) g o n 7 (dvals Deed18.cells xs)), .gen (subE n (fun i_ => rdE ((dget xs i_).A1) (dget xs i_).g1 (dget xs i_).o1 (dget xs i_).m1 4 (rvals (dget xs i_).x1)))]) (fun x_ => True) (by kernel_rfl) (fun w hT => (refSmallL el.A1 el.g1 el.o1 (Int.toNat mq) el.k1 (el.x1.take (Int.toNat mq)) 4 w (hT.viewRo (.cons (i := 3) rfl (Vw.rdHeadA (n := el.m1) (m := (Int.toNat mq)) (by omega)) .nil) rfl) (fun r hr => helg.b1 r (List.mem_of_mem_take hr)) (by omega)).mono fun e w' ⟨A291, g292, k293, cp294, he_, ht_⟩ => ⟨(A291, g292, k293, cp294), he_, trivial, hT.news ht_ rfl⟩) ?_
     rintro ⟨A291, g292, k293, cp294⟩ hf295_
     refine cont_norm [(2, .slice A n cap), (7, .pointer (pB b2)), (8, .pointer (pB b3)), (10, .pointer (pB b33)), (11, iq (i : Int)), (38, iq (i : Int)), (39, .bool true), (71, .slice el.A1 (Int.toNat mq) el.k1), (72, .slice A291 k293 cp294)] _ (by kernel_rfl) rfl ?_
     refine cont_fact (F := (0 < k293 → (A291 : Option Addr) = pB g292) ∧ (smallL (el.x1.take (Int.toNat mq)) 4).length = k293 ∧ k293 ≤ cp294 ∧ cp294 ≤ maxLen) (fun w hT => Row.factsR (hT.ok 0 _ rfl)) (fun hr296_ => ?_)
     obtain ⟨hr296_a, hr296_l, hr296_c, hr296_m⟩ := hr296_
     unfold maxLen at hr296_m
     have hsl297_ := smallL_length (el.x1.take (Int.toNat mq)) 4
     refine drawn_next 1 [4] (by kernel_rfl) ?_
     refine drawn_one 0 2 rfl (by kernel_rfl) ?_
     refine one_step 5 [(2, .slice A n cap), (7, .pointer (pB b2)), (8, .pointer (pB b3)), (10, .pointer (pB b33)), (11, iq (i : Int)), (38, iq (i : Int)), (39, .bool true), (70, .agg #[iq 0, iq 0, iq W1q, iq H1q, .slice Au ku cu, .slice Av kv cv, iq w1, iq w0, iq fr]), (72, .slice A291 k293 cp294)] [.gen (rowE (A291) g292 k293 cp294 28 4 (rvals (smallL (el.x1.take (Int.toNat mq)) 4)) true), .gen (rowE (A247q) gA248q k249q cp250q 28 4 (rvals (keepL hullD (regM orB xs0 (regM andB (canR (smallL (el.x1.take (Int.toNat mq)) 4)) [(⟨0, 0, W1q, H1q⟩ : Rect)])) 64)) true), .gen (rowE (B251q) gB252q kB253q cB254q 28 4 (rvals (keepL hullD (regM orB xs1 (regM andB (canR (smallL (el.x1.take (Int.toNat mq)) 4)) [(⟨0, 0, W1q, H1q⟩ : Rect)])) 64)) true), .gen (rowE (A240) g241 k242 cp243 28 4 (rvals (smallL (el.x1.take (Int.toNat mq)) 4)) true), .gen (rdE (el.A1) el.g1 el.o1 el.m1 4 (rvals el.x1)), .cells b33 [iq 0, iq 0, iq W1q, iq H1q, .slice Au ku cu, .slice Av kv cv, iq w1, iq w0, iq fr] 81 true, .gen (rowE (Au) gu ku cu 28 4 (rvals xs1) true), .gen (rowE (Av) gv kv cv 28 4 (rvals xs0) true), .cells b3 [.pointer (pB m4), .pointer (pB m17), .slice A247q k249q cp250q, .slice B251q kB253q cB254q, iq w0, iq w1, iq fr, iq 1] 98 true, .cells m4 [iq W1q, iq H1q, .slice (pB r5) n6 n6] 115 true, .gen (rowE (pB r5) r5 n6 n6 54 1 (ivals .u32 (List.replicate n6 0)) true), .gen (rowE (Ax) gx kx cx 28 4 (rvals xs0) true), .gen (rowE (Ay) gy ky cy 28 4 (rvals xs1) true), .cells b2 [iq 0, iq 0, iq W1q, iq H1q] 28 true, .gen (rdE (A) g o n 7 (dvals Deed18.cells xs)), .gen (subE n (fun i_ => rdE ((dget xs i_).A1) (dget xs i_).g1 (dget xs i_).o1 (dget xs i_).m1 4 (rvals (dget xs i_).x1)))] (by kernel_rfl) (by kernel_rfl) ?_
     refine drawn_next 1 [4] (by kernel_rfl) ?_
     refine drawn_one 3 1 rfl (by kernel_rfl) ?_
     refine call_gen (d := 73) (α := Option Addr × Nat × Nat × Nat × Option Addr × Nat × Nat × Nat) (fun x_ => .agg #[iq 0, iq 0, iq W1q, iq H1q, .slice x_.1 x_.2.2.1 x_.2.2.2.1, .slice x_.2.2.2.2.1 x_.2.2.2.2.2.2.1 x_.2.2.2.2.2.2.2, iq w1, iq w0, iq fr]) (fun x_ => [.gen (rowE (x_.1) x_.2.1 x_.2.2.1 x_.2.2.2.1 28 4 (rvals (keepL hullD (regM orB xs1 (regM andB (canR (smallL (el.x1.take (Int.toNat mq)) 4)) [(⟨0, 0, W1q, H1q⟩ : Rect)])) 64)) true), .gen (rowE (x_.2.2.2.2.1) x_.2.2.2.2.2.1 x_.2.2.2.2.2.2.1 x_.2.2.2.2.2.2.2 28 4 (rvals (keepL hullD (regM orB xs0 (regM andB (canR (smallL (el.x1.take (Int.toNat mq)) 4)) [(⟨0, 0, W1q, H1q⟩ : Rect)])) 64)) true), .gen (rowE (A291) g292 k293 cp294 28 4 (rvals (smallL (el.x1.take (Int.toNat mq)) 4)) true), .gen (rowE (A247q) gA248q k249q cp250q 28 4 (rvals (keepL hullD (regM orB xs0 (regM andB (canR (smallL (el.x1.take (Int.toNat mq)) 4)) [(⟨0, 0, W1q, H1q⟩ : Rect)])) 64)) true), .gen (rowE (B251q) gB252q kB253q cB254q 28 4 (rvals (keepL hullD (regM orB xs1 (regM andB (canR (smallL (el.x1.take (Int.toNat mq)) 4)) [(⟨0, 0, W1q, H1q⟩ : Rect)])) 64)) true), .gen (rowE (A240) g241 k242 cp243 28 4 (rvals (smallL (el.x1.take (Int.toNat mq)) 4)) true), .gen (rdE (el.A1) el.g1 el.o1 el.m1 4 (rvals el.x1)), .cells b33 [iq 0, iq 0, iq W1q, iq H1q, .slice Au ku cu, .slice Av kv cv, iq w1, iq w0, iq fr] 81 true, .gen (rowE (Au) gu ku cu 28 4 (rvals xs1) true), .gen (rowE (Av) gv kv cv 28 4 (rvals xs0) true), .cells b3 [.pointer (pB m4), .pointer (pB m17), .slice A247q k249q cp250q, .slice B251q kB253q cB254q, iq w0, iq w1, iq fr, iq 1] 98 true, .cells m4 [iq W1q, iq H1q, .slice (pB r5) n6 n6] 115 true, .gen (rowE (pB r5) r5 n6 n6 54 1 (ivals .u32 (List.replicate n6 0)) true), .gen (rowE (Ax) gx kx cx 28 4 (rvals xs0) true), .gen (rowE (Ay) gy ky cy 28 4 (rvals xs1) true), .cells b2 [iq 0, iq 0, iq W1q, iq H1q] 28 true, .gen (rdE (A) g o n 7 (dvals Deed18.cells xs)), .gen (subE n (fun i_ => rdE ((dget xs i_).A1) (dget xs i_).g1 (dget xs i_).o1 (dget xs i_).m1 4 (rvals (dget xs i_).x1)))]) (fun x_ => True) (by kernel_rfl) (fun w hT => (refDamage18 W1q H1q Au ku cu Av kv cv w1 w0 fr gu xs1 gv xs0 A291 g292 0 k293 cp294 (smallL (el.x1.take (Int.toNat mq)) 4) w (hT.viewRo (.cons (i := 6) rfl Vw.rowRd (.cons (i := 7) rfl Vw.rowRd (.cons (i := 0) rfl Vw.rowRd .nil))) rfl) (by omega) (by omega) (by omega) (by omega)).mono fun e w' ⟨A298, g299, k300, cp301, B302, gB303, kB304, cB305, he_, ht_⟩ => ⟨(A298, g299, k300, cp301, B302, gB303, kB304, cB305), he_, trivial, hT.news ht_ rfl⟩) ?_
     rintro ⟨A298, g299, k300, cp301, B302, gB303, kB304, cB305⟩ hf306_
     refine cont_norm [(2, .slice A n cap), (7, .pointer (pB b2)), (8, .pointer (pB b3)), (10, .pointer (pB b33)), (11, iq (i : Int)), (38, iq (i : Int)), (39, .bool true), (70, .agg #[iq 0, iq 0, iq W1q, iq H1q, .slice Au ku cu, .slice Av kv cv, iq w1, iq w0, iq fr]), (72, .slice A291 k293 cp294), (73, .agg #[iq 0, iq 0, iq W1q, iq H1q, .slice A298 k300 cp301, .slice B302 kB304 cB305, iq w1, iq w0, iq fr])] _ (by kernel_rfl) rfl ?_
     refine cont_fact (F := (0 < k300 → (A298 : Option Addr) = pB g299) ∧ (keepL hullD (regM orB xs1 (regM andB (canR (smallL (el.x1.take (Int.toNat mq)) 4)) [(⟨0, 0, W1q, H1q⟩ : Rect)])) 64).length = k300 ∧ k300 ≤ cp301 ∧ cp301 ≤ maxLen) (fun w hT => Row.factsR (hT.ok 0 _ rfl)) (fun hr307_ => ?_)
     obtain ⟨hr307_a, hr307_l, hr307_c, hr307_m⟩ := hr307_
     unfold maxLen at hr307_m
     have hr307_k : k300 ≤ 64 := by rw [← hr307_l]; exact keep_len64 _ _
     clear hr307_l
     refine cont_fact (F := (0 < kB304 → (B302 : Option Addr) = pB gB303) ∧ (keepL hullD (regM orB xs0 (regM andB (canR (smallL (el.x1.take (Int.toNat mq)) 4)) [(⟨0, 0, W1q, H1q⟩ : Rect)])) 64).length = kB304 ∧ kB304 ≤ cB305 ∧ cB305 ≤ maxLen) (fun w hT => Row.factsR (hT.ok 1 _ rfl)) (fun hr308_ => ?_)
     obtain ⟨hr308_a, hr308_l, hr308_c, hr308_m⟩ := hr308_
     unfold maxLen at hr308_m
     have hr308_k : kB304 ≤ 64 := by rw [← hr308_l]; exact keep_len64 _ _
     clear hr308_l
     refine drawn_next 3 [4] (by kernel_rfl) ?_
     refine drawn_one 4 0 rfl (by kernel_rfl) ?_
     refine one_step 7 [(2, .slice A n cap), (7, .pointer (pB b2)), (8, .pointer (pB b3)), (10, .pointer (pB b33)), (11, iq (i : Int)), (38, iq (i : Int)), (39, .bool true)] [.gen (rowE (A298) g299 k300 cp301 28 4 (rvals (keepL hullD (regM orB xs1 (regM andB (canR (smallL (el.x1.take (Int.toNat mq)) 4)) [(⟨0, 0, W1q, H1q⟩ : Rect)])) 64)) true), .gen (rowE (B302) gB303 kB304 cB305 28 4 (rvals (keepL hullD (regM orB xs0 (regM andB (canR (smallL (el.x1.take (Int.toNat mq)) 4)) [(⟨0, 0, W1q, H1q⟩ : Rect)])) 64)) true), .gen (rowE (A291) g292 k293 cp294 28 4 (rvals (smallL (el.x1.take (Int.toNat mq)) 4)) true), .gen (rowE (A247q) gA248q k249q cp250q 28 4 (rvals (keepL hullD (regM orB xs0 (regM andB (canR (smallL (el.x1.take (Int.toNat mq)) 4)) [(⟨0, 0, W1q, H1q⟩ : Rect)])) 64)) true), .gen (rowE (B251q) gB252q kB253q cB254q 28 4 (rvals (keepL hullD (regM orB xs1 (regM andB (canR (smallL (el.x1.take (Int.toNat mq)) 4)) [(⟨0, 0, W1q, H1q⟩ : Rect)])) 64)) true), .gen (rowE (A240) g241 k242 cp243 28 4 (rvals (smallL (el.x1.take (Int.toNat mq)) 4)) true), .gen (rdE (el.A1) el.g1 el.o1 el.m1 4 (rvals el.x1)), .cells b33 [iq 0, iq 0, iq W1q, iq H1q, .slice A298 k300 cp301, .slice B302 kB304 cB305, iq w1, iq w0, iq fr] 81 true, .gen (rowE (Au) gu ku cu 28 4 (rvals xs1) true), .gen (rowE (Av) gv kv cv 28 4 (rvals xs0) true), .cells b3 [.pointer (pB m4), .pointer (pB m17), .slice A247q k249q cp250q, .slice B251q kB253q cB254q, iq w0, iq w1, iq fr, iq 1] 98 true, .cells m4 [iq W1q, iq H1q, .slice (pB r5) n6 n6] 115 true, .gen (rowE (pB r5) r5 n6 n6 54 1 (ivals .u32 (List.replicate n6 0)) true), .gen (rowE (Ax) gx kx cx 28 4 (rvals xs0) true), .gen (rowE (Ay) gy ky cy 28 4 (rvals xs1) true), .cells b2 [iq 0, iq 0, iq W1q, iq H1q] 28 true, .gen (rdE (A) g o n 7 (dvals Deed18.cells xs)), .gen (subE n (fun i_ => rdE ((dget xs i_).A1) (dget xs i_).g1 (dget xs i_).o1 (dget xs i_).m1 4 (rvals (dget xs i_).x1)))] (by kernel_rfl) (by kernel_rfl) ?_
     refine drawn_next 3 [4] (by kernel_rfl) ?_
     refine drawn_done (by kernel_rfl) ?_
     refine blk_normal ?_
     refine then_normal ?_
     refine cont_seq ?_
     obtain ⟨LQ309, hLQ309⟩ : ∃ y_ : List Rect, y_ = keepL hullD (regM orB xs0 (regM andB (canR (smallL (el.x1.take (Int.toNat mq)) 4)) [(⟨0, 0, W1q, H1q⟩ : Rect)])) 64 := ⟨_, rfl⟩
     refine cont_rowEqR 3 (keepL hullD (regM orB xs0 (regM andB (canR (smallL (el.x1.take (Int.toNat mq)) 4)) [(⟨0, 0, W1q, H1q⟩ : Rect)])) 64) (LQ309) rfl hLQ309.symm ?_
     obtain ⟨LQ310, hLQ310⟩ : ∃ y_ : List Rect, y_ = keepL hullD (regM orB xs1 (regM andB (canR (smallL (el.x1.take (Int.toNat mq)) 4)) [(⟨0, 0, W1q, H1q⟩ : Rect)])) 64 := ⟨_, rfl⟩
     refine cont_rowEqR 4 (keepL hullD (regM orB xs1 (regM andB (canR (smallL (el.x1.take (Int.toNat mq)) 4)) [(⟨0, 0, W1q, H1q⟩ : Rect)])) 64) (LQ310) rfl hLQ310.symm ?_
     refine cont_rowEqR 0 (keepL hullD (regM orB xs1 (regM andB (canR (smallL (el.x1.take (Int.toNat mq)) 4)) [(⟨0, 0, W1q, H1q⟩ : Rect)])) 64) (LQ310) rfl hLQ310.symm ?_
     refine cont_rowEqR 1 (keepL hullD (regM orB xs0 (regM andB (canR (smallL (el.x1.take (Int.toNat mq)) 4)) [(⟨0, 0, W1q, H1q⟩ : Rect)])) 64) (LQ309) rfl hLQ309.symm ?_
     refine cont_norm [(2, .slice A n cap), (7, .pointer (pB b2)), (8, .pointer (pB b3)), (10, .pointer (pB b33)), (11, iq (i : Int)), (38, iq (i : Int)), (39, .bool true)] _ (by kernel_rfl) rfl ?_
     clear hLQ309
     clear hLQ310
     refine cont_fact (F := (0 < k249q → (A247q : Option Addr) = pB gA248q) ∧ LQ309.length = k249q ∧ k249q ≤ cp250q ∧ cp250q ≤ maxLen) (fun w hT => Row.factsR (hT.ok 3 _ rfl)) (fun hr311_ => ?_)
     obtain ⟨hr311_a, hr311_l, hr311_c, hr311_m⟩ := hr311_
     unfold maxLen at hr311_m
     refine cont_fact (F := (0 < kB253q → (B251q : Option Addr) = pB gB252q) ∧ LQ310.length = kB253q ∧ kB253q ≤ cB254q ∧ cB254q ≤ maxLen) (fun w hT => Row.factsR (hT.ok 4 _ rfl)) (fun hr312_ => ?_)
     obtain ⟨hr312_a, hr312_l, hr312_c, hr312_m⟩ := hr312_
     unfold maxLen at hr312_m
     refine cont_fact (F := (0 < k300 → (A298 : Option Addr) = pB g299) ∧ LQ310.length = k300 ∧ k300 ≤ cp301 ∧ cp301 ≤ maxLen) (fun w hT => Row.factsR (hT.ok 0 _ rfl)) (fun hr313_ => ?_)
     obtain ⟨hr313_a, hr313_l, hr313_c, hr313_m⟩ := hr313_
     unfold maxLen at hr313_m
     refine cont_fact (F := (0 < kB304 → (B302 : Option Addr) = pB gB303) ∧ LQ309.length = kB304 ∧ kB304 ≤ cB305 ∧ cB305 ≤ maxLen) (fun w hT => Row.factsR (hT.ok 1 _ rfl)) (fun hr314_ => ?_)
     obtain ⟨hr314_a, hr314_l, hr314_c, hr314_m⟩ := hr314_
     unfold maxLen at hr314_m
     refine drawn_enter 26 [] rfl (by kernel_rfl) ?_
     refine takes 0 [] [(0, 0), (2, 0), (3, 7)] 23 [3, 2, 0] [(2, .slice A n cap), (7, .pointer (pB b2)), (8, .pointer (pB b3)), (10, .pointer (pB b33)), (11, iq (i : Int)), (38, iq (i : Int)), (39, .bool true), (83, .pointer (pB b3)), (86, .slice A298 k300 cp301)] (by kernel_rfl) (pok_then (pok_blk (pok_then (pok_then (pok_blk (pok_then pok_body)))))) (by kernel_rfl) rfl rfl (by kernel_rfl) (by kernel_rfl) ?_
     refine drawn_one 1 22 rfl (by kernel_rfl) ?_
     refine call_gen (d := 84) (α := Option Addr × Nat × Nat × Nat) (fun x_ => .slice x_.1 x_.2.2.1 x_.2.2.2) (fun x_ => [.gen (rowE (x_.1) x_.2.1 x_.2.2.1 x_.2.2.2 28 4 (rvals LQ310) true), .gen (rowE (A298) g299 k300 cp301 28 4 (rvals LQ310) true), .gen (rowE (B302) gB303 kB304 cB305 28 4 (rvals LQ309) true), .gen (rowE (A291) g292 k293 cp294 28 4 (rvals (smallL (el.x1.take (Int.toNat mq)) 4)) true), .gen (rowE (A247q) gA248q k249q cp250q 28 4 (rvals LQ309) true), .gen (rowE (B251q) gB252q kB253q cB254q 28 4 (rvals LQ310) true), .gen (rowE (A240) g241 k242 cp243 28 4 (rvals (smallL (el.x1.take (Int.toNat mq)) 4)) true), .gen (rdE (el.A1) el.g1 el.o1 el.m1 4 (rvals el.x1)), .cells b33 [iq 0, iq 0, iq W1q, iq H1q, .slice A298 k300 cp301, .slice B302 kB304 cB305, iq w1, iq w0, iq fr] 81 true, .gen (rowE (Au) gu ku cu 28 4 (rvals xs1) true), .gen (rowE (Av) gv kv cv 28 4 (rvals xs0) true), .cells b3 [.pointer (pB m4), .pointer (pB m17), .slice A247q k249q cp250q, .slice B251q kB253q cB254q, iq w0, iq w1, iq fr, iq 1] 98 true, .cells m4 [iq W1q, iq H1q, .slice (pB r5) n6 n6] 115 true, .gen (rowE (pB r5) r5 n6 n6 54 1 (ivals .u32 (List.replicate n6 0)) true), .gen (rowE (Ax) gx kx cx 28 4 (rvals xs0) true), .gen (rowE (Ay) gy ky cy 28 4 (rvals xs1) true), .cells b2 [iq 0, iq 0, iq W1q, iq H1q] 28 true, .gen (rdE (A) g o n 7 (dvals Deed18.cells xs)), .gen (subE n (fun i_ => rdE ((dget xs i_).A1) (dget xs i_).g1 (dget xs i_).o1 (dget xs i_).m1 4 (rvals (dget xs i_).x1)))]) (fun x_ => True) (by kernel_rfl) (fun w hT => (outStale1 b3 m4 m17 A247q B251q k249q cp250q kB253q cB254q w0 w1 fr gB252q LQ310 w (hT.viewRo (.cons (i := 10) rfl Vw.roc (.cons (i := 4) rfl Vw.rowRd .nil)) rfl) (by omega)).mono fun e w' ⟨A315, g316, k317, cp318, he_, ht_⟩ => ⟨(A315, g316, k317, cp318), he_, trivial, hT.news ht_ rfl⟩) ?_
     rintro ⟨A315, g316, k317, cp318⟩ hf319_
     refine cont_norm [(2, .slice A n cap), (7, .pointer (pB b2)), (8, .pointer (pB b3)), (10, .pointer (pB b33)), (11, iq (i : Int)), (38, iq (i : Int)), (39, .bool true), (83, .pointer (pB b3)), (84, .slice A315 k317 cp318), (86, .slice A298 k300 cp301)] _ (by kernel_rfl) rfl ?_
     refine cont_fact (F := (0 < k317 → (A315 : Option Addr) = pB g316) ∧ LQ310.length = k317 ∧ k317 ≤ cp318 ∧ cp318 ≤ maxLen) (fun w hT => Row.factsR (hT.ok 0 _ rfl)) (fun hr320_ => ?_)
     obtain ⟨hr320_a, hr320_l, hr320_c, hr320_m⟩ := hr320_
     unfold maxLen at hr320_m
     refine drawn_next 1 [] (by kernel_rfl) ?_
     refine drawn_one 4 21 rfl (by kernel_rfl) ?_
     refine call_pure (d := 87) (.bool (decide (LQ310 = LQ310))) (by kernel_rfl) (fun w hT => refSame A315 g316 0 k317 cp318 LQ310 A298 g299 0 k300 cp301 LQ310 w (hT.viewRo (.cons (i := 0) rfl Vw.rowRd (.cons (i := 1) rfl Vw.rowRd .nil)) rfl) (by omega)) ?_
     refine drawn_next 1 [] (by kernel_rfl) ?_
     refine takes 1 [] [(5, 0), (6, 0)] 19 [6, 5, 4, 1, 3, 2, 0] [(2, .slice A n cap), (7, .pointer (pB b2)), (8, .pointer (pB b3)), (10, .pointer (pB b33)), (11, iq (i : Int)), (38, iq (i : Int)), (39, .bool true), (89, .bool (!(decide (LQ310 = LQ310))))] (by kernel_rfl) (pok_then (pok_blk (pok_then (pok_then (pok_blk (pok_then pok_body)))))) (by kernel_rfl) rfl rfl (by kernel_rfl) (by kernel_rfl) ?_
     refine cont_recast 89 (.bool (!(decide (LQ310 = LQ310)))) (.bool false) rfl (congrArg Value.bool (by rw [show (decide (LQ310 = LQ310)) = true from (decide_eq_true rfl)]; rfl)) ?_
     refine takes 1 [] [(7, 0), (9, 0), (10, 7)] 16 [10, 9, 7, 6, 5, 4, 1, 3, 2, 0] [(2, .slice A n cap), (7, .pointer (pB b2)), (8, .pointer (pB b3)), (10, .pointer (pB b33)), (11, iq (i : Int)), (38, iq (i : Int)), (39, .bool true), (89, .bool false), (90, .pointer (pB b3)), (92, .pointer (some ⟨b33, 8, none⟩)), (93, iq fr)] (by kernel_rfl) (pok_then (pok_blk (pok_then (pok_then (pok_blk (pok_then pok_body)))))) (by kernel_rfl) rfl rfl (by kernel_rfl) (by kernel_rfl) ?_
     refine drawn_one 8 15 rfl (by kernel_rfl) ?_
     refine call_pure (d := 91) (iq fr) (by kernel_rfl) (fun w hT => outFrames b3 m4 m17 A247q B251q k249q cp250q kB253q cB254q w0 w1 fr 1 w (hT.viewRo (.cons (i := 11) rfl Vw.roc .nil) rfl)) ?_
     refine drawn_next 1 [] (by kernel_rfl) ?_
     refine takes 1 [] [(11, 0), (12, 0), (13, 0)] 12 [13, 12, 11, 8, 10, 9, 7, 6, 5, 4, 1, 3, 2, 0] [(2, .slice A n cap), (7, .pointer (pB b2)), (8, .pointer (pB b3)), (10, .pointer (pB b33)), (11, iq (i : Int)), (38, iq (i : Int)), (39, .bool true), (90, .pointer (pB b3)), (91, iq fr), (92, .pointer (some ⟨b33, 8, none⟩)), (93, iq fr), (94, .bool (fr != fr)), (96, .bool (fr != fr))] (by kernel_rfl) (pok_then (pok_blk (pok_then (pok_then (pok_blk (pok_then pok_body)))))) (by kernel_rfl) rfl rfl (by kernel_rfl) (by kernel_rfl) ?_
     refine cont_recast 96 (.bool (fr != fr)) (.bool false) rfl (congrArg Value.bool (bne_self_eq_false _)) ?_
     refine cont_recast 94 (.bool (fr != fr)) (.bool false) rfl (congrArg Value.bool (bne_self_eq_false _)) ?_
     refine takes 1 [] [(14, 0), (16, 7)] 10 [16, 14, 13, 12, 11, 8, 10, 9, 7, 6, 5, 4, 1, 3, 2, 0] [(2, .slice A n cap), (7, .pointer (pB b2)), (8, .pointer (pB b3)), (10, .pointer (pB b33)), (11, iq (i : Int)), (38, iq (i : Int)), (39, .bool true), (90, .pointer (pB b3)), (91, iq fr), (92, .pointer (some ⟨b33, 8, none⟩)), (93, iq fr), (94, .bool false), (96, .bool false), (97, .pointer (pB b3)), (99, .agg #[iq 0, iq 0, iq W1q, iq H1q, .slice A298 k300 cp301, .slice B302 kB304 cB305, iq w1, iq w0, iq fr])] (by kernel_rfl) (pok_then (pok_blk (pok_then (pok_then (pok_blk (pok_then pok_body)))))) (by kernel_rfl) rfl rfl (by kernel_rfl) (by kernel_rfl) ?_
     refine drawn_one 15 9 rfl (by kernel_rfl) ?_
     refine call_pure (d := 98) (iq (ageI w1 fr)) (by kernel_rfl) (fun w hT => outAge1 b3 m4 m17 A247q B251q k249q cp250q kB253q cB254q w0 w1 fr w (hT.viewRo (.cons (i := 11) rfl Vw.roc .nil) rfl) (by omega)) ?_
     refine drawn_next 1 [] (by kernel_rfl) ?_
     refine drawn_one 17 8 rfl (by kernel_rfl) ?_
     refine call_pure (d := 100) (iq (ageI w1 fr)) (by kernel_rfl) (fun w hT => refAge18 W1q H1q A298 k300 cp301 B302 kB304 cB305 w1 w0 fr w (by omega)) ?_
     refine drawn_next 1 [] (by kernel_rfl) ?_
     refine takes 1 [] [(18, 0), (19, 0), (20, 0)] 5 [20, 19, 18, 17, 15, 16, 14, 13, 12, 11, 8, 10, 9, 7, 6, 5, 4, 1, 3, 2, 0] [(2, .slice A n cap), (7, .pointer (pB b2)), (8, .pointer (pB b3)), (10, .pointer (pB b33)), (11, iq (i : Int)), (38, iq (i : Int)), (39, .bool true), (90, .pointer (pB b3)), (91, iq fr), (92, .pointer (some ⟨b33, 8, none⟩)), (93, iq fr), (94, .bool false), (97, .pointer (pB b3)), (98, iq (ageI w1 fr)), (99, .agg #[iq 0, iq 0, iq W1q, iq H1q, .slice A298 k300 cp301, .slice B302 kB304 cB305, iq w1, iq w0, iq fr]), (100, iq (ageI w1 fr)), (101, .bool ((ageI w1 fr) != (ageI w1 fr))), (103, .bool ((ageI w1 fr) != (ageI w1 fr)))] (by kernel_rfl) (pok_then (pok_blk (pok_then (pok_then (pok_blk (pok_then pok_body)))))) (by kernel_rfl) rfl rfl (by kernel_rfl) (by kernel_rfl) ?_
     refine cont_recast 103 (.bool ((ageI w1 fr) != (ageI w1 fr))) (.bool false) rfl (congrArg Value.bool (bne_self_eq_false _)) ?_
     refine cont_recast 101 (.bool ((ageI w1 fr) != (ageI w1 fr))) (.bool false) rfl (congrArg Value.bool (bne_self_eq_false _)) ?_
     refine takes 1 [] [(21, 0), (23, 15)] 3 [23, 21, 20, 19, 18, 17, 15, 16, 14, 13, 12, 11, 8, 10, 9, 7, 6, 5, 4, 1, 3, 2, 0] [(2, .slice A n cap), (7, .pointer (pB b2)), (8, .pointer (pB b3)), (10, .pointer (pB b33)), (11, iq (i : Int)), (38, iq (i : Int)), (39, .bool true), (90, .pointer (pB b3)), (91, iq fr), (92, .pointer (some ⟨b33, 8, none⟩)), (93, iq fr), (94, .bool false), (97, .pointer (pB b3)), (98, iq (ageI w1 fr)), (99, .agg #[iq 0, iq 0, iq W1q, iq H1q, .slice A298 k300 cp301, .slice B302 kB304 cB305, iq w1, iq w0, iq fr]), (100, iq (ageI w1 fr)), (101, .bool false), (103, .bool false), (104, .pointer (pB b3)), (106, .agg #[iq 0, iq 0, iq W1q, iq H1q])] (by kernel_rfl) (pok_then (pok_blk (pok_then (pok_then (pok_blk (pok_then pok_body)))))) (by kernel_rfl) rfl rfl (by kernel_rfl) (by kernel_rfl) ?_
     refine drawn_one 22 2 rfl (by kernel_rfl) ?_
     refine call_pure (d := 105) (.agg #[iq 0, iq 0, iq W1q, iq H1q]) (by kernel_rfl) (fun w hT => outBox b3 m4 m17 A247q B251q k249q cp250q kB253q cB254q w0 w1 fr 1 W1q H1q r5 n6 n6 (List.replicate n6 0) w (hT.viewRo (.cons (i := 11) rfl Vw.roc (.cons (i := 12) rfl Vw.roc (.cons (i := 13) rfl Vw.rowRd .nil))) rfl) (by omega) (imgOk_new (by omega) hf18_a)) ?_
     refine drawn_next 1 [] (by kernel_rfl) ?_
     refine sem_take 1 [] 24 1 107 (bopS .neq 28 (.tmp 105) (.tmp 106) (.agg #[iq 0, iq 0, iq W1q, iq H1q]) (.agg #[iq 0, iq 0, iq W1q, iq H1q])) (.bool (!(eqInts [0, 0, W1q, H1q] [0, 0, W1q, H1q]))) (by kernel_rfl) (pok_then (pok_blk (pok_then (pok_then (pok_blk (pok_then pok_body)))))) (by kernel_rfl) rfl (by kernel_rfl) (by kernel_rfl) (fun w hT => run_neS [0, 0, W1q, H1q] [0, 0, W1q, H1q] (by kernel_rfl) (by kernel_rfl) (by kernel_rfl) (by kernel_rfl) rfl rfl w) ?_
     refine takes 1 [] [(25, 0)] 0 [25, 24, 22, 23, 21, 20, 19, 18, 17, 15, 16, 14, 13, 12, 11, 8, 10, 9, 7, 6, 5, 4, 1, 3, 2, 0] [(2, .slice A n cap), (7, .pointer (pB b2)), (8, .pointer (pB b3)), (10, .pointer (pB b33)), (11, iq (i : Int)), (38, iq (i : Int)), (39, .bool true), (90, .pointer (pB b3)), (91, iq fr), (92, .pointer (some ⟨b33, 8, none⟩)), (93, iq fr), (94, .bool false), (97, .pointer (pB b3)), (98, iq (ageI w1 fr)), (99, .agg #[iq 0, iq 0, iq W1q, iq H1q, .slice A298 k300 cp301, .slice B302 kB304 cB305, iq w1, iq w0, iq fr]), (100, iq (ageI w1 fr)), (101, .bool false), (104, .pointer (pB b3)), (105, .agg #[iq 0, iq 0, iq W1q, iq H1q]), (106, .agg #[iq 0, iq 0, iq W1q, iq H1q]), (107, .bool (!(eqInts [0, 0, W1q, H1q] [0, 0, W1q, H1q]))), (108, .bool (!(eqInts [0, 0, W1q, H1q] [0, 0, W1q, H1q])))] (by kernel_rfl) (pok_then (pok_blk (pok_then (pok_then (pok_blk (pok_then pok_body)))))) (by kernel_rfl) rfl rfl (by kernel_rfl) (by kernel_rfl) ?_
     refine drawn_done (by kernel_rfl) ?_
     refine then_normal ?_
     refine cont_recast 108 (.bool (!(eqInts [0, 0, W1q, H1q] [0, 0, W1q, H1q]))) (.bool false) rfl (congrArg Value.bool (by rw [show eqInts [0, 0, W1q, H1q] [0, 0, W1q, H1q] = true from ((eqInts_rect (r := ⟨0, 0, W1q, H1q⟩) (s := ⟨0, 0, W1q, H1q⟩)).trans (decide_eq_true rfl))]; rfl)) ?_
     refine cont_recast 107 (.bool (!(eqInts [0, 0, W1q, H1q] [0, 0, W1q, H1q]))) (.bool false) rfl (congrArg Value.bool (by rw [show eqInts [0, 0, W1q, H1q] [0, 0, W1q, H1q] = true from ((eqInts_rect (r := ⟨0, 0, W1q, H1q⟩) (s := ⟨0, 0, W1q, H1q⟩)).trans (decide_eq_true rfl))]; rfl)) ?_
     refine cont_false rfl ?_
     refine cont_skip ?_
     refine blk_normal ?_
     refine then_normal ?_
     refine cont_region 3 rfl ?_
     refine bS [0, 0] 2 1 [(2, .slice A n cap), (7, .pointer (pB b2)), (8, .pointer (pB b3)), (10, .pointer (pB b33)), (38, iq (i : Int)), (39, .bool true), (42, iq (IntKind.i64.wrap ((i : Int) + 1))), (90, .pointer (pB b3)), (91, iq fr), (92, .pointer (some ⟨b33, 8, none⟩)), (93, iq fr), (94, .bool false), (97, .pointer (pB b3)), (98, iq (ageI w1 fr)), (99, .agg #[iq 0, iq 0, iq W1q, iq H1q, .slice A298 k300 cp301, .slice B302 kB304 cB305, iq w1, iq w0, iq fr]), (100, iq (ageI w1 fr)), (101, .bool false), (104, .pointer (pB b3)), (105, .agg #[iq 0, iq 0, iq W1q, iq H1q]), (106, .agg #[iq 0, iq 0, iq W1q, iq H1q]), (107, .bool false)] ?_
     refine cont_recast 42 (iq (IntKind.i64.wrap ((i : Int) + 1))) (iq ((i : Int) + 1)) rfl (wrapI (by omega) (by omega)) ?_
     refine cont_forget 0 rfl ?_
     refine cont_forget 2 rfl ?_
     refine cont_forget 4 rfl ?_
     refine cont_forget 6 rfl ?_
     refine cont_forget 6 rfl ?_
     refine cont_forget 9 rfl ?_
     refine cont_forget 9 rfl ?_
     refine bS [0] 3 0 [(2, .slice A n cap), (7, .pointer (pB b2)), (8, .pointer (pB b3)), (10, .pointer (pB b33)), (11, iq ((i : Int) + 1)), (38, iq (i : Int)), (39, .bool true), (90, .pointer (pB b3)), (91, iq fr), (92, .pointer (some ⟨b33, 8, none⟩)), (93, iq fr), (94, .bool false), (97, .pointer (pB b3)), (98, iq (ageI w1 fr)), (99, .agg #[iq 0, iq 0, iq W1q, iq H1q, .slice A298 k300 cp301, .slice B302 kB304 cB305, iq w1, iq w0, iq fr]), (100, iq (ageI w1 fr)), (101, .bool false), (104, .pointer (pB b3)), (105, .agg #[iq 0, iq 0, iq W1q, iq H1q]), (106, .agg #[iq 0, iq 0, iq W1q, iq H1q]), (107, .bool false)] ?_
     refine cont_done ?_
     refine then_normal ?_
     refine cont_pick [5, 0, 1, 6, 7, 8, 2, 3, 9, 10, 11] [.cells b33 [iq 0, iq 0, iq W1q, iq H1q, .slice A298 k300 cp301, .slice B302 kB304 cB305, iq w1, iq w0, iq fr] 81 true, .gen (rowE (A298) g299 k300 cp301 28 4 (rvals LQ310) true), .gen (rowE (B302) gB303 kB304 cB305 28 4 (rvals LQ309) true), .cells b3 [.pointer (pB m4), .pointer (pB m17), .slice A247q k249q cp250q, .slice B251q kB253q cB254q, iq w0, iq w1, iq fr, iq 1] 98 true, .cells m4 [iq W1q, iq H1q, .slice (pB r5) n6 n6] 115 true, .gen (rowE (pB r5) r5 n6 n6 54 1 (ivals .u32 (List.replicate n6 0)) true), .gen (rowE (A247q) gA248q k249q cp250q 28 4 (rvals LQ309) true), .gen (rowE (B251q) gB252q kB253q cB254q 28 4 (rvals LQ310) true), .cells b2 [iq 0, iq 0, iq W1q, iq H1q] 28 true, .gen (rdE (A) g o n 7 (dvals Deed18.cells xs)), .gen (subE n (fun i_ => rdE ((dget xs i_).A1) (dget xs i_).g1 (dget xs i_).o1 (dget xs i_).m1 4 (rvals (dget xs i_).x1)))] (by decide) rfl rfl ?_
     refine cont_norm [(2, .slice A n cap), (7, .pointer (pB b2)), (8, .pointer (pB b3)), (10, .pointer (pB b33)), (11, iq ((i : Int) + 1)), (38, iq (i : Int)), (39, .bool true), (90, .pointer (pB b3)), (91, iq fr), (92, .pointer (some ⟨b33, 8, none⟩)), (93, iq fr), (94, .bool false), (97, .pointer (pB b3)), (98, iq (ageI w1 fr)), (99, .agg #[iq 0, iq 0, iq W1q, iq H1q, .slice A298 k300 cp301, .slice B302 kB304 cB305, iq w1, iq w0, iq fr]), (100, iq (ageI w1 fr)), (101, .bool false), (104, .pointer (pB b3)), (105, .agg #[iq 0, iq 0, iq W1q, iq H1q]), (106, .agg #[iq 0, iq 0, iq W1q, iq H1q]), (107, .bool false)] _ (by kernel_rfl) rfl ?_
     refine cont_again ((i + 1 : Nat), 1, w0, w1, fr, LQ309, A247q, gA248q, k249q, cp250q, LQ310, B251q, gB252q, kB253q, cB254q, A298, g299, k300, cp301, B302, gB303, kB304, cB305) (show ((i + 1 : Nat)) ≤ 30 ∧ ((i + 1 : Nat)) ≤ n ∧ (1) ≤ 1 ∧ 0 ≤ (fr) ∧ (fr) ≤ (((i + 1 : Nat)) : Int) ∧ 0 ≤ (w0) ∧ (w0) ≤ (fr) ∧ 0 ≤ (w1) ∧ (w1) ≤ (fr) ∧ (k249q) ≤ 64 ∧ (kB253q) ≤ 64 ∧ (k300) ≤ 64 ∧ (kB304) ≤ 64 from ⟨by omega, by omega, by omega, by omega, by omega, by omega, by omega, by omega, by omega, by omega, by omega, by omega, by omega⟩) (show 40 - ((i + 1 : Nat)) < 40 - i from by omega) (by kernel_rfl) (by kernel_rfl)
    replace c239_ := ne_of_beqf c239_
    refine cont_false rfl ?_
    refine cont_seq ?_
    refine cont_region 2 rfl ?_
    refine bS [0, 0] 2 0 [(2, .slice A n cap), (7, .pointer (pB b2)), (8, .pointer (pB b3)), (10, .pointer (pB b33)), (11, iq (i : Int)), (38, iq (i : Int)), (39, .bool true), (74, .bool (el.x0 == 2))] ?_
    refine cont_done ?_
    refine then_normal ?_
    refine cont_split 74 (el.x0 == 2) rfl (fun c325_ => ?_) (fun c325_ => ?_)
    ·
     replace c325_ := eq_of_beqt c325_
     refine cont_true rfl ?_
     refine cont_seq ?_
     refine cont_region 3 rfl ?_
     refine bS [1] 1 2 [(2, .slice A n cap), (7, .pointer (pB b2)), (8, .pointer (pB b3)), (10, .pointer (pB b33)), (11, iq (i : Int)), (38, iq (i : Int)), (39, .bool true), (76, .agg #[iq 0, iq 0, iq W1q, iq H1q, .slice Au ku cu, .slice Av kv cv, iq w1, iq w0, iq fr])] ?_
     refine pl_step 2 1 rfl rfl ?_
     refine call_pure (d := 77) (.agg #[iq 0, iq 0, iq W1q, iq H1q, .slice Av kv cv, .slice none 0 0, iq w0, iq (fr + 1), iq (fr + 1)]) (by kernel_rfl) (fun w hT => refFlip18 W1q H1q Au ku cu Av kv cv w1 w0 fr w (by omega)) ?_
     refine batch0 [1] 3 0 [(2, .slice A n cap), (7, .pointer (pB b2)), (8, .pointer (pB b3)), (10, .pointer (pB b33)), (11, iq (i : Int)), (38, iq (i : Int)), (39, .bool true)] [.gen (rdE (el.A1) el.g1 el.o1 el.m1 4 (rvals el.x1)), .cells b33 [iq 0, iq 0, iq W1q, iq H1q, .slice Av kv cv, .slice none 0 0, iq w0, iq (fr + 1), iq (fr + 1)] 81 true, .gen (rowE (Au) gu ku cu 28 4 (rvals xs1) true), .gen (rowE (Av) gv kv cv 28 4 (rvals xs0) true), .cells b3 [.pointer (pB m4), .pointer (pB m17), .slice Ax kx cx, .slice Ay ky cy, iq w0, iq w1, iq fr, iq 1] 98 true, .cells m4 [iq W1q, iq H1q, .slice (pB r5) n6 n6] 115 true, .gen (rowE (pB r5) r5 n6 n6 54 1 (ivals .u32 (List.replicate n6 0)) true), .gen (rowE (Ax) gx kx cx 28 4 (rvals xs0) true), .gen (rowE (Ay) gy ky cy 28 4 (rvals xs1) true), .cells b2 [iq 0, iq 0, iq W1q, iq H1q] 28 true, .gen (rdE (A) g o n 7 (dvals Deed18.cells xs)), .gen (subE n (fun i_ => rdE ((dget xs i_).A1) (dget xs i_).g1 (dget xs i_).o1 (dget xs i_).m1 4 (rvals (dget xs i_).x1)))] rfl rfl (by kernel_rfl) (by kernel_rfl) ?_
     refine cont_forget 2 rfl ?_
     refine cont_done ?_
     refine then_normal ?_
     refine cont_seq ?_
     refine drawn_enter 5 [3] rfl (by kernel_rfl) ?_
     refine takes 0 [3] [(0, 0), (2, 0), (3, 1)] 2 [3, 2, 0] [(2, .slice A n cap), (7, .pointer (pB b2)), (8, .pointer (pB b3)), (10, .pointer (pB b33)), (11, iq (i : Int)), (38, iq (i : Int)), (39, .bool true), (78, .pointer (pB b3)), (81, iq (fr + 1))] (by kernel_rfl) (pok_then (pok_blk (pok_then (pok_blk (pok_then (pok_then (pok_blk (pok_then pok_body)))))))) (by kernel_rfl) rfl rfl (by kernel_rfl) (by kernel_rfl) ?_
     refine drawn_one 1 1 rfl (by kernel_rfl) ?_
     refine call_gen (d := 79) (α := Unit) (fun _ => iq (fr + 1)) (fun _ => [.gen (rdE (el.A1) el.g1 el.o1 el.m1 4 (rvals el.x1)), .cells b33 [iq 0, iq 0, iq W1q, iq H1q, .slice Av kv cv, .slice none 0 0, iq w0, iq (fr + 1), iq (fr + 1)] 81 true, .gen (rowE (Av) gv kv cv 28 4 (rvals xs0) true), .cells b3 [.pointer (pB m4), .pointer (pB m17), .slice Ax kx cx, .slice none 0 0, iq w0, iq (fr + 1), iq (fr + 1), iq 0] 98 true, .cells m4 [iq W1q, iq H1q, .slice (pB r5) n6 n6] 115 true, .gen (rowE (pB r5) r5 n6 n6 54 1 (ivals .u32 (List.replicate n6 0)) true), .gen (rowE (Ax) gx kx cx 28 4 (rvals xs0) true), .gen (rowE (Ay) gy ky cy 28 4 (rvals xs1) true), .cells b2 [iq 0, iq 0, iq W1q, iq H1q] 28 true, .gen (rdE (A) g o n 7 (dvals Deed18.cells xs)), .gen (subE n (fun i_ => rdE ((dget xs i_).A1) (dget xs i_).g1 (dget xs i_).o1 (dget xs i_).m1 4 (rvals (dget xs i_).x1)))]) (fun _ => True) (by kernel_rfl) (fun w hT => (outFlip1 b3 m4 m17 Ax Ay kx cx ky cy w0 w1 fr w (hT.view (.cons (i := 3) rfl Vw.rw .nil) (by decide)) (by omega)).mono fun e w' ⟨he_, ht_⟩ => ⟨(), he_, trivial, hT.merge (N := []) (s := [3]) ht_ (.cons (i := 3) rfl Mg.cells .nil) (by decide) (fun i e h => by simp at h)⟩) (fun _ _ => ?_)
     refine drawn_next 0 [3] (by kernel_rfl) ?_
     refine takes 0 [3] [(4, 0)] 0 [4, 1, 3, 2, 0] [(2, .slice A n cap), (7, .pointer (pB b2)), (8, .pointer (pB b3)), (10, .pointer (pB b33)), (11, iq (i : Int)), (38, iq (i : Int)), (39, .bool true), (82, .bool ((fr + 1) != (fr + 1)))] (by kernel_rfl) (pok_then (pok_blk (pok_then (pok_blk (pok_then (pok_then (pok_blk (pok_then pok_body)))))))) (by kernel_rfl) rfl rfl (by kernel_rfl) (by kernel_rfl) ?_
     refine drawn_done (by kernel_rfl) ?_
     refine then_normal ?_
     refine cont_recast 82 (.bool ((fr + 1) != (fr + 1))) (.bool false) rfl (congrArg Value.bool (bne_self_eq_false _)) ?_
     refine cont_false rfl ?_
     refine cont_skip ?_
     refine blk_normal ?_
     refine then_normal ?_
     refine cont_seq ?_
     refine drawn_enter 26 [] rfl (by kernel_rfl) ?_
     refine takes 0 [] [(0, 0), (2, 0), (3, 1)] 23 [3, 2, 0] [(2, .slice A n cap), (7, .pointer (pB b2)), (8, .pointer (pB b3)), (10, .pointer (pB b33)), (11, iq (i : Int)), (38, iq (i : Int)), (39, .bool true), (83, .pointer (pB b3)), (86, .slice Av kv cv)] (by kernel_rfl) (pok_then (pok_blk (pok_then (pok_then (pok_blk (pok_then pok_body)))))) (by kernel_rfl) rfl rfl (by kernel_rfl) (by kernel_rfl) ?_
     refine drawn_one 1 22 rfl (by kernel_rfl) ?_
     refine call_gen (d := 84) (α := Option Addr × Nat × Nat × Nat) (fun x_ => .slice x_.1 x_.2.2.1 x_.2.2.2) (fun x_ => [.gen (rowE (x_.1) x_.2.1 x_.2.2.1 x_.2.2.2 28 4 (rvals xs0) true), .gen (rdE (el.A1) el.g1 el.o1 el.m1 4 (rvals el.x1)), .cells b33 [iq 0, iq 0, iq W1q, iq H1q, .slice Av kv cv, .slice none 0 0, iq w0, iq (fr + 1), iq (fr + 1)] 81 true, .gen (rowE (Av) gv kv cv 28 4 (rvals xs0) true), .cells b3 [.pointer (pB m4), .pointer (pB m17), .slice Ax kx cx, .slice none 0 0, iq w0, iq (fr + 1), iq (fr + 1), iq 0] 98 true, .cells m4 [iq W1q, iq H1q, .slice (pB r5) n6 n6] 115 true, .gen (rowE (pB r5) r5 n6 n6 54 1 (ivals .u32 (List.replicate n6 0)) true), .gen (rowE (Ax) gx kx cx 28 4 (rvals xs0) true), .gen (rowE (Ay) gy ky cy 28 4 (rvals xs1) true), .cells b2 [iq 0, iq 0, iq W1q, iq H1q] 28 true, .gen (rdE (A) g o n 7 (dvals Deed18.cells xs)), .gen (subE n (fun i_ => rdE ((dget xs i_).A1) (dget xs i_).g1 (dget xs i_).o1 (dget xs i_).m1 4 (rvals (dget xs i_).x1)))]) (fun x_ => True) (by kernel_rfl) (fun w hT => (outStale0 b3 m4 m17 Ax none kx cx 0 0 w0 (fr + 1) (fr + 1) gx xs0 w (hT.viewRo (.cons (i := 3) rfl Vw.roc (.cons (i := 6) rfl Vw.rowRd .nil)) rfl) (by omega)).mono fun e w' ⟨A327, g328, k329, cp330, he_, ht_⟩ => ⟨(A327, g328, k329, cp330), he_, trivial, hT.news ht_ rfl⟩) ?_
     rintro ⟨A327, g328, k329, cp330⟩ hf331_
     refine cont_norm [(2, .slice A n cap), (7, .pointer (pB b2)), (8, .pointer (pB b3)), (10, .pointer (pB b33)), (11, iq (i : Int)), (38, iq (i : Int)), (39, .bool true), (83, .pointer (pB b3)), (84, .slice A327 k329 cp330), (86, .slice Av kv cv)] _ (by kernel_rfl) rfl ?_
     refine cont_fact (F := (0 < k329 → (A327 : Option Addr) = pB g328) ∧ xs0.length = k329 ∧ k329 ≤ cp330 ∧ cp330 ≤ maxLen) (fun w hT => Row.factsR (hT.ok 0 _ rfl)) (fun hr332_ => ?_)
     obtain ⟨hr332_a, hr332_l, hr332_c, hr332_m⟩ := hr332_
     unfold maxLen at hr332_m
     refine drawn_next 1 [] (by kernel_rfl) ?_
     refine drawn_one 4 21 rfl (by kernel_rfl) ?_
     refine call_pure (d := 87) (.bool (decide (xs0 = xs0))) (by kernel_rfl) (fun w hT => refSame A327 g328 0 k329 cp330 xs0 Av gv 0 kv cv xs0 w (hT.viewRo (.cons (i := 0) rfl Vw.rowRd (.cons (i := 3) rfl Vw.rowRd .nil)) rfl) (by omega)) ?_
     refine drawn_next 1 [] (by kernel_rfl) ?_
     refine takes 1 [] [(5, 0), (6, 0)] 19 [6, 5, 4, 1, 3, 2, 0] [(2, .slice A n cap), (7, .pointer (pB b2)), (8, .pointer (pB b3)), (10, .pointer (pB b33)), (11, iq (i : Int)), (38, iq (i : Int)), (39, .bool true), (89, .bool (!(decide (xs0 = xs0))))] (by kernel_rfl) (pok_then (pok_blk (pok_then (pok_then (pok_blk (pok_then pok_body)))))) (by kernel_rfl) rfl rfl (by kernel_rfl) (by kernel_rfl) ?_
     refine cont_recast 89 (.bool (!(decide (xs0 = xs0)))) (.bool false) rfl (congrArg Value.bool (by rw [show (decide (xs0 = xs0)) = true from (decide_eq_true rfl)]; rfl)) ?_
     refine takes 1 [] [(7, 0), (9, 0), (10, 1)] 16 [10, 9, 7, 6, 5, 4, 1, 3, 2, 0] [(2, .slice A n cap), (7, .pointer (pB b2)), (8, .pointer (pB b3)), (10, .pointer (pB b33)), (11, iq (i : Int)), (38, iq (i : Int)), (39, .bool true), (89, .bool false), (90, .pointer (pB b3)), (92, .pointer (some ⟨b33, 8, none⟩)), (93, iq (fr + 1))] (by kernel_rfl) (pok_then (pok_blk (pok_then (pok_then (pok_blk (pok_then pok_body)))))) (by kernel_rfl) rfl rfl (by kernel_rfl) (by kernel_rfl) ?_
     refine drawn_one 8 15 rfl (by kernel_rfl) ?_
     refine call_pure (d := 91) (iq (fr + 1)) (by kernel_rfl) (fun w hT => outFrames b3 m4 m17 Ax none kx cx 0 0 w0 (fr + 1) (fr + 1) 0 w (hT.viewRo (.cons (i := 4) rfl Vw.roc .nil) rfl)) ?_
     refine drawn_next 1 [] (by kernel_rfl) ?_
     refine takes 1 [] [(11, 0), (12, 0), (13, 0)] 12 [13, 12, 11, 8, 10, 9, 7, 6, 5, 4, 1, 3, 2, 0] [(2, .slice A n cap), (7, .pointer (pB b2)), (8, .pointer (pB b3)), (10, .pointer (pB b33)), (11, iq (i : Int)), (38, iq (i : Int)), (39, .bool true), (90, .pointer (pB b3)), (91, iq (fr + 1)), (92, .pointer (some ⟨b33, 8, none⟩)), (93, iq (fr + 1)), (94, .bool ((fr + 1) != (fr + 1))), (96, .bool ((fr + 1) != (fr + 1)))] (by kernel_rfl) (pok_then (pok_blk (pok_then (pok_then (pok_blk (pok_then pok_body)))))) (by kernel_rfl) rfl rfl (by kernel_rfl) (by kernel_rfl) ?_
     refine cont_recast 96 (.bool ((fr + 1) != (fr + 1))) (.bool false) rfl (congrArg Value.bool (bne_self_eq_false _)) ?_
     refine cont_recast 94 (.bool ((fr + 1) != (fr + 1))) (.bool false) rfl (congrArg Value.bool (bne_self_eq_false _)) ?_
     refine takes 1 [] [(14, 0), (16, 1)] 10 [16, 14, 13, 12, 11, 8, 10, 9, 7, 6, 5, 4, 1, 3, 2, 0] [(2, .slice A n cap), (7, .pointer (pB b2)), (8, .pointer (pB b3)), (10, .pointer (pB b33)), (11, iq (i : Int)), (38, iq (i : Int)), (39, .bool true), (90, .pointer (pB b3)), (91, iq (fr + 1)), (92, .pointer (some ⟨b33, 8, none⟩)), (93, iq (fr + 1)), (94, .bool false), (96, .bool false), (97, .pointer (pB b3)), (99, .agg #[iq 0, iq 0, iq W1q, iq H1q, .slice Av kv cv, .slice none 0 0, iq w0, iq (fr + 1), iq (fr + 1)])] (by kernel_rfl) (pok_then (pok_blk (pok_then (pok_then (pok_blk (pok_then pok_body)))))) (by kernel_rfl) rfl rfl (by kernel_rfl) (by kernel_rfl) ?_
     refine drawn_one 15 9 rfl (by kernel_rfl) ?_
     refine call_pure (d := 98) (iq (ageI w0 (fr + 1))) (by kernel_rfl) (fun w hT => outAge0 b3 m4 m17 Ax none kx cx 0 0 w0 (fr + 1) (fr + 1) w (hT.viewRo (.cons (i := 4) rfl Vw.roc .nil) rfl) (by omega)) ?_
     refine drawn_next 1 [] (by kernel_rfl) ?_
     refine drawn_one 17 8 rfl (by kernel_rfl) ?_
     refine call_pure (d := 100) (iq (ageI w0 (fr + 1))) (by kernel_rfl) (fun w hT => refAge18 W1q H1q Av kv cv none 0 0 w0 (fr + 1) (fr + 1) w (by omega)) ?_
     refine drawn_next 1 [] (by kernel_rfl) ?_
     refine takes 1 [] [(18, 0), (19, 0), (20, 0)] 5 [20, 19, 18, 17, 15, 16, 14, 13, 12, 11, 8, 10, 9, 7, 6, 5, 4, 1, 3, 2, 0] [(2, .slice A n cap), (7, .pointer (pB b2)), (8, .pointer (pB b3)), (10, .pointer (pB b33)), (11, iq (i : Int)), (38, iq (i : Int)), (39, .bool true), (90, .pointer (pB b3)), (91, iq (fr + 1)), (92, .pointer (some ⟨b33, 8, none⟩)), (93, iq (fr + 1)), (94, .bool false), (97, .pointer (pB b3)), (98, iq (ageI w0 (fr + 1))), (99, .agg #[iq 0, iq 0, iq W1q, iq H1q, .slice Av kv cv, .slice none 0 0, iq w0, iq (fr + 1), iq (fr + 1)]), (100, iq (ageI w0 (fr + 1))), (101, .bool ((ageI w0 (fr + 1)) != (ageI w0 (fr + 1)))), (103, .bool ((ageI w0 (fr + 1)) != (ageI w0 (fr + 1))))] (by kernel_rfl) (pok_then (pok_blk (pok_then (pok_then (pok_blk (pok_then pok_body)))))) (by kernel_rfl) rfl rfl (by kernel_rfl) (by kernel_rfl) ?_
     refine cont_recast 103 (.bool ((ageI w0 (fr + 1)) != (ageI w0 (fr + 1)))) (.bool false) rfl (congrArg Value.bool (bne_self_eq_false _)) ?_
     refine cont_recast 101 (.bool ((ageI w0 (fr + 1)) != (ageI w0 (fr + 1)))) (.bool false) rfl (congrArg Value.bool (bne_self_eq_false _)) ?_
     refine takes 1 [] [(21, 0), (23, 8)] 3 [23, 21, 20, 19, 18, 17, 15, 16, 14, 13, 12, 11, 8, 10, 9, 7, 6, 5, 4, 1, 3, 2, 0] [(2, .slice A n cap), (7, .pointer (pB b2)), (8, .pointer (pB b3)), (10, .pointer (pB b33)), (11, iq (i : Int)), (38, iq (i : Int)), (39, .bool true), (90, .pointer (pB b3)), (91, iq (fr + 1)), (92, .pointer (some ⟨b33, 8, none⟩)), (93, iq (fr + 1)), (94, .bool false), (97, .pointer (pB b3)), (98, iq (ageI w0 (fr + 1))), (99, .agg #[iq 0, iq 0, iq W1q, iq H1q, .slice Av kv cv, .slice none 0 0, iq w0, iq (fr + 1), iq (fr + 1)]), (100, iq (ageI w0 (fr + 1))), (101, .bool false), (103, .bool false), (104, .pointer (pB b3)), (106, .agg #[iq 0, iq 0, iq W1q, iq H1q])] (by kernel_rfl) (pok_then (pok_blk (pok_then (pok_then (pok_blk (pok_then pok_body)))))) (by kernel_rfl) rfl rfl (by kernel_rfl) (by kernel_rfl) ?_
     refine drawn_one 22 2 rfl (by kernel_rfl) ?_
     refine call_pure (d := 105) (.agg #[iq 0, iq 0, iq W1q, iq H1q]) (by kernel_rfl) (fun w hT => outBox b3 m4 m17 Ax none kx cx 0 0 w0 (fr + 1) (fr + 1) 0 W1q H1q r5 n6 n6 (List.replicate n6 0) w (hT.viewRo (.cons (i := 4) rfl Vw.roc (.cons (i := 5) rfl Vw.roc (.cons (i := 6) rfl Vw.rowRd .nil))) rfl) (by omega) (imgOk_new (by omega) hf18_a)) ?_
     refine drawn_next 1 [] (by kernel_rfl) ?_
     refine sem_take 1 [] 24 1 107 (bopS .neq 28 (.tmp 105) (.tmp 106) (.agg #[iq 0, iq 0, iq W1q, iq H1q]) (.agg #[iq 0, iq 0, iq W1q, iq H1q])) (.bool (!(eqInts [0, 0, W1q, H1q] [0, 0, W1q, H1q]))) (by kernel_rfl) (pok_then (pok_blk (pok_then (pok_then (pok_blk (pok_then pok_body)))))) (by kernel_rfl) rfl (by kernel_rfl) (by kernel_rfl) (fun w hT => run_neS [0, 0, W1q, H1q] [0, 0, W1q, H1q] (by kernel_rfl) (by kernel_rfl) (by kernel_rfl) (by kernel_rfl) rfl rfl w) ?_
     refine takes 1 [] [(25, 0)] 0 [25, 24, 22, 23, 21, 20, 19, 18, 17, 15, 16, 14, 13, 12, 11, 8, 10, 9, 7, 6, 5, 4, 1, 3, 2, 0] [(2, .slice A n cap), (7, .pointer (pB b2)), (8, .pointer (pB b3)), (10, .pointer (pB b33)), (11, iq (i : Int)), (38, iq (i : Int)), (39, .bool true), (90, .pointer (pB b3)), (91, iq (fr + 1)), (92, .pointer (some ⟨b33, 8, none⟩)), (93, iq (fr + 1)), (94, .bool false), (97, .pointer (pB b3)), (98, iq (ageI w0 (fr + 1))), (99, .agg #[iq 0, iq 0, iq W1q, iq H1q, .slice Av kv cv, .slice none 0 0, iq w0, iq (fr + 1), iq (fr + 1)]), (100, iq (ageI w0 (fr + 1))), (101, .bool false), (104, .pointer (pB b3)), (105, .agg #[iq 0, iq 0, iq W1q, iq H1q]), (106, .agg #[iq 0, iq 0, iq W1q, iq H1q]), (107, .bool (!(eqInts [0, 0, W1q, H1q] [0, 0, W1q, H1q]))), (108, .bool (!(eqInts [0, 0, W1q, H1q] [0, 0, W1q, H1q])))] (by kernel_rfl) (pok_then (pok_blk (pok_then (pok_then (pok_blk (pok_then pok_body)))))) (by kernel_rfl) rfl rfl (by kernel_rfl) (by kernel_rfl) ?_
     refine drawn_done (by kernel_rfl) ?_
     refine then_normal ?_
     refine cont_recast 108 (.bool (!(eqInts [0, 0, W1q, H1q] [0, 0, W1q, H1q]))) (.bool false) rfl (congrArg Value.bool (by rw [show eqInts [0, 0, W1q, H1q] [0, 0, W1q, H1q] = true from ((eqInts_rect (r := ⟨0, 0, W1q, H1q⟩) (s := ⟨0, 0, W1q, H1q⟩)).trans (decide_eq_true rfl))]; rfl)) ?_
     refine cont_recast 107 (.bool (!(eqInts [0, 0, W1q, H1q] [0, 0, W1q, H1q]))) (.bool false) rfl (congrArg Value.bool (by rw [show eqInts [0, 0, W1q, H1q] [0, 0, W1q, H1q] = true from ((eqInts_rect (r := ⟨0, 0, W1q, H1q⟩) (s := ⟨0, 0, W1q, H1q⟩)).trans (decide_eq_true rfl))]; rfl)) ?_
     refine cont_false rfl ?_
     refine cont_skip ?_
     refine blk_normal ?_
     refine then_normal ?_
     refine cont_region 3 rfl ?_
     refine bS [0, 0] 2 1 [(2, .slice A n cap), (7, .pointer (pB b2)), (8, .pointer (pB b3)), (10, .pointer (pB b33)), (38, iq (i : Int)), (39, .bool true), (42, iq (IntKind.i64.wrap ((i : Int) + 1))), (90, .pointer (pB b3)), (91, iq (fr + 1)), (92, .pointer (some ⟨b33, 8, none⟩)), (93, iq (fr + 1)), (94, .bool false), (97, .pointer (pB b3)), (98, iq (ageI w0 (fr + 1))), (99, .agg #[iq 0, iq 0, iq W1q, iq H1q, .slice Av kv cv, .slice none 0 0, iq w0, iq (fr + 1), iq (fr + 1)]), (100, iq (ageI w0 (fr + 1))), (101, .bool false), (104, .pointer (pB b3)), (105, .agg #[iq 0, iq 0, iq W1q, iq H1q]), (106, .agg #[iq 0, iq 0, iq W1q, iq H1q]), (107, .bool false)] ?_
     refine cont_recast 42 (iq (IntKind.i64.wrap ((i : Int) + 1))) (iq ((i : Int) + 1)) rfl (wrapI (by omega) (by omega)) ?_
     refine cont_forget 0 rfl ?_
     refine cont_forget 7 rfl ?_
     refine bS [0] 3 0 [(2, .slice A n cap), (7, .pointer (pB b2)), (8, .pointer (pB b3)), (10, .pointer (pB b33)), (11, iq ((i : Int) + 1)), (38, iq (i : Int)), (39, .bool true), (90, .pointer (pB b3)), (91, iq (fr + 1)), (92, .pointer (some ⟨b33, 8, none⟩)), (93, iq (fr + 1)), (94, .bool false), (97, .pointer (pB b3)), (98, iq (ageI w0 (fr + 1))), (99, .agg #[iq 0, iq 0, iq W1q, iq H1q, .slice Av kv cv, .slice none 0 0, iq w0, iq (fr + 1), iq (fr + 1)]), (100, iq (ageI w0 (fr + 1))), (101, .bool false), (104, .pointer (pB b3)), (105, .agg #[iq 0, iq 0, iq W1q, iq H1q]), (106, .agg #[iq 0, iq 0, iq W1q, iq H1q]), (107, .bool false)] ?_
     refine cont_done ?_
     refine then_normal ?_
     refine cont_nilrow 28 4 ?_
     refine cont_norm [(2, .slice A n cap), (7, .pointer (pB b2)), (8, .pointer (pB b3)), (10, .pointer (pB b33)), (11, iq ((i : Int) + 1)), (38, iq (i : Int)), (39, .bool true), (90, .pointer (pB b3)), (91, iq (fr + 1)), (92, .pointer (some ⟨b33, 8, none⟩)), (93, iq (fr + 1)), (94, .bool false), (97, .pointer (pB b3)), (98, iq (ageI w0 (fr + 1))), (99, .agg #[iq 0, iq 0, iq W1q, iq H1q, .slice Av kv cv, .slice none 0 0, iq w0, iq (fr + 1), iq (fr + 1)]), (100, iq (ageI w0 (fr + 1))), (101, .bool false), (104, .pointer (pB b3)), (105, .agg #[iq 0, iq 0, iq W1q, iq H1q]), (106, .agg #[iq 0, iq 0, iq W1q, iq H1q]), (107, .bool false)] _ (by kernel_rfl) rfl ?_
     refine cont_nilrow 28 4 ?_
     refine cont_norm [(2, .slice A n cap), (7, .pointer (pB b2)), (8, .pointer (pB b3)), (10, .pointer (pB b33)), (11, iq ((i : Int) + 1)), (38, iq (i : Int)), (39, .bool true), (90, .pointer (pB b3)), (91, iq (fr + 1)), (92, .pointer (some ⟨b33, 8, none⟩)), (93, iq (fr + 1)), (94, .bool false), (97, .pointer (pB b3)), (98, iq (ageI w0 (fr + 1))), (99, .agg #[iq 0, iq 0, iq W1q, iq H1q, .slice Av kv cv, .slice none 0 0, iq w0, iq (fr + 1), iq (fr + 1)]), (100, iq (ageI w0 (fr + 1))), (101, .bool false), (104, .pointer (pB b3)), (105, .agg #[iq 0, iq 0, iq W1q, iq H1q]), (106, .agg #[iq 0, iq 0, iq W1q, iq H1q]), (107, .bool false)] _ (by kernel_rfl) rfl ?_
     refine cont_pick [3, 4, 0, 5, 6, 7, 8, 1, 9, 10, 11] [.cells b33 [iq 0, iq 0, iq W1q, iq H1q, .slice Av kv cv, .slice none 0 0, iq w0, iq (fr + 1), iq (fr + 1)] 81 true, .gen (rowE (Av) gv kv cv 28 4 (rvals xs0) true), .gen (rowE (none) 0 0 0 28 4 (rvals []) true), .cells b3 [.pointer (pB m4), .pointer (pB m17), .slice Ax kx cx, .slice none 0 0, iq w0, iq (fr + 1), iq (fr + 1), iq 0] 98 true, .cells m4 [iq W1q, iq H1q, .slice (pB r5) n6 n6] 115 true, .gen (rowE (pB r5) r5 n6 n6 54 1 (ivals .u32 (List.replicate n6 0)) true), .gen (rowE (Ax) gx kx cx 28 4 (rvals xs0) true), .gen (rowE (none) 0 0 0 28 4 (rvals []) true), .cells b2 [iq 0, iq 0, iq W1q, iq H1q] 28 true, .gen (rdE (A) g o n 7 (dvals Deed18.cells xs)), .gen (subE n (fun i_ => rdE ((dget xs i_).A1) (dget xs i_).g1 (dget xs i_).o1 (dget xs i_).m1 4 (rvals (dget xs i_).x1)))] (by decide) rfl rfl ?_
     refine cont_norm [(2, .slice A n cap), (7, .pointer (pB b2)), (8, .pointer (pB b3)), (10, .pointer (pB b33)), (11, iq ((i : Int) + 1)), (38, iq (i : Int)), (39, .bool true), (90, .pointer (pB b3)), (91, iq (fr + 1)), (92, .pointer (some ⟨b33, 8, none⟩)), (93, iq (fr + 1)), (94, .bool false), (97, .pointer (pB b3)), (98, iq (ageI w0 (fr + 1))), (99, .agg #[iq 0, iq 0, iq W1q, iq H1q, .slice Av kv cv, .slice none 0 0, iq w0, iq (fr + 1), iq (fr + 1)]), (100, iq (ageI w0 (fr + 1))), (101, .bool false), (104, .pointer (pB b3)), (105, .agg #[iq 0, iq 0, iq W1q, iq H1q]), (106, .agg #[iq 0, iq 0, iq W1q, iq H1q]), (107, .bool false)] _ (by kernel_rfl) rfl ?_
     refine cont_again ((i + 1 : Nat), 0, w0, fr + 1, fr + 1, xs0, Ax, gx, kx, cx, ([] : List Rect), none, 0, 0, 0, Av, gv, kv, cv, none, 0, 0, 0) (show ((i + 1 : Nat)) ≤ 30 ∧ ((i + 1 : Nat)) ≤ n ∧ (0) ≤ 1 ∧ 0 ≤ (fr + 1) ∧ (fr + 1) ≤ (((i + 1 : Nat)) : Int) ∧ 0 ≤ (w0) ∧ (w0) ≤ (fr + 1) ∧ 0 ≤ (fr + 1) ∧ (fr + 1) ≤ (fr + 1) ∧ (kx) ≤ 64 ∧ (0) ≤ 64 ∧ (kv) ≤ 64 ∧ (0) ≤ 64 from ⟨by omega, by omega, by omega, by omega, by omega, by omega, by omega, by omega, by omega, by omega, by omega, by omega, by omega⟩) (show 40 - ((i + 1 : Nat)) < 40 - i from by omega) (by kernel_rfl) (by kernel_rfl)
    replace c325_ := ne_of_beqf c325_
    refine cont_false rfl ?_
    refine cont_skip ?_
    refine blk_normal ?_
    refine then_normal ?_
    refine cont_seq ?_
    refine drawn_enter 26 [] rfl (by kernel_rfl) ?_
    refine takes 0 [] [(0, 0), (2, 0), (3, 1)] 23 [3, 2, 0] [(2, .slice A n cap), (7, .pointer (pB b2)), (8, .pointer (pB b3)), (10, .pointer (pB b33)), (11, iq (i : Int)), (38, iq (i : Int)), (39, .bool true), (83, .pointer (pB b3)), (86, .slice Au ku cu)] (by kernel_rfl) (pok_then (pok_blk (pok_then (pok_then (pok_blk (pok_then pok_body)))))) (by kernel_rfl) rfl rfl (by kernel_rfl) (by kernel_rfl) ?_
    refine drawn_one 1 22 rfl (by kernel_rfl) ?_
    refine call_gen (d := 84) (α := Option Addr × Nat × Nat × Nat) (fun x_ => .slice x_.1 x_.2.2.1 x_.2.2.2) (fun x_ => [.gen (rowE (x_.1) x_.2.1 x_.2.2.1 x_.2.2.2 28 4 (rvals xs1) true), .gen (rdE (el.A1) el.g1 el.o1 el.m1 4 (rvals el.x1)), .cells b33 [iq 0, iq 0, iq W1q, iq H1q, .slice Au ku cu, .slice Av kv cv, iq w1, iq w0, iq fr] 81 true, .gen (rowE (Au) gu ku cu 28 4 (rvals xs1) true), .gen (rowE (Av) gv kv cv 28 4 (rvals xs0) true), .cells b3 [.pointer (pB m4), .pointer (pB m17), .slice Ax kx cx, .slice Ay ky cy, iq w0, iq w1, iq fr, iq 1] 98 true, .cells m4 [iq W1q, iq H1q, .slice (pB r5) n6 n6] 115 true, .gen (rowE (pB r5) r5 n6 n6 54 1 (ivals .u32 (List.replicate n6 0)) true), .gen (rowE (Ax) gx kx cx 28 4 (rvals xs0) true), .gen (rowE (Ay) gy ky cy 28 4 (rvals xs1) true), .cells b2 [iq 0, iq 0, iq W1q, iq H1q] 28 true, .gen (rdE (A) g o n 7 (dvals Deed18.cells xs)), .gen (subE n (fun i_ => rdE ((dget xs i_).A1) (dget xs i_).g1 (dget xs i_).o1 (dget xs i_).m1 4 (rvals (dget xs i_).x1)))]) (fun x_ => True) (by kernel_rfl) (fun w hT => (outStale1 b3 m4 m17 Ax Ay kx cx ky cy w0 w1 fr gy xs1 w (hT.viewRo (.cons (i := 4) rfl Vw.roc (.cons (i := 8) rfl Vw.rowRd .nil)) rfl) (by omega)).mono fun e w' ⟨A339, g340, k341, cp342, he_, ht_⟩ => ⟨(A339, g340, k341, cp342), he_, trivial, hT.news ht_ rfl⟩) ?_
    rintro ⟨A339, g340, k341, cp342⟩ hf343_
    refine cont_norm [(2, .slice A n cap), (7, .pointer (pB b2)), (8, .pointer (pB b3)), (10, .pointer (pB b33)), (11, iq (i : Int)), (38, iq (i : Int)), (39, .bool true), (83, .pointer (pB b3)), (84, .slice A339 k341 cp342), (86, .slice Au ku cu)] _ (by kernel_rfl) rfl ?_
    refine cont_fact (F := (0 < k341 → (A339 : Option Addr) = pB g340) ∧ xs1.length = k341 ∧ k341 ≤ cp342 ∧ cp342 ≤ maxLen) (fun w hT => Row.factsR (hT.ok 0 _ rfl)) (fun hr344_ => ?_)
    obtain ⟨hr344_a, hr344_l, hr344_c, hr344_m⟩ := hr344_
    unfold maxLen at hr344_m
    refine drawn_next 1 [] (by kernel_rfl) ?_
    refine drawn_one 4 21 rfl (by kernel_rfl) ?_
    refine call_pure (d := 87) (.bool (decide (xs1 = xs1))) (by kernel_rfl) (fun w hT => refSame A339 g340 0 k341 cp342 xs1 Au gu 0 ku cu xs1 w (hT.viewRo (.cons (i := 0) rfl Vw.rowRd (.cons (i := 3) rfl Vw.rowRd .nil)) rfl) (by omega)) ?_
    refine drawn_next 1 [] (by kernel_rfl) ?_
    refine takes 1 [] [(5, 0), (6, 0)] 19 [6, 5, 4, 1, 3, 2, 0] [(2, .slice A n cap), (7, .pointer (pB b2)), (8, .pointer (pB b3)), (10, .pointer (pB b33)), (11, iq (i : Int)), (38, iq (i : Int)), (39, .bool true), (89, .bool (!(decide (xs1 = xs1))))] (by kernel_rfl) (pok_then (pok_blk (pok_then (pok_then (pok_blk (pok_then pok_body)))))) (by kernel_rfl) rfl rfl (by kernel_rfl) (by kernel_rfl) ?_
    refine cont_recast 89 (.bool (!(decide (xs1 = xs1)))) (.bool false) rfl (congrArg Value.bool (by rw [show (decide (xs1 = xs1)) = true from (decide_eq_true rfl)]; rfl)) ?_
    refine takes 1 [] [(7, 0), (9, 0), (10, 1)] 16 [10, 9, 7, 6, 5, 4, 1, 3, 2, 0] [(2, .slice A n cap), (7, .pointer (pB b2)), (8, .pointer (pB b3)), (10, .pointer (pB b33)), (11, iq (i : Int)), (38, iq (i : Int)), (39, .bool true), (89, .bool false), (90, .pointer (pB b3)), (92, .pointer (some ⟨b33, 8, none⟩)), (93, iq fr)] (by kernel_rfl) (pok_then (pok_blk (pok_then (pok_then (pok_blk (pok_then pok_body)))))) (by kernel_rfl) rfl rfl (by kernel_rfl) (by kernel_rfl) ?_
    refine drawn_one 8 15 rfl (by kernel_rfl) ?_
    refine call_pure (d := 91) (iq fr) (by kernel_rfl) (fun w hT => outFrames b3 m4 m17 Ax Ay kx cx ky cy w0 w1 fr 1 w (hT.viewRo (.cons (i := 5) rfl Vw.roc .nil) rfl)) ?_
    refine drawn_next 1 [] (by kernel_rfl) ?_
    refine takes 1 [] [(11, 0), (12, 0), (13, 0)] 12 [13, 12, 11, 8, 10, 9, 7, 6, 5, 4, 1, 3, 2, 0] [(2, .slice A n cap), (7, .pointer (pB b2)), (8, .pointer (pB b3)), (10, .pointer (pB b33)), (11, iq (i : Int)), (38, iq (i : Int)), (39, .bool true), (90, .pointer (pB b3)), (91, iq fr), (92, .pointer (some ⟨b33, 8, none⟩)), (93, iq fr), (94, .bool (fr != fr)), (96, .bool (fr != fr))] (by kernel_rfl) (pok_then (pok_blk (pok_then (pok_then (pok_blk (pok_then pok_body)))))) (by kernel_rfl) rfl rfl (by kernel_rfl) (by kernel_rfl) ?_
    refine cont_recast 96 (.bool (fr != fr)) (.bool false) rfl (congrArg Value.bool (bne_self_eq_false _)) ?_
    refine cont_recast 94 (.bool (fr != fr)) (.bool false) rfl (congrArg Value.bool (bne_self_eq_false _)) ?_
    refine takes 1 [] [(14, 0), (16, 1)] 10 [16, 14, 13, 12, 11, 8, 10, 9, 7, 6, 5, 4, 1, 3, 2, 0] [(2, .slice A n cap), (7, .pointer (pB b2)), (8, .pointer (pB b3)), (10, .pointer (pB b33)), (11, iq (i : Int)), (38, iq (i : Int)), (39, .bool true), (90, .pointer (pB b3)), (91, iq fr), (92, .pointer (some ⟨b33, 8, none⟩)), (93, iq fr), (94, .bool false), (96, .bool false), (97, .pointer (pB b3)), (99, .agg #[iq 0, iq 0, iq W1q, iq H1q, .slice Au ku cu, .slice Av kv cv, iq w1, iq w0, iq fr])] (by kernel_rfl) (pok_then (pok_blk (pok_then (pok_then (pok_blk (pok_then pok_body)))))) (by kernel_rfl) rfl rfl (by kernel_rfl) (by kernel_rfl) ?_
    refine drawn_one 15 9 rfl (by kernel_rfl) ?_
    refine call_pure (d := 98) (iq (ageI w1 fr)) (by kernel_rfl) (fun w hT => outAge1 b3 m4 m17 Ax Ay kx cx ky cy w0 w1 fr w (hT.viewRo (.cons (i := 5) rfl Vw.roc .nil) rfl) (by omega)) ?_
    refine drawn_next 1 [] (by kernel_rfl) ?_
    refine drawn_one 17 8 rfl (by kernel_rfl) ?_
    refine call_pure (d := 100) (iq (ageI w1 fr)) (by kernel_rfl) (fun w hT => refAge18 W1q H1q Au ku cu Av kv cv w1 w0 fr w (by omega)) ?_
    refine drawn_next 1 [] (by kernel_rfl) ?_
    refine takes 1 [] [(18, 0), (19, 0), (20, 0)] 5 [20, 19, 18, 17, 15, 16, 14, 13, 12, 11, 8, 10, 9, 7, 6, 5, 4, 1, 3, 2, 0] [(2, .slice A n cap), (7, .pointer (pB b2)), (8, .pointer (pB b3)), (10, .pointer (pB b33)), (11, iq (i : Int)), (38, iq (i : Int)), (39, .bool true), (90, .pointer (pB b3)), (91, iq fr), (92, .pointer (some ⟨b33, 8, none⟩)), (93, iq fr), (94, .bool false), (97, .pointer (pB b3)), (98, iq (ageI w1 fr)), (99, .agg #[iq 0, iq 0, iq W1q, iq H1q, .slice Au ku cu, .slice Av kv cv, iq w1, iq w0, iq fr]), (100, iq (ageI w1 fr)), (101, .bool ((ageI w1 fr) != (ageI w1 fr))), (103, .bool ((ageI w1 fr) != (ageI w1 fr)))] (by kernel_rfl) (pok_then (pok_blk (pok_then (pok_then (pok_blk (pok_then pok_body)))))) (by kernel_rfl) rfl rfl (by kernel_rfl) (by kernel_rfl) ?_
    refine cont_recast 103 (.bool ((ageI w1 fr) != (ageI w1 fr))) (.bool false) rfl (congrArg Value.bool (bne_self_eq_false _)) ?_
    refine cont_recast 101 (.bool ((ageI w1 fr) != (ageI w1 fr))) (.bool false) rfl (congrArg Value.bool (bne_self_eq_false _)) ?_
    refine takes 1 [] [(21, 0), (23, 9)] 3 [23, 21, 20, 19, 18, 17, 15, 16, 14, 13, 12, 11, 8, 10, 9, 7, 6, 5, 4, 1, 3, 2, 0] [(2, .slice A n cap), (7, .pointer (pB b2)), (8, .pointer (pB b3)), (10, .pointer (pB b33)), (11, iq (i : Int)), (38, iq (i : Int)), (39, .bool true), (90, .pointer (pB b3)), (91, iq fr), (92, .pointer (some ⟨b33, 8, none⟩)), (93, iq fr), (94, .bool false), (97, .pointer (pB b3)), (98, iq (ageI w1 fr)), (99, .agg #[iq 0, iq 0, iq W1q, iq H1q, .slice Au ku cu, .slice Av kv cv, iq w1, iq w0, iq fr]), (100, iq (ageI w1 fr)), (101, .bool false), (103, .bool false), (104, .pointer (pB b3)), (106, .agg #[iq 0, iq 0, iq W1q, iq H1q])] (by kernel_rfl) (pok_then (pok_blk (pok_then (pok_then (pok_blk (pok_then pok_body)))))) (by kernel_rfl) rfl rfl (by kernel_rfl) (by kernel_rfl) ?_
    refine drawn_one 22 2 rfl (by kernel_rfl) ?_
    refine call_pure (d := 105) (.agg #[iq 0, iq 0, iq W1q, iq H1q]) (by kernel_rfl) (fun w hT => outBox b3 m4 m17 Ax Ay kx cx ky cy w0 w1 fr 1 W1q H1q r5 n6 n6 (List.replicate n6 0) w (hT.viewRo (.cons (i := 5) rfl Vw.roc (.cons (i := 6) rfl Vw.roc (.cons (i := 7) rfl Vw.rowRd .nil))) rfl) (by omega) (imgOk_new (by omega) hf18_a)) ?_
    refine drawn_next 1 [] (by kernel_rfl) ?_
    refine sem_take 1 [] 24 1 107 (bopS .neq 28 (.tmp 105) (.tmp 106) (.agg #[iq 0, iq 0, iq W1q, iq H1q]) (.agg #[iq 0, iq 0, iq W1q, iq H1q])) (.bool (!(eqInts [0, 0, W1q, H1q] [0, 0, W1q, H1q]))) (by kernel_rfl) (pok_then (pok_blk (pok_then (pok_then (pok_blk (pok_then pok_body)))))) (by kernel_rfl) rfl (by kernel_rfl) (by kernel_rfl) (fun w hT => run_neS [0, 0, W1q, H1q] [0, 0, W1q, H1q] (by kernel_rfl) (by kernel_rfl) (by kernel_rfl) (by kernel_rfl) rfl rfl w) ?_
    refine takes 1 [] [(25, 0)] 0 [25, 24, 22, 23, 21, 20, 19, 18, 17, 15, 16, 14, 13, 12, 11, 8, 10, 9, 7, 6, 5, 4, 1, 3, 2, 0] [(2, .slice A n cap), (7, .pointer (pB b2)), (8, .pointer (pB b3)), (10, .pointer (pB b33)), (11, iq (i : Int)), (38, iq (i : Int)), (39, .bool true), (90, .pointer (pB b3)), (91, iq fr), (92, .pointer (some ⟨b33, 8, none⟩)), (93, iq fr), (94, .bool false), (97, .pointer (pB b3)), (98, iq (ageI w1 fr)), (99, .agg #[iq 0, iq 0, iq W1q, iq H1q, .slice Au ku cu, .slice Av kv cv, iq w1, iq w0, iq fr]), (100, iq (ageI w1 fr)), (101, .bool false), (104, .pointer (pB b3)), (105, .agg #[iq 0, iq 0, iq W1q, iq H1q]), (106, .agg #[iq 0, iq 0, iq W1q, iq H1q]), (107, .bool (!(eqInts [0, 0, W1q, H1q] [0, 0, W1q, H1q]))), (108, .bool (!(eqInts [0, 0, W1q, H1q] [0, 0, W1q, H1q])))] (by kernel_rfl) (pok_then (pok_blk (pok_then (pok_then (pok_blk (pok_then pok_body)))))) (by kernel_rfl) rfl rfl (by kernel_rfl) (by kernel_rfl) ?_
    refine drawn_done (by kernel_rfl) ?_
    refine then_normal ?_
    refine cont_recast 108 (.bool (!(eqInts [0, 0, W1q, H1q] [0, 0, W1q, H1q]))) (.bool false) rfl (congrArg Value.bool (by rw [show eqInts [0, 0, W1q, H1q] [0, 0, W1q, H1q] = true from ((eqInts_rect (r := ⟨0, 0, W1q, H1q⟩) (s := ⟨0, 0, W1q, H1q⟩)).trans (decide_eq_true rfl))]; rfl)) ?_
    refine cont_recast 107 (.bool (!(eqInts [0, 0, W1q, H1q] [0, 0, W1q, H1q]))) (.bool false) rfl (congrArg Value.bool (by rw [show eqInts [0, 0, W1q, H1q] [0, 0, W1q, H1q] = true from ((eqInts_rect (r := ⟨0, 0, W1q, H1q⟩) (s := ⟨0, 0, W1q, H1q⟩)).trans (decide_eq_true rfl))]; rfl)) ?_
    refine cont_false rfl ?_
    refine cont_skip ?_
    refine blk_normal ?_
    refine then_normal ?_
    refine cont_region 3 rfl ?_
    refine bS [0, 0] 2 1 [(2, .slice A n cap), (7, .pointer (pB b2)), (8, .pointer (pB b3)), (10, .pointer (pB b33)), (38, iq (i : Int)), (39, .bool true), (42, iq (IntKind.i64.wrap ((i : Int) + 1))), (90, .pointer (pB b3)), (91, iq fr), (92, .pointer (some ⟨b33, 8, none⟩)), (93, iq fr), (94, .bool false), (97, .pointer (pB b3)), (98, iq (ageI w1 fr)), (99, .agg #[iq 0, iq 0, iq W1q, iq H1q, .slice Au ku cu, .slice Av kv cv, iq w1, iq w0, iq fr]), (100, iq (ageI w1 fr)), (101, .bool false), (104, .pointer (pB b3)), (105, .agg #[iq 0, iq 0, iq W1q, iq H1q]), (106, .agg #[iq 0, iq 0, iq W1q, iq H1q]), (107, .bool false)] ?_
    refine cont_recast 42 (iq (IntKind.i64.wrap ((i : Int) + 1))) (iq ((i : Int) + 1)) rfl (wrapI (by omega) (by omega)) ?_
    refine cont_forget 0 rfl ?_
    refine bS [0] 3 0 [(2, .slice A n cap), (7, .pointer (pB b2)), (8, .pointer (pB b3)), (10, .pointer (pB b33)), (11, iq ((i : Int) + 1)), (38, iq (i : Int)), (39, .bool true), (90, .pointer (pB b3)), (91, iq fr), (92, .pointer (some ⟨b33, 8, none⟩)), (93, iq fr), (94, .bool false), (97, .pointer (pB b3)), (98, iq (ageI w1 fr)), (99, .agg #[iq 0, iq 0, iq W1q, iq H1q, .slice Au ku cu, .slice Av kv cv, iq w1, iq w0, iq fr]), (100, iq (ageI w1 fr)), (101, .bool false), (104, .pointer (pB b3)), (105, .agg #[iq 0, iq 0, iq W1q, iq H1q]), (106, .agg #[iq 0, iq 0, iq W1q, iq H1q]), (107, .bool false)] ?_
    refine cont_done ?_
    refine then_normal ?_
    refine cont_pick [1, 2, 3, 4, 5, 6, 7, 8, 9, 10, 11] [.cells b33 [iq 0, iq 0, iq W1q, iq H1q, .slice Au ku cu, .slice Av kv cv, iq w1, iq w0, iq fr] 81 true, .gen (rowE (Au) gu ku cu 28 4 (rvals xs1) true), .gen (rowE (Av) gv kv cv 28 4 (rvals xs0) true), .cells b3 [.pointer (pB m4), .pointer (pB m17), .slice Ax kx cx, .slice Ay ky cy, iq w0, iq w1, iq fr, iq 1] 98 true, .cells m4 [iq W1q, iq H1q, .slice (pB r5) n6 n6] 115 true, .gen (rowE (pB r5) r5 n6 n6 54 1 (ivals .u32 (List.replicate n6 0)) true), .gen (rowE (Ax) gx kx cx 28 4 (rvals xs0) true), .gen (rowE (Ay) gy ky cy 28 4 (rvals xs1) true), .cells b2 [iq 0, iq 0, iq W1q, iq H1q] 28 true, .gen (rdE (A) g o n 7 (dvals Deed18.cells xs)), .gen (subE n (fun i_ => rdE ((dget xs i_).A1) (dget xs i_).g1 (dget xs i_).o1 (dget xs i_).m1 4 (rvals (dget xs i_).x1)))] (by decide) rfl rfl ?_
    refine cont_norm [(2, .slice A n cap), (7, .pointer (pB b2)), (8, .pointer (pB b3)), (10, .pointer (pB b33)), (11, iq ((i : Int) + 1)), (38, iq (i : Int)), (39, .bool true), (90, .pointer (pB b3)), (91, iq fr), (92, .pointer (some ⟨b33, 8, none⟩)), (93, iq fr), (94, .bool false), (97, .pointer (pB b3)), (98, iq (ageI w1 fr)), (99, .agg #[iq 0, iq 0, iq W1q, iq H1q, .slice Au ku cu, .slice Av kv cv, iq w1, iq w0, iq fr]), (100, iq (ageI w1 fr)), (101, .bool false), (104, .pointer (pB b3)), (105, .agg #[iq 0, iq 0, iq W1q, iq H1q]), (106, .agg #[iq 0, iq 0, iq W1q, iq H1q]), (107, .bool false)] _ (by kernel_rfl) rfl ?_
    refine cont_again ((i + 1 : Nat), 1, w0, w1, fr, xs0, Ax, gx, kx, cx, xs1, Ay, gy, ky, cy, Au, gu, ku, cu, Av, gv, kv, cv) (show ((i + 1 : Nat)) ≤ 30 ∧ ((i + 1 : Nat)) ≤ n ∧ (1) ≤ 1 ∧ 0 ≤ (fr) ∧ (fr) ≤ (((i + 1 : Nat)) : Int) ∧ 0 ≤ (w0) ∧ (w0) ≤ (fr) ∧ 0 ≤ (w1) ∧ (w1) ≤ (fr) ∧ (kx) ≤ 64 ∧ (ky) ≤ 64 ∧ (ku) ≤ 64 ∧ (kv) ≤ 64 from ⟨by omega, by omega, by omega, by omega, by omega, by omega, by omega, by omega, by omega, by omega, by omega, by omega, by omega⟩) (show 40 - ((i + 1 : Nat)) < 40 - i from by omega) (by kernel_rfl) (by kernel_rfl)
   refine cont_recast 39 (.bool (decide ((i : Int) < 30))) (.bool false) rfl (congrArg Value.bool c198_) ?_
   replace c198_ := of_decide_eq_false c198_
   refine cont_false rfl ?_
   refine cont_exit ?_
   refine then_exit ?_
   refine then_exit ?_
   refine blk_exit ?_
   refine then_normal ?_
   refine cont_seq ?_
   refine cont_region 2 rfl ?_
   refine pl_step 1 1 rfl rfl ?_
   refine call_pure (d := 109) (.bool true) (by kernel_rfl) (fun w hT => lives18  w) ?_
   refine bS [0] 2 0 [(6, .bool true)] ?_
   refine cont_forget 0 rfl ?_
   refine cont_forget 0 rfl ?_
   refine cont_forget 0 rfl ?_
   refine cont_forget 0 rfl ?_
   refine cont_forget 0 rfl ?_
   refine cont_forget 1 rfl ?_
   refine cont_forget 1 rfl ?_
   refine cont_forget 1 rfl ?_
   refine cont_done ?_
   refine then_normal ?_
   refine cont_ret ?_
   refine ret_one (.inl rfl) rfl 0 (.bool true) (by kernel_rfl) (by kernel_rfl) (fun w hT => ?_)
   exact ⟨rfl, hT.post rfl⟩
  replace c197_ := of_decide_eq_false c197_
  refine bS [0, 0, 0] 8 0 [(2, .slice A n cap), (7, .pointer (pB b2)), (8, .pointer (pB b3)), (10, .pointer (pB b33)), (11, iq (i : Int)), (38, undef), (39, undef), (40, .bool false)] ?_
  refine cont_done ?_
  refine then_normal ?_
  refine cont_false rfl ?_
  refine cont_exit ?_
  refine then_exit ?_
  refine then_exit ?_
  refine blk_exit ?_
  refine then_normal ?_
  refine cont_seq ?_
  refine cont_region 2 rfl ?_
  refine pl_step 1 1 rfl rfl ?_
  refine call_pure (d := 109) (.bool true) (by kernel_rfl) (fun w hT => lives18  w) ?_
  refine bS [0] 2 0 [(6, .bool true)] ?_
  refine cont_forget 0 rfl ?_
  refine cont_forget 0 rfl ?_
  refine cont_forget 0 rfl ?_
  refine cont_forget 0 rfl ?_
  refine cont_forget 0 rfl ?_
  refine cont_forget 1 rfl ?_
  refine cont_forget 1 rfl ?_
  refine cont_forget 1 rfl ?_
  refine cont_done ?_
  refine then_normal ?_
  refine cont_ret ?_
  refine ret_one (.inl rfl) rfl 0 (.bool true) (by kernel_rfl) (by kernel_rfl) (fun w hT => ?_)
  exact ⟨rfl, hT.post rfl⟩

end Go.Proofs.Ytgmonhehilcegaa

