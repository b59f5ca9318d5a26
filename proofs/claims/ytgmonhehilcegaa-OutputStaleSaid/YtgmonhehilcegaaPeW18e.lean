/- Contracts of functions of the given program, printed by a program of this project. -/
import Derived.Test.YtgmonhehilcegaaPeW18
import Derived.Test.YtgmonhehilcegaaPeL18c
import Derived.Test.YtgmonhehilcegaaPeL18b
import Derived.Test.YtgmonhehilcegaaPeDk18
import Derived.Test.YtgmonhehilcegaaPeOi
import Derived.Test.YtgmonhehilcegaaProg
set_option linter.unusedVariables false
set_option linter.unusedSimpArgs false
namespace Go.Proofs.Ytgmonhehilcegaa
open Go Go.RowKit
set_option maxRecDepth 100000
set_option maxHeartbeats 8000000

theorem walkOutputStale (w_ h_ : Int) (A : Option Addr) (g o n cap : Nat) (xs : List Deed18) (w : World) (hww : -9223372036854775808 ≤ w_ ∧ w_ ≤ 9223372036854775807) (hhh : -9223372036854775808 ≤ h_ ∧ h_ ≤ 9223372036854775807) (hr : Rd w A g o n 7 (dvals Deed18.cells xs)) (hl : xs.length = n) (hc : n ≤ cap) (hm : cap ≤ maxLen) (hg : ∀ d ∈ xs, Deed18.Good w d) :
    Calls Try.prog 7 #[.int .i64 w_, .int .i64 h_, .slice A n cap] w fun e w' => e = .returned (.bool true) ∧ Below w.heap.size w w' := by
 unfold maxLen at hm
 obtain ⟨hra, _⟩ := Rd.factsD Deed18.size (by decide) hr
 have hge : ∀ i, i < n → Deed18.Good w (dget xs i) := fun i hi => hg _ (dget_mem (by omega))
 refine enter 145 [(0, iq w_), (1, iq h_), (2, .slice A n cap)] [.gen (rdE (A) g o n 7 (dvals Deed18.cells xs)), .gen (subE n (fun i_ => rdE ((dget xs i_).A1) (dget xs i_).g1 (dget xs i_).o1 (dget xs i_).m1 4 (rvals (dget xs i_).x1)))] Try.func7 rfl Try.ntmps7 rfl (by kernel_rfl) (Tab.olds (fun i_ e_ he_ => by
   match i_, he_ with
   | 0, he_ => cases he_; exact ⟨hr, rfl, rfl⟩
   | 1, he_ => cases he_; exact ⟨fun i_ hi_ => (hge i_ hi_).r1, rfl, rfl⟩
   | _ + 2, he_ => cases he_)) ?_
 refine cont_seq ?_
 refine cont_region 1 rfl ?_
 refine bS [0] 1 0 [(0, iq w_), (1, iq h_), (2, .slice A n cap)] ?_
 refine cont_done ?_
 refine then_normal ?_
 refine cont_seq ?_
 refine cont_region 5 rfl ?_
 refine bS [0, 0] 2 3 [(2, .slice A n cap), (20, iq w_), (21, iq h_)] ?_
 refine pl_step 3 2 rfl rfl ?_
 obtain ⟨W1q, hW1q⟩ : ∃ y_ : Int, y_ = 1 + aroundI w_ 16 := ⟨_, rfl⟩
 have hW1qr := aroundI_range w_ (m := 16) (by omega)
 have hW1qi : 1 ≤ W1q ∧ W1q ≤ 16 := by omega
 obtain ⟨H1q, hH1q⟩ : ∃ y_ : Int, y_ = 1 + aroundI h_ 16 := ⟨_, rfl⟩
 have hH1qr := aroundI_range h_ (m := 16) (by omega)
 have hH1qi : 1 ≤ H1q ∧ H1q ≤ 16 := by omega
 refine call_pure (d := 22) (.agg #[iq 0, iq 0, iq W1q, iq H1q]) (by kernel_rfl) (fun w hT => refBox17 w_ h_ W1q H1q w hW1q hH1q (by omega) (by omega)) ?_
 refine batch1 [0, 0] 5 0 (fun b2 => [(2, .slice A n cap), (7, .pointer (pB b2))]) (fun b2 => [.cells b2 [iq 0, iq 0, iq W1q, iq H1q] 28 true, .gen (rdE (A) g o n 7 (dvals Deed18.cells xs)), .gen (subE n (fun i_ => rdE ((dget xs i_).A1) (dget xs i_).g1 (dget xs i_).o1 (dget xs i_).m1 4 (rvals (dget xs i_).x1)))]) rfl rfl [2, 7] (fun _ => rfl) (fun b2 => by kernel_rfl) (fun b2 => by kernel_rfl) (fun b2 => ?_)
 refine cont_done ?_
 refine then_normal ?_
 refine cont_seq ?_
 refine cont_region 10 rfl ?_
 refine bS [0, 0, 0, 0] 4 6 [(2, .slice A n cap), (7, .pointer (pB b2)), (25, iq W1q), (27, iq H1q)] ?_
 refine pl_step 5 5 rfl rfl ?_
 refine call_gen (d := 28) (α := Nat × Nat × Nat × Nat × Nat × Nat × Nat × Option Addr × Nat × Nat × Nat × Option Addr × Nat × Nat × Nat) (fun x_ => .tuple #[.pointer (pB x_.1), iq 0]) (fun x_ => [.cells x_.1 [.pointer (pB x_.2.1), .pointer (pB x_.2.2.2.2.1), .slice x_.2.2.2.2.2.2.2.1 x_.2.2.2.2.2.2.2.2.2.1 x_.2.2.2.2.2.2.2.2.2.2.1, .slice x_.2.2.2.2.2.2.2.2.2.2.2.1 x_.2.2.2.2.2.2.2.2.2.2.2.2.2.1 x_.2.2.2.2.2.2.2.2.2.2.2.2.2.2, iq 0, iq 0, iq 0, iq 0] 98 true, .cells x_.2.1 [iq W1q, iq H1q, .slice (pB x_.2.2.1) x_.2.2.2.1 x_.2.2.2.1] 115 true, .gen (rowE (pB x_.2.2.1) x_.2.2.1 x_.2.2.2.1 x_.2.2.2.1 54 1 (ivals .u32 (List.replicate x_.2.2.2.1 0)) true), .cells x_.2.2.2.2.1 [iq W1q, iq H1q, .slice (pB x_.2.2.2.2.2.1) x_.2.2.2.2.2.2.1 x_.2.2.2.2.2.2.1] 115 true, .gen (rowE (pB x_.2.2.2.2.2.1) x_.2.2.2.2.2.1 x_.2.2.2.2.2.2.1 x_.2.2.2.2.2.2.1 54 1 (ivals .u32 (List.replicate x_.2.2.2.2.2.2.1 0)) true), .gen (rowE (x_.2.2.2.2.2.2.2.1) x_.2.2.2.2.2.2.2.2.1 x_.2.2.2.2.2.2.2.2.2.1 x_.2.2.2.2.2.2.2.2.2.2.1 28 4 (rvals (canR [(⟨0, 0, W1q, H1q⟩ : Rect)])) true), .gen (rowE (x_.2.2.2.2.2.2.2.2.2.2.2.1) x_.2.2.2.2.2.2.2.2.2.2.2.2.1 x_.2.2.2.2.2.2.2.2.2.2.2.2.2.1 x_.2.2.2.2.2.2.2.2.2.2.2.2.2.2 28 4 (rvals (canR [(⟨0, 0, W1q, H1q⟩ : Rect)])) true), .cells b2 [iq 0, iq 0, iq W1q, iq H1q] 28 true, .gen (rdE (A) g o n 7 (dvals Deed18.cells xs)), .gen (subE n (fun i_ => rdE ((dget xs i_).A1) (dget xs i_).g1 (dget xs i_).o1 (dget xs i_).m1 4 (rvals (dget xs i_).x1)))]) (fun x_ => (x_.2.2.2.1 : Int) = W1q * H1q ∧ (x_.2.2.2.2.2.2.1 : Int) = W1q * H1q) (by kernel_rfl) (fun w hT => (outNew W1q H1q w (by omega)).mono fun e w' ⟨b3, m4, r5, n6, m17, r18, n19, A10, g11, k12, cp13, B14, gB15, kB16, cB17, he_, hf_, ht_⟩ => ⟨(b3, m4, r5, n6, m17, r18, n19, A10, g11, k12, cp13, B14, gB15, kB16, cB17), he_, hf_, hT.news ht_ rfl⟩) ?_
 rintro ⟨b3, m4, r5, n6, m17, r18, n19, A10, g11, k12, cp13, B14, gB15, kB16, cB17⟩ hf18_
 replace hf18_ : (n6 : Int) = W1q * H1q ∧ (n19 : Int) = W1q * H1q := hf18_
 refine cont_norm [(2, .slice A n cap), (7, .pointer (pB b2)), (25, iq W1q), (27, iq H1q), (28, .tuple #[.pointer (pB b3), iq 0])] _ (by kernel_rfl) rfl ?_
 obtain ⟨hf18_a, hf18_b⟩ := hf18_
 have hcl19_ := canR_small (l := [(⟨0, 0, W1q, H1q⟩ : Rect)]) (by simp)
 refine cont_fact (F := (0 < k12 → (A10 : Option Addr) = pB g11) ∧ (canR [(⟨0, 0, W1q, H1q⟩ : Rect)]).length = k12 ∧ k12 ≤ cp13 ∧ cp13 ≤ maxLen) (fun w hT => Row.factsR (hT.ok 5 _ rfl)) (fun hr20_ => ?_)
 obtain ⟨hr20_a, hr20_l, hr20_c, hr20_m⟩ := hr20_
 unfold maxLen at hr20_m
 refine cont_fact (F := (0 < kB16 → (B14 : Option Addr) = pB gB15) ∧ (canR [(⟨0, 0, W1q, H1q⟩ : Rect)]).length = kB16 ∧ kB16 ≤ cB17 ∧ cB17 ≤ maxLen) (fun w hT => Row.factsR (hT.ok 6 _ rfl)) (fun hr21_ => ?_)
 obtain ⟨hr21_a, hr21_l, hr21_c, hr21_m⟩ := hr21_
 unfold maxLen at hr21_m
 refine bS [0, 0, 0, 0, 0] 10 0 [(2, .slice A n cap), (7, .pointer (pB b2)), (8, .pointer (pB b3)), (9, iq 0)] ?_
 refine cont_done ?_
 refine then_normal ?_
 refine cont_seq ?_
 refine cont_seq ?_
 refine cont_region 6 rfl ?_
 refine bS [0, 0, 0, 0, 0, 0] 6 0 [(2, .slice A n cap), (7, .pointer (pB b2)), (8, .pointer (pB b3)), (36, .bool false)] ?_
 refine cont_done ?_
 refine then_normal ?_
 refine cont_false rfl ?_
 refine cont_skip ?_
 refine then_normal ?_
 refine cont_seq ?_
 refine cont_region 6 rfl ?_
 have hok0_ := (imgOk_new (by omega) hf18_a)
 have hn_ := hok0_.num
 have hle_ := hok0_.le
 refine bS [0, 7, 0, 7, 0] 5 1 [(2, .slice A n cap), (7, .pointer (pB b2)), (8, .pointer (pB b3)), (41, iq (IntKind.i64.wrap (W1q * H1q)))] ?_
 refine cont_recast 41 (iq (IntKind.i64.wrap (W1q * H1q))) (iq (n6 : Int)) rfl (by rw [← hn_]; exact wrapI (by omega) (by omega)) ?_
 refine bS [0] 6 0 [(2, .slice A n cap), (7, .pointer (pB b2)), (8, .pointer (pB b3)), (10, iq (n6 : Int))] ?_
 refine cont_done ?_
 refine then_normal ?_
 refine cont_seq ?_
 refine cont_region 3 rfl ?_
 refine bS [0] 1 2 [(2, .slice A n cap), (7, .pointer (pB b2)), (8, .pointer (pB b3)), (10, iq (n6 : Int)), (42, iq (n6 : Int))] ?_
 refine pl_step 2 1 rfl rfl ?_
 refine sem_stepW 43 (Instr.makeSlice 61 (iq (n6 : Int)) (iq (n6 : Int))) (fun r22 => .slice (pB r22) n6 n6) (fun r22 => [.gen (rowE (pB r22) r22 n6 n6 4 1 (bvals (List.replicate n6 false)) true), .cells b3 [.pointer (pB m4), .pointer (pB m17), .slice A10 k12 cp13, .slice B14 kB16 cB17, iq 0, iq 0, iq 0, iq 0] 98 true, .cells m4 [iq W1q, iq H1q, .slice (pB r5) n6 n6] 115 true, .gen (rowE (pB r5) r5 n6 n6 54 1 (ivals .u32 (List.replicate n6 0)) true), .cells m17 [iq W1q, iq H1q, .slice (pB r18) n19 n19] 115 true, .gen (rowE (pB r18) r18 n19 n19 54 1 (ivals .u32 (List.replicate n19 0)) true), .gen (rowE (A10) g11 k12 cp13 28 4 (rvals (canR [(⟨0, 0, W1q, H1q⟩ : Rect)])) true), .gen (rowE (B14) gB15 kB16 cB17 28 4 (rvals (canR [(⟨0, 0, W1q, H1q⟩ : Rect)])) true), .cells b2 [iq 0, iq 0, iq W1q, iq H1q] 28 true, .gen (rdE (A) g o n 7 (dvals Deed18.cells xs)), .gen (subE n (fun i_ => rdE ((dget xs i_).A1) (dget xs i_).g1 (dget xs i_).o1 (dget xs i_).m1 4 (rvals (dget xs i_).x1)))]) (fun _ => True) (by kernel_rfl) (fun w hT => make_rowB hT (bytes := 1) n6 (by kernel_rfl) (by kernel_rfl) (by omega) (by omega)) (fun r22 _ => ?_)
 refine bS [0] 3 0 [(2, .slice A n cap), (7, .pointer (pB b2)), (8, .pointer (pB b3)), (10, iq (n6 : Int)), (11, .slice (pB r22) n6 n6)] ?_
 refine cont_done ?_
 refine then_normal ?_
 refine cont_seq ?_
 refine cont_region 3 rfl ?_
 refine bS [0] 1 2 [(2, .slice A n cap), (7, .pointer (pB b2)), (8, .pointer (pB b3)), (10, iq (n6 : Int)), (11, .slice (pB r22) n6 n6), (44, iq (n6 : Int))] ?_
 refine pl_step 2 1 rfl rfl ?_
 refine sem_stepW 45 (Instr.makeSlice 61 (iq (n6 : Int)) (iq (n6 : Int))) (fun r23 => .slice (pB r23) n6 n6) (fun r23 => [.gen (rowE (pB r23) r23 n6 n6 4 1 (bvals (List.replicate n6 false)) true), .gen (rowE (pB r22) r22 n6 n6 4 1 (bvals (List.replicate n6 false)) true), .cells b3 [.pointer (pB m4), .pointer (pB m17), .slice A10 k12 cp13, .slice B14 kB16 cB17, iq 0, iq 0, iq 0, iq 0] 98 true, .cells m4 [iq W1q, iq H1q, .slice (pB r5) n6 n6] 115 true, .gen (rowE (pB r5) r5 n6 n6 54 1 (ivals .u32 (List.replicate n6 0)) true), .cells m17 [iq W1q, iq H1q, .slice (pB r18) n19 n19] 115 true, .gen (rowE (pB r18) r18 n19 n19 54 1 (ivals .u32 (List.replicate n19 0)) true), .gen (rowE (A10) g11 k12 cp13 28 4 (rvals (canR [(⟨0, 0, W1q, H1q⟩ : Rect)])) true), .gen (rowE (B14) gB15 kB16 cB17 28 4 (rvals (canR [(⟨0, 0, W1q, H1q⟩ : Rect)])) true), .cells b2 [iq 0, iq 0, iq W1q, iq H1q] 28 true, .gen (rdE (A) g o n 7 (dvals Deed18.cells xs)), .gen (subE n (fun i_ => rdE ((dget xs i_).A1) (dget xs i_).g1 (dget xs i_).o1 (dget xs i_).m1 4 (rvals (dget xs i_).x1)))]) (fun _ => True) (by kernel_rfl) (fun w hT => make_rowB hT (bytes := 1) n6 (by kernel_rfl) (by kernel_rfl) (by omega) (by omega)) (fun r23 _ => ?_)
 refine bS [0] 3 0 [(2, .slice A n cap), (7, .pointer (pB b2)), (8, .pointer (pB b3)), (10, iq (n6 : Int)), (11, .slice (pB r22) n6 n6), (12, .slice (pB r23) n6 n6)] ?_
 refine cont_done ?_
 refine then_normal ?_
 refine cont_seq ?_
 refine cont_seq ?_
 refine cont_region 1 rfl ?_
 refine bS [0] 1 0 [(2, .slice A n cap), (7, .pointer (pB b2)), (8, .pointer (pB b3)), (10, iq (n6 : Int)), (11, .slice (pB r22) n6 n6), (12, .slice (pB r23) n6 n6), (13, iq 0)] ?_
 refine cont_done ?_
 refine then_normal ?_
 refine cont_block ?_
 refine cont_loop (α := Nat × List Bool × List Bool) (fun x_ : Nat × List Bool × List Bool => x_.1 ≤ n6) (fun x_ : Nat × List Bool × List Bool => [(2, .slice A n cap), (7, .pointer (pB b2)), (8, .pointer (pB b3)), (10, iq (n6 : Int)), (11, .slice (pB r22) n6 n6), (12, .slice (pB r23) n6 n6), (13, iq (x_.1 : Int))]) (fun x_ : Nat × List Bool × List Bool => [.gen (rowE (pB r23) r23 n6 n6 4 1 (bvals x_.2.2) true), .gen (rowE (pB r22) r22 n6 n6 4 1 (bvals x_.2.1) true), .cells b3 [.pointer (pB m4), .pointer (pB m17), .slice A10 k12 cp13, .slice B14 kB16 cB17, iq 0, iq 0, iq 0, iq 0] 98 true, .cells m4 [iq W1q, iq H1q, .slice (pB r5) n6 n6] 115 true, .gen (rowE (pB r5) r5 n6 n6 54 1 (ivals .u32 (List.replicate n6 0)) true), .cells m17 [iq W1q, iq H1q, .slice (pB r18) n19 n19] 115 true, .gen (rowE (pB r18) r18 n19 n19 54 1 (ivals .u32 (List.replicate n19 0)) true), .gen (rowE (A10) g11 k12 cp13 28 4 (rvals (canR [(⟨0, 0, W1q, H1q⟩ : Rect)])) true), .gen (rowE (B14) gB15 kB16 cB17 28 4 (rvals (canR [(⟨0, 0, W1q, H1q⟩ : Rect)])) true), .cells b2 [iq 0, iq 0, iq W1q, iq H1q] 28 true, .gen (rdE (A) g o n 7 (dvals Deed18.cells xs)), .gen (subE n (fun i_ => rdE ((dget xs i_).A1) (dget xs i_).g1 (dget xs i_).o1 (dget xs i_).m1 4 (rvals (dget xs i_).x1)))]) (fun x_ : Nat × List Bool × List Bool => n6 - x_.1) (0, List.replicate n6 false, List.replicate n6 false) (show (0) ≤ n6 from (by omega)) (by kernel_rfl) (by kernel_rfl) ?_
 rintro ⟨i, bB, bF⟩ hinv24_
 replace hinv24_ : i ≤ n6 := hinv24_
 refine cont_norm [(2, .slice A n cap), (7, .pointer (pB b2)), (8, .pointer (pB b3)), (10, iq (n6 : Int)), (11, .slice (pB r22) n6 n6), (12, .slice (pB r23) n6 n6), (13, iq (i : Int))] _ (by kernel_rfl) rfl ?_
 have hi := hinv24_
 refine cont_seq ?_
 refine cont_seq ?_
 refine cont_region 3 rfl ?_
 refine bS [0, 0, 0] 3 0 [(2, .slice A n cap), (7, .pointer (pB b2)), (8, .pointer (pB b3)), (10, iq (n6 : Int)), (11, .slice (pB r22) n6 n6), (12, .slice (pB r23) n6 n6), (13, iq (i : Int)), (48, .bool (decide ((i : Int) < (n6 : Int))))] ?_
 refine cont_done ?_
 refine then_normal ?_
 refine cont_split 48 (decide ((i : Int) < (n6 : Int))) rfl (fun c25_ => ?_) (fun c25_ => ?_)
 ·
  replace c25_ := of_decide_eq_true c25_
  refine cont_true rfl ?_
  refine cont_skip ?_
  refine then_normal ?_
  refine cont_seq ?_
  refine cont_block ?_
  refine cont_seq ?_
  refine cont_region 4 rfl ?_
  refine cont_fact (F := (0 < n6 → (pB r22 : Option Addr) = pB r22) ∧ bB.length = n6 ∧ n6 ≤ n6 ∧ n6 ≤ maxLen) (fun w hT => Row.factsB (hT.ok 1 _ rfl)) (fun hr26_ => ?_)
  obtain ⟨hr26_a, hr26_l, hr26_c, hr26_m⟩ := hr26_
  unfold maxLen at hr26_m
  refine cont_fact (F := (0 < n6 → (pB r23 : Option Addr) = pB r23) ∧ bF.length = n6 ∧ n6 ≤ n6 ∧ n6 ≤ maxLen) (fun w hT => Row.factsB (hT.ok 0 _ rfl)) (fun hr27_ => ?_)
  obtain ⟨hr27_a, hr27_l, hr27_c, hr27_m⟩ := hr27_
  unfold maxLen at hr27_m
  refine bS [0, 0] 2 2 [(2, .slice A n cap), (7, .pointer (pB b2)), (8, .pointer (pB b3)), (10, iq (n6 : Int)), (11, .slice (pB r22) n6 n6), (12, .slice (pB r23) n6 n6), (13, iq (i : Int)), (51, .slice (pB r22) n6 n6), (52, iq (i : Int))] ?_
  refine pl_step 3 1 rfl rfl ?_
  refine sem_step 53 (Instr.indexAt 61 (.slice (pB r22) n6 n6) (iq (i : Int))) (.pointer (some ⟨r22, i, none⟩)) (by kernel_rfl) (fun w hT => run_indexAt (e := 4) (sz := 1) _ (by kernel_rfl) (by kernel_rfl) (by omega) (by omega) (by omega) w) ?_
  refine pl_step 4 0 rfl rfl ?_
  refine sem_stepU (Instr.storeAt 4 (.pointer (some ⟨r22, i, none⟩)) (.bool true)) (fun _ => [.gen (rowE (pB r23) r23 n6 n6 4 1 (bvals bF) true), .gen (rowE (pB r22) r22 n6 n6 4 1 (bvals (bB.set i true)) true), .cells b3 [.pointer (pB m4), .pointer (pB m17), .slice A10 k12 cp13, .slice B14 kB16 cB17, iq 0, iq 0, iq 0, iq 0] 98 true, .cells m4 [iq W1q, iq H1q, .slice (pB r5) n6 n6] 115 true, .gen (rowE (pB r5) r5 n6 n6 54 1 (ivals .u32 (List.replicate n6 0)) true), .cells m17 [iq W1q, iq H1q, .slice (pB r18) n19 n19] 115 true, .gen (rowE (pB r18) r18 n19 n19 54 1 (ivals .u32 (List.replicate n19 0)) true), .gen (rowE (A10) g11 k12 cp13 28 4 (rvals (canR [(⟨0, 0, W1q, H1q⟩ : Rect)])) true), .gen (rowE (B14) gB15 kB16 cB17 28 4 (rvals (canR [(⟨0, 0, W1q, H1q⟩ : Rect)])) true), .cells b2 [iq 0, iq 0, iq W1q, iq H1q] 28 true, .gen (rdE (A) g o n 7 (dvals Deed18.cells xs)), .gen (subE n (fun i_ => rdE ((dget xs i_).A1) (dget xs i_).g1 (dget xs i_).o1 (dget xs i_).m1 4 (rvals (dget xs i_).x1)))]) (fun _ => True) (by kernel_rfl) (fun w hT => store_rowB (xs := bB) hT (i := 1) rfl (by kernel_rfl) (by omega)) (fun _ _ => ?_)
  refine cont_done ?_
  refine then_normal ?_
  refine cont_region 4 rfl ?_
  refine bS [0, 0] 2 2 [(2, .slice A n cap), (7, .pointer (pB b2)), (8, .pointer (pB b3)), (10, iq (n6 : Int)), (11, .slice (pB r22) n6 n6), (12, .slice (pB r23) n6 n6), (13, iq (i : Int)), (54, .slice (pB r23) n6 n6), (55, iq (i : Int))] ?_
  refine pl_step 3 1 rfl rfl ?_
  refine sem_step 56 (Instr.indexAt 61 (.slice (pB r23) n6 n6) (iq (i : Int))) (.pointer (some ⟨r23, i, none⟩)) (by kernel_rfl) (fun w hT => run_indexAt (e := 4) (sz := 1) _ (by kernel_rfl) (by kernel_rfl) (by omega) (by omega) (by omega) w) ?_
  refine pl_step 4 0 rfl rfl ?_
  refine sem_stepU (Instr.storeAt 4 (.pointer (some ⟨r23, i, none⟩)) (.bool true)) (fun _ => [.gen (rowE (pB r23) r23 n6 n6 4 1 (bvals (bF.set i true)) true), .gen (rowE (pB r22) r22 n6 n6 4 1 (bvals (bB.set i true)) true), .cells b3 [.pointer (pB m4), .pointer (pB m17), .slice A10 k12 cp13, .slice B14 kB16 cB17, iq 0, iq 0, iq 0, iq 0] 98 true, .cells m4 [iq W1q, iq H1q, .slice (pB r5) n6 n6] 115 true, .gen (rowE (pB r5) r5 n6 n6 54 1 (ivals .u32 (List.replicate n6 0)) true), .cells m17 [iq W1q, iq H1q, .slice (pB r18) n19 n19] 115 true, .gen (rowE (pB r18) r18 n19 n19 54 1 (ivals .u32 (List.replicate n19 0)) true), .gen (rowE (A10) g11 k12 cp13 28 4 (rvals (canR [(⟨0, 0, W1q, H1q⟩ : Rect)])) true), .gen (rowE (B14) gB15 kB16 cB17 28 4 (rvals (canR [(⟨0, 0, W1q, H1q⟩ : Rect)])) true), .cells b2 [iq 0, iq 0, iq W1q, iq H1q] 28 true, .gen (rdE (A) g o n 7 (dvals Deed18.cells xs)), .gen (subE n (fun i_ => rdE ((dget xs i_).A1) (dget xs i_).g1 (dget xs i_).o1 (dget xs i_).m1 4 (rvals (dget xs i_).x1)))]) (fun _ => True) (by kernel_rfl) (fun w hT => store_rowB (xs := bF) hT (i := 0) rfl (by kernel_rfl) (by omega)) (fun _ _ => ?_)
  refine cont_done ?_
  refine blk_normal ?_
  refine then_normal ?_
  refine cont_region 3 rfl ?_
  refine bS [0, 0] 2 1 [(2, .slice A n cap), (7, .pointer (pB b2)), (8, .pointer (pB b3)), (10, iq (n6 : Int)), (11, .slice (pB r22) n6 n6), (12, .slice (pB r23) n6 n6), (50, iq (IntKind.i64.wrap ((i : Int) + 1)))] ?_
  refine cont_recast 50 (iq (IntKind.i64.wrap ((i : Int) + 1))) (iq ((i : Int) + 1)) rfl (wrapI (by omega) (by omega)) ?_
  refine bS [0] 3 0 [(2, .slice A n cap), (7, .pointer (pB b2)), (8, .pointer (pB b3)), (10, iq (n6 : Int)), (11, .slice (pB r22) n6 n6), (12, .slice (pB r23) n6 n6), (13, iq ((i : Int) + 1))] ?_
  refine cont_done ?_
  refine then_normal ?_
  refine cont_again (i + 1, bB.set i true, bF.set i true) (show (i + 1) ≤ n6 from (by omega)) (show n6 - (i + 1) < n6 - i from by omega) (by kernel_rfl) (by kernel_rfl)
 replace c25_ := of_decide_eq_false c25_
 refine cont_false rfl ?_
 refine cont_exit ?_
 refine then_exit ?_
 refine then_exit ?_
 refine blk_exit ?_
 refine then_normal ?_
 refine cont_seq ?_
 refine cont_seq ?_
 refine cont_region 1 rfl ?_
 refine bS [0] 1 0 [(2, .slice A n cap), (7, .pointer (pB b2)), (8, .pointer (pB b3)), (10, iq (n6 : Int)), (11, .slice (pB r22) n6 n6), (12, .slice (pB r23) n6 n6), (14, iq 0)] ?_
 refine cont_done ?_
 refine then_normal ?_
 refine cont_block ?_
 refine cont_fact (F := (0 < n6 → (pB r22 : Option Addr) = pB r22) ∧ bB.length = n6 ∧ n6 ≤ n6 ∧ n6 ≤ maxLen) (fun w hT => Row.factsB (hT.ok 1 _ rfl)) (fun hr28_ => ?_)
 obtain ⟨hr28_a, hr28_l, hr28_c, hr28_m⟩ := hr28_
 unfold maxLen at hr28_m
 refine cont_fact (F := (0 < n6 → (pB r23 : Option Addr) = pB r23) ∧ bF.length = n6 ∧ n6 ≤ n6 ∧ n6 ≤ maxLen) (fun w hT => Row.factsB (hT.ok 0 _ rfl)) (fun hr29_ => ?_)
 obtain ⟨hr29_a, hr29_l, hr29_c, hr29_m⟩ := hr29_
 unfold maxLen at hr29_m
 have hbx : emptyR (⟨0, 0, W1q, H1q⟩ : Rect) = false := emptyB_false.2 ⟨by simp only; omega, by simp only; omega⟩
 have hc1_ := congrArg List.length (can_one hbx)
 have hl1_ : ([(⟨0, 0, W1q, H1q⟩ : Rect)]).length = 1 := rfl
 refine cont_fact (F := (0 < k12 → (A10 : Option Addr) = pB g11) ∧ (canR [(⟨0, 0, W1q, H1q⟩ : Rect)]).length = k12 ∧ k12 ≤ cp13 ∧ cp13 ≤ maxLen) (fun w hT => Row.factsR (hT.ok 7 _ rfl)) (fun hr30_ => ?_)
 obtain ⟨hr30_a, hr30_l, hr30_c, hr30_m⟩ := hr30_
 unfold maxLen at hr30_m
 refine cont_fact (F := (0 < kB16 → (B14 : Option Addr) = pB gB15) ∧ (canR [(⟨0, 0, W1q, H1q⟩ : Rect)]).length = kB16 ∧ kB16 ≤ cB17 ∧ cB17 ≤ maxLen) (fun w hT => Row.factsR (hT.ok 8 _ rfl)) (fun hr31_ => ?_)
 obtain ⟨hr31_a, hr31_l, hr31_c, hr31_m⟩ := hr31_
 unfold maxLen at hr31_m
 refine cont_loop (α := Nat × Nat × Int × Int × Int × List Rect × Option Addr × Nat × Nat × Nat × List Rect × Option Addr × Nat × Nat × Nat × List Bool × List Bool) (fun x_ : Nat × Nat × Int × Int × Int × List Rect × Option Addr × Nat × Nat × Nat × List Rect × Option Addr × Nat × Nat × Nat × List Bool × List Bool => x_.1 ≤ 25 ∧ x_.1 ≤ n ∧ x_.2.1 ≤ 1 ∧ 0 ≤ x_.2.2.2.2.1 ∧ x_.2.2.2.2.1 ≤ (x_.1 : Int) ∧ 0 ≤ x_.2.2.1 ∧ x_.2.2.1 ≤ x_.2.2.2.2.1 ∧ 0 ≤ x_.2.2.2.1 ∧ x_.2.2.2.1 ≤ x_.2.2.2.2.1 ∧ x_.2.2.2.2.2.2.2.2.1 ≤ 64 ∧ x_.2.2.2.2.2.2.2.2.2.2.2.2.2.1 ≤ 64 ∧ Cov W1q x_.2.2.2.2.2.2.2.2.2.2.2.2.2.2.2.1 (if x_.2.1 = 0 then x_.2.2.2.2.2.1 else x_.2.2.2.2.2.2.2.2.2.2.1) ∧ Cov W1q x_.2.2.2.2.2.2.2.2.2.2.2.2.2.2.2.2 (if x_.2.1 = 0 then x_.2.2.2.2.2.2.2.2.2.2.1 else x_.2.2.2.2.2.1)) (fun x_ : Nat × Nat × Int × Int × Int × List Rect × Option Addr × Nat × Nat × Nat × List Rect × Option Addr × Nat × Nat × Nat × List Bool × List Bool => [(2, .slice A n cap), (7, .pointer (pB b2)), (8, .pointer (pB b3)), (10, iq (n6 : Int)), (11, .slice (pB r22) n6 n6), (12, .slice (pB r23) n6 n6), (14, iq (x_.1 : Int))]) (fun x_ : Nat × Nat × Int × Int × Int × List Rect × Option Addr × Nat × Nat × Nat × List Rect × Option Addr × Nat × Nat × Nat × List Bool × List Bool => [.gen (rowE (pB r23) r23 n6 n6 4 1 (bvals x_.2.2.2.2.2.2.2.2.2.2.2.2.2.2.2.2) true), .gen (rowE (pB r22) r22 n6 n6 4 1 (bvals x_.2.2.2.2.2.2.2.2.2.2.2.2.2.2.2.1) true), .cells b3 [.pointer (pB m4), .pointer (pB m17), .slice x_.2.2.2.2.2.2.1 x_.2.2.2.2.2.2.2.2.1 x_.2.2.2.2.2.2.2.2.2.1, .slice x_.2.2.2.2.2.2.2.2.2.2.2.1 x_.2.2.2.2.2.2.2.2.2.2.2.2.2.1 x_.2.2.2.2.2.2.2.2.2.2.2.2.2.2.1, iq x_.2.2.1, iq x_.2.2.2.1, iq x_.2.2.2.2.1, iq (x_.2.1 : Int)] 98 true, .cells m4 [iq W1q, iq H1q, .slice (pB r5) n6 n6] 115 true, .gen (rowE (pB r5) r5 n6 n6 54 1 (ivals .u32 (List.replicate n6 0)) true), .cells m17 [iq W1q, iq H1q, .slice (pB r18) n19 n19] 115 true, .gen (rowE (pB r18) r18 n19 n19 54 1 (ivals .u32 (List.replicate n19 0)) true), .gen (rowE (x_.2.2.2.2.2.2.1) x_.2.2.2.2.2.2.2.1 x_.2.2.2.2.2.2.2.2.1 x_.2.2.2.2.2.2.2.2.2.1 28 4 (rvals x_.2.2.2.2.2.1) true), .gen (rowE (x_.2.2.2.2.2.2.2.2.2.2.2.1) x_.2.2.2.2.2.2.2.2.2.2.2.2.1 x_.2.2.2.2.2.2.2.2.2.2.2.2.2.1 x_.2.2.2.2.2.2.2.2.2.2.2.2.2.2.1 28 4 (rvals x_.2.2.2.2.2.2.2.2.2.2.1) true), .cells b2 [iq 0, iq 0, iq W1q, iq H1q] 28 true, .gen (rdE (A) g o n 7 (dvals Deed18.cells xs)), .gen (subE n (fun i_ => rdE ((dget xs i_).A1) (dget xs i_).g1 (dget xs i_).o1 (dget xs i_).m1 4 (rvals (dget xs i_).x1)))]) (fun x_ : Nat × Nat × Int × Int × Int × List Rect × Option Addr × Nat × Nat × Nat × List Rect × Option Addr × Nat × Nat × Nat × List Bool × List Bool => 40 - x_.1) (0, 0, 0, 0, 0, canR [(⟨0, 0, W1q, H1q⟩ : Rect)], A10, g11, k12, cp13, canR [(⟨0, 0, W1q, H1q⟩ : Rect)], B14, gB15, kB16, cB17, bB, bF) (show (0) ≤ 25 ∧ (0) ≤ n ∧ (0) ≤ 1 ∧ 0 ≤ (0) ∧ (0) ≤ ((0) : Int) ∧ 0 ≤ (0) ∧ (0) ≤ (0) ∧ 0 ≤ (0) ∧ (0) ≤ (0) ∧ (k12) ≤ 64 ∧ (kB16) ≤ 64 ∧ Cov W1q (bB) (if (0) = 0 then (canR [(⟨0, 0, W1q, H1q⟩ : Rect)]) else (canR [(⟨0, 0, W1q, H1q⟩ : Rect)])) ∧ Cov W1q (bF) (if (0) = 0 then (canR [(⟨0, 0, W1q, H1q⟩ : Rect)]) else (canR [(⟨0, 0, W1q, H1q⟩ : Rect)])) from ⟨by omega, by omega, by omega, by omega, by omega, by omega, by omega, by omega, by omega, by omega, by omega, Cov.box (by omega) hn_ (by omega), Cov.box (by omega) hn_ (by omega)⟩) (by kernel_rfl) (by kernel_rfl) ?_
 rintro ⟨i, bk, w0, w1, fr, xs0, Ax, gx, kx, cx, xs1, Ay, gy, ky, cy, bB, bF⟩ hinv32_
 replace hinv32_ : i ≤ 25 ∧ i ≤ n ∧ bk ≤ 1 ∧ 0 ≤ fr ∧ fr ≤ (i : Int) ∧ 0 ≤ w0 ∧ w0 ≤ fr ∧ 0 ≤ w1 ∧ w1 ≤ fr ∧ kx ≤ 64 ∧ ky ≤ 64 ∧ Cov W1q bB (if bk = 0 then xs0 else xs1) ∧ Cov W1q bF (if bk = 0 then xs1 else xs0) := hinv32_
 refine cont_norm [(2, .slice A n cap), (7, .pointer (pB b2)), (8, .pointer (pB b3)), (10, iq (n6 : Int)), (11, .slice (pB r22) n6 n6), (12, .slice (pB r23) n6 n6), (14, iq (i : Int))] _ (by kernel_rfl) rfl ?_
 obtain ⟨hi1, hi2, hbk, hf0, hf1, hw0, hw1, hw2, hw3, hkx, hky, hcb, hcf⟩ := hinv32_
 rcases (show bk = 0 ∨ bk = 1 by omega) with rfl | rfl
 ·
  refine cont_norm [(2, .slice A n cap), (7, .pointer (pB b2)), (8, .pointer (pB b3)), (10, iq (n6 : Int)), (11, .slice (pB r22) n6 n6), (12, .slice (pB r23) n6 n6), (14, iq (i : Int))] _ (by kernel_rfl) rfl ?_
  replace hcb : Cov W1q bB xs0 := hcb
  replace hcf : Cov W1q bF xs1 := hcf
  refine cont_fact (F := (0 < kx → (Ax : Option Addr) = pB gx) ∧ xs0.length = kx ∧ kx ≤ cx ∧ cx ≤ maxLen) (fun w hT => Row.factsR (hT.ok 7 _ rfl)) (fun hr33_ => ?_)
  obtain ⟨hr33_a, hr33_l, hr33_c, hr33_m⟩ := hr33_
  unfold maxLen at hr33_m
  refine cont_fact (F := (0 < ky → (Ay : Option Addr) = pB gy) ∧ xs1.length = ky ∧ ky ≤ cy ∧ cy ≤ maxLen) (fun w hT => Row.factsR (hT.ok 8 _ rfl)) (fun hr34_ => ?_)
  obtain ⟨hr34_a, hr34_l, hr34_c, hr34_m⟩ := hr34_
  unfold maxLen at hr34_m
  refine cont_fact (F := (0 < n6 → (pB r22 : Option Addr) = pB r22) ∧ bB.length = n6 ∧ n6 ≤ n6 ∧ n6 ≤ maxLen) (fun w hT => Row.factsB (hT.ok 1 _ rfl)) (fun hr35_ => ?_)
  obtain ⟨hr35_a, hr35_l, hr35_c, hr35_m⟩ := hr35_
  unfold maxLen at hr35_m
  refine cont_fact (F := (0 < n6 → (pB r23 : Option Addr) = pB r23) ∧ bF.length = n6 ∧ n6 ≤ n6 ∧ n6 ≤ maxLen) (fun w hT => Row.factsB (hT.ok 0 _ rfl)) (fun hr36_ => ?_)
  obtain ⟨hr36_a, hr36_l, hr36_c, hr36_m⟩ := hr36_
  unfold maxLen at hr36_m
  refine cont_seq ?_
  refine cont_seq ?_
  refine cont_region 8 rfl ?_
  refine bS [0, 0, 0, 0, 0] 5 3 [(2, .slice A n cap), (7, .pointer (pB b2)), (8, .pointer (pB b3)), (10, iq (n6 : Int)), (11, .slice (pB r22) n6 n6), (12, .slice (pB r23) n6 n6), (14, iq (i : Int)), (61, .bool (decide ((i : Int) < (n : Int))))] ?_
  refine cont_split 61 (decide ((i : Int) < (n : Int))) rfl (fun c37_ => ?_) (fun c37_ => ?_)
  ·
   replace c37_ := of_decide_eq_true c37_
   refine bS [0, 0, 0] 8 0 [(2, .slice A n cap), (7, .pointer (pB b2)), (8, .pointer (pB b3)), (10, iq (n6 : Int)), (11, .slice (pB r22) n6 n6), (12, .slice (pB r23) n6 n6), (14, iq (i : Int)), (62, iq (i : Int)), (63, .bool (decide ((i : Int) < 25))), (64, .bool (decide ((i : Int) < 25)))] ?_
   refine cont_done ?_
   refine then_normal ?_
   refine cont_split 64 (decide ((i : Int) < 25)) rfl (fun c38_ => ?_) (fun c38_ => ?_)
   ·
    refine cont_recast 63 (.bool (decide ((i : Int) < 25))) (.bool true) rfl (congrArg Value.bool c38_) ?_
    replace c38_ := of_decide_eq_true c38_
    refine cont_true rfl ?_
    refine cont_skip ?_
    refine then_normal ?_
    refine cont_seq ?_
    refine cont_block ?_
    refine cont_seq ?_
    refine cont_seq ?_
    refine cont_region 6 rfl ?_
    refine cont_sub 11 i n (fun i_ => rdE ((dget xs i_).A1) (dget xs i_).g1 (dget xs i_).o1 (dget xs i_).m1 4 (rvals (dget xs i_).x1)) rfl (by omega) rfl rfl ?_
    refine cont_norm [(2, .slice A n cap), (7, .pointer (pB b2)), (8, .pointer (pB b3)), (10, iq (n6 : Int)), (11, .slice (pB r22) n6 n6), (12, .slice (pB r23) n6 n6), (14, iq (i : Int)), (62, iq (i : Int)), (63, .bool true), (64, .bool true)] _ (by kernel_rfl) rfl ?_
    generalize hel : dget xs i = el
    have helg := hge i (by omega)
    rw [hel] at helg
    refine bS [0, 0] 2 4 [(2, .slice A n cap), (7, .pointer (pB b2)), (8, .pointer (pB b3)), (10, iq (n6 : Int)), (11, .slice (pB r22) n6 n6), (12, .slice (pB r23) n6 n6), (14, iq (i : Int)), (62, iq (i : Int)), (63, .bool true), (67, .slice A n cap), (68, iq (i : Int))] ?_
    refine pl_step 3 3 rfl rfl ?_
    refine cont_recast 67 (.slice A n cap) (.slice (some ⟨g, o, none⟩) n cap) rfl (by rw [hra (by omega)]) ?_
    refine sem_step 69 (Instr.indexAt 59 (.slice (some ⟨g, o, none⟩) n cap) (iq (i : Int))) (.pointer (some ⟨g, o + i * 7, none⟩)) (by kernel_rfl) (fun w hT => run_indexAt (e := 64) (sz := 7) _ (by kernel_rfl) (by kernel_rfl) (by omega) (by omega) (by omega) w) ?_
    refine bS [0] 4 2 [(2, .slice A n cap), (7, .pointer (pB b2)), (8, .pointer (pB b3)), (10, iq (n6 : Int)), (11, .slice (pB r22) n6 n6), (12, .slice (pB r23) n6 n6), (14, iq (i : Int)), (62, iq (i : Int)), (63, .bool true), (70, .pointer (some ⟨g, o + i * 7, none⟩))] ?_
    refine pl_step 5 1 rfl rfl ?_
    refine sem_step 71 (Instr.loadAt 3 (.pointer (some ⟨g, o + i * 7, none⟩))) (iq el.x0) (by kernel_rfl) (fun w hT => run_load1 (by kernel_rfl) (Rd.dcell1 Deed18.size (hT.ok 11 _ rfl) (i := i) (by omega) 0 (by rw [hel]; rfl))) ?_
    refine bS [0] 6 0 [(2, .slice A n cap), (7, .pointer (pB b2)), (8, .pointer (pB b3)), (10, iq (n6 : Int)), (11, .slice (pB r22) n6 n6), (12, .slice (pB r23) n6 n6), (14, iq (i : Int)), (62, iq (i : Int)), (63, .bool true), (72, .bool (el.x0 == 2))] ?_
    refine cont_done ?_
    refine then_normal ?_
    refine cont_split 72 (el.x0 == 2) rfl (fun c39_ => ?_) (fun c39_ => ?_)
    ·
     replace c39_ := eq_of_beqt c39_
     refine cont_true rfl ?_
     refine cont_seq ?_
     refine cont_region 2 rfl ?_
     refine bS [0] 1 1 [(2, .slice A n cap), (7, .pointer (pB b2)), (8, .pointer (pB b3)), (10, iq (n6 : Int)), (11, .slice (pB r22) n6 n6), (12, .slice (pB r23) n6 n6), (14, iq (i : Int)), (62, iq (i : Int)), (63, .bool true), (73, .pointer (pB b3))] ?_
     refine pl_step 2 0 rfl rfl ?_
     refine call_gen (d := 74) (α := Unit) (fun _ => iq (fr + 1)) (fun _ => [.gen (rdE (el.A1) el.g1 el.o1 el.m1 4 (rvals el.x1)), .gen (rowE (pB r23) r23 n6 n6 4 1 (bvals bF) true), .gen (rowE (pB r22) r22 n6 n6 4 1 (bvals bB) true), .cells b3 [.pointer (pB m4), .pointer (pB m17), .slice none 0 0, .slice Ay ky cy, iq (fr + 1), iq w1, iq (fr + 1), iq 1] 98 true, .cells m4 [iq W1q, iq H1q, .slice (pB r5) n6 n6] 115 true, .gen (rowE (pB r5) r5 n6 n6 54 1 (ivals .u32 (List.replicate n6 0)) true), .cells m17 [iq W1q, iq H1q, .slice (pB r18) n19 n19] 115 true, .gen (rowE (pB r18) r18 n19 n19 54 1 (ivals .u32 (List.replicate n19 0)) true), .gen (rowE (Ax) gx kx cx 28 4 (rvals xs0) true), .gen (rowE (Ay) gy ky cy 28 4 (rvals xs1) true), .cells b2 [iq 0, iq 0, iq W1q, iq H1q] 28 true, .gen (rdE (A) g o n 7 (dvals Deed18.cells xs)), .gen (subE n (fun i_ => rdE ((dget xs i_).A1) (dget xs i_).g1 (dget xs i_).o1 (dget xs i_).m1 4 (rvals (dget xs i_).x1)))]) (fun _ => True) (by kernel_rfl) (fun w hT => (outFlip0 b3 m4 m17 Ax Ay kx cx ky cy w0 w1 fr w (hT.view (.cons (i := 3) rfl Vw.rw .nil) (by decide)) (by omega)).mono fun e w' ⟨he_, ht_⟩ => ⟨(), he_, trivial, hT.merge (N := []) (s := [3]) ht_ (.cons (i := 3) rfl Mg.cells .nil) (by decide) (fun i e h => by simp at h)⟩) (fun _ _ => ?_)
     refine cont_done ?_
     refine then_normal ?_
     refine cont_seq ?_
     refine cont_seq ?_
     refine cont_region 1 rfl ?_
     refine bS [0] 1 0 [(2, .slice A n cap), (7, .pointer (pB b2)), (8, .pointer (pB b3)), (10, iq (n6 : Int)), (11, .slice (pB r22) n6 n6), (12, .slice (pB r23) n6 n6), (14, iq (i : Int)), (15, iq 0), (62, iq (i : Int)), (63, .bool true)] ?_
     refine cont_forget 8 rfl ?_
     refine cont_done ?_
     refine then_normal ?_
     refine cont_block ?_
     refine cont_loop (α := Nat × List Bool × List Bool) (fun x_ : Nat × List Bool × List Bool => x_.1 ≤ n6 ∧ FlI W1q xs1 x_.1 x_.2.1 x_.2.2) (fun x_ : Nat × List Bool × List Bool => [(2, .slice A n cap), (7, .pointer (pB b2)), (8, .pointer (pB b3)), (10, iq (n6 : Int)), (11, .slice (pB r22) n6 n6), (12, .slice (pB r23) n6 n6), (14, iq (i : Int)), (15, iq ((x_.1 : Nat) : Int)), (62, iq (i : Int)), (63, .bool true)]) (fun x_ : Nat × List Bool × List Bool => [.gen (rdE (el.A1) el.g1 el.o1 el.m1 4 (rvals el.x1)), .gen (rowE (pB r23) r23 n6 n6 4 1 (bvals x_.2.2) true), .gen (rowE (pB r22) r22 n6 n6 4 1 (bvals x_.2.1) true), .cells b3 [.pointer (pB m4), .pointer (pB m17), .slice none 0 0, .slice Ay ky cy, iq (fr + 1), iq w1, iq (fr + 1), iq 1] 98 true, .cells m4 [iq W1q, iq H1q, .slice (pB r5) n6 n6] 115 true, .gen (rowE (pB r5) r5 n6 n6 54 1 (ivals .u32 (List.replicate n6 0)) true), .cells m17 [iq W1q, iq H1q, .slice (pB r18) n19 n19] 115 true, .gen (rowE (pB r18) r18 n19 n19 54 1 (ivals .u32 (List.replicate n19 0)) true), .gen (rowE (Ay) gy ky cy 28 4 (rvals xs1) true), .cells b2 [iq 0, iq 0, iq W1q, iq H1q] 28 true, .gen (rdE (A) g o n 7 (dvals Deed18.cells xs)), .gen (subE n (fun i_ => rdE ((dget xs i_).A1) (dget xs i_).g1 (dget xs i_).o1 (dget xs i_).m1 4 (rvals (dget xs i_).x1)))]) (fun x_ : Nat × List Bool × List Bool => n6 - x_.1) (0, bB, bF) (show (0) ≤ n6 ∧ FlI W1q xs1 (0) (bB) (bF) from ⟨by omega, FlI.nil hcf⟩) (by kernel_rfl) (by kernel_rfl) ?_
     rintro ⟨k, bB2, bF2⟩ hinv40_
     replace hinv40_ : k ≤ n6 ∧ FlI W1q xs1 k bB2 bF2 := hinv40_
     refine cont_norm [(2, .slice A n cap), (7, .pointer (pB b2)), (8, .pointer (pB b3)), (10, iq (n6 : Int)), (11, .slice (pB r22) n6 n6), (12, .slice (pB r23) n6 n6), (14, iq (i : Int)), (15, iq ((k : Nat) : Int)), (62, iq (i : Int)), (63, .bool true)] _ (by kernel_rfl) rfl ?_
     obtain ⟨hk, hfl⟩ := hinv40_
     refine cont_seq ?_
     refine cont_seq ?_
     refine cont_region 3 rfl ?_
     refine bS [0, 0, 0] 3 0 [(2, .slice A n cap), (7, .pointer (pB b2)), (8, .pointer (pB b3)), (10, iq (n6 : Int)), (11, .slice (pB r22) n6 n6), (12, .slice (pB r23) n6 n6), (14, iq (i : Int)), (15, iq ((k : Nat) : Int)), (62, iq (i : Int)), (63, .bool true), (77, .bool (decide (((k : Nat) : Int) < (n6 : Int))))] ?_
     refine cont_done ?_
     refine then_normal ?_
     refine cont_split 77 (decide (((k : Nat) : Int) < (n6 : Int))) rfl (fun c41_ => ?_) (fun c41_ => ?_)
     ·
      replace c41_ := of_decide_eq_true c41_
      refine cont_true rfl ?_
      refine cont_skip ?_
      refine then_normal ?_
      refine cont_seq ?_
      refine cont_block ?_
      refine cont_seq ?_
      refine cont_region 8 rfl ?_
      refine cont_fact (F := (0 < n6 → (pB r22 : Option Addr) = pB r22) ∧ bB2.length = n6 ∧ n6 ≤ n6 ∧ n6 ≤ maxLen) (fun w hT => Row.factsB (hT.ok 2 _ rfl)) (fun hr42_ => ?_)
      obtain ⟨hr42_a, hr42_l, hr42_c, hr42_m⟩ := hr42_
      unfold maxLen at hr42_m
      refine cont_fact (F := (0 < n6 → (pB r23 : Option Addr) = pB r23) ∧ bF2.length = n6 ∧ n6 ≤ n6 ∧ n6 ≤ maxLen) (fun w hT => Row.factsB (hT.ok 1 _ rfl)) (fun hr43_ => ?_)
      obtain ⟨hr43_a, hr43_l, hr43_c, hr43_m⟩ := hr43_
      unfold maxLen at hr43_m
      refine bS [0, 0, 0, 0] 4 4 [(2, .slice A n cap), (7, .pointer (pB b2)), (8, .pointer (pB b3)), (10, iq (n6 : Int)), (11, .slice (pB r22) n6 n6), (12, .slice (pB r23) n6 n6), (14, iq (i : Int)), (15, iq ((k : Nat) : Int)), (62, iq (i : Int)), (63, .bool true), (80, .slice (pB r22) n6 n6), (81, iq ((k : Nat) : Int)), (82, .slice (pB r23) n6 n6), (83, iq ((k : Nat) : Int))] ?_
      refine pl_step 5 3 rfl rfl ?_
      refine sem_step 84 (Instr.indexAt 61 (.slice (pB r23) n6 n6) (iq ((k : Nat) : Int))) (.pointer (some ⟨r23, (k : Nat), none⟩)) (by kernel_rfl) (fun w hT => run_indexAt (e := 4) (sz := 1) _ (by kernel_rfl) (by kernel_rfl) (by omega) (by omega) (by omega) w) ?_
      refine pl_step 6 2 rfl rfl ?_
      refine sem_step 85 (Instr.loadAt 4 (.pointer (some ⟨r23, (k : Nat), none⟩))) (.bool (bF2.getD (k : Nat) false)) (by kernel_rfl) (fun w hT => run_load1 (by kernel_rfl) (Row.cell (hT.ok 1 _ rfl) ((k : Nat)) _ (bvals_get (xs := bF2) (by omega)))) ?_
      refine pl_step 7 1 rfl rfl ?_
      refine sem_step 86 (Instr.indexAt 61 (.slice (pB r22) n6 n6) (iq ((k : Nat) : Int))) (.pointer (some ⟨r22, (k : Nat), none⟩)) (by kernel_rfl) (fun w hT => run_indexAt (e := 4) (sz := 1) _ (by kernel_rfl) (by kernel_rfl) (by omega) (by omega) (by omega) w) ?_
      refine pl_step 8 0 rfl rfl ?_
      refine sem_stepU (Instr.storeAt 4 (.pointer (some ⟨r22, (k : Nat), none⟩)) (.bool (bF2.getD (k : Nat) false))) (fun _ => [.gen (rdE (el.A1) el.g1 el.o1 el.m1 4 (rvals el.x1)), .gen (rowE (pB r23) r23 n6 n6 4 1 (bvals bF2) true), .gen (rowE (pB r22) r22 n6 n6 4 1 (bvals (bB2.set (k : Nat) (bF2.getD (k : Nat) false))) true), .cells b3 [.pointer (pB m4), .pointer (pB m17), .slice none 0 0, .slice Ay ky cy, iq (fr + 1), iq w1, iq (fr + 1), iq 1] 98 true, .cells m4 [iq W1q, iq H1q, .slice (pB r5) n6 n6] 115 true, .gen (rowE (pB r5) r5 n6 n6 54 1 (ivals .u32 (List.replicate n6 0)) true), .cells m17 [iq W1q, iq H1q, .slice (pB r18) n19 n19] 115 true, .gen (rowE (pB r18) r18 n19 n19 54 1 (ivals .u32 (List.replicate n19 0)) true), .gen (rowE (Ay) gy ky cy 28 4 (rvals xs1) true), .cells b2 [iq 0, iq 0, iq W1q, iq H1q] 28 true, .gen (rdE (A) g o n 7 (dvals Deed18.cells xs)), .gen (subE n (fun i_ => rdE ((dget xs i_).A1) (dget xs i_).g1 (dget xs i_).o1 (dget xs i_).m1 4 (rvals (dget xs i_).x1)))]) (fun _ => True) (by kernel_rfl) (fun w hT => store_rowB (xs := bB2) hT (i := 2) rfl (by kernel_rfl) (by omega)) (fun _ _ => ?_)
      refine cont_done ?_
      refine then_normal ?_
      refine cont_region 4 rfl ?_
      refine bS [0, 0] 2 2 [(2, .slice A n cap), (7, .pointer (pB b2)), (8, .pointer (pB b3)), (10, iq (n6 : Int)), (11, .slice (pB r22) n6 n6), (12, .slice (pB r23) n6 n6), (14, iq (i : Int)), (15, iq ((k : Nat) : Int)), (62, iq (i : Int)), (63, .bool true), (87, .slice (pB r23) n6 n6), (88, iq ((k : Nat) : Int))] ?_
      refine pl_step 3 1 rfl rfl ?_
      refine sem_step 89 (Instr.indexAt 61 (.slice (pB r23) n6 n6) (iq ((k : Nat) : Int))) (.pointer (some ⟨r23, (k : Nat), none⟩)) (by kernel_rfl) (fun w hT => run_indexAt (e := 4) (sz := 1) _ (by kernel_rfl) (by kernel_rfl) (by omega) (by omega) (by omega) w) ?_
      refine pl_step 4 0 rfl rfl ?_
      refine sem_stepU (Instr.storeAt 4 (.pointer (some ⟨r23, (k : Nat), none⟩)) (.bool false)) (fun _ => [.gen (rdE (el.A1) el.g1 el.o1 el.m1 4 (rvals el.x1)), .gen (rowE (pB r23) r23 n6 n6 4 1 (bvals (bF2.set (k : Nat) false)) true), .gen (rowE (pB r22) r22 n6 n6 4 1 (bvals (bB2.set (k : Nat) (bF2.getD (k : Nat) false))) true), .cells b3 [.pointer (pB m4), .pointer (pB m17), .slice none 0 0, .slice Ay ky cy, iq (fr + 1), iq w1, iq (fr + 1), iq 1] 98 true, .cells m4 [iq W1q, iq H1q, .slice (pB r5) n6 n6] 115 true, .gen (rowE (pB r5) r5 n6 n6 54 1 (ivals .u32 (List.replicate n6 0)) true), .cells m17 [iq W1q, iq H1q, .slice (pB r18) n19 n19] 115 true, .gen (rowE (pB r18) r18 n19 n19 54 1 (ivals .u32 (List.replicate n19 0)) true), .gen (rowE (Ay) gy ky cy 28 4 (rvals xs1) true), .cells b2 [iq 0, iq 0, iq W1q, iq H1q] 28 true, .gen (rdE (A) g o n 7 (dvals Deed18.cells xs)), .gen (subE n (fun i_ => rdE ((dget xs i_).A1) (dget xs i_).g1 (dget xs i_).o1 (dget xs i_).m1 4 (rvals (dget xs i_).x1)))]) (fun _ => True) (by kernel_rfl) (fun w hT => store_rowB (xs := bF2) hT (i := 1) rfl (by kernel_rfl) (by omega)) (fun _ _ => ?_)
      refine cont_done ?_
      refine blk_normal ?_
      refine then_normal ?_
      refine cont_region 3 rfl ?_
      refine bS [0, 0] 2 1 [(2, .slice A n cap), (7, .pointer (pB b2)), (8, .pointer (pB b3)), (10, iq (n6 : Int)), (11, .slice (pB r22) n6 n6), (12, .slice (pB r23) n6 n6), (14, iq (i : Int)), (62, iq (i : Int)), (63, .bool true), (79, iq (IntKind.i64.wrap (((k : Nat) : Int) + 1)))] ?_
      refine cont_recast 79 (iq (IntKind.i64.wrap (((k : Nat) : Int) + 1))) (iq (((k : Nat) : Int) + 1)) rfl (wrapI (by omega) (by omega)) ?_
      refine bS [0] 3 0 [(2, .slice A n cap), (7, .pointer (pB b2)), (8, .pointer (pB b3)), (10, iq (n6 : Int)), (11, .slice (pB r22) n6 n6), (12, .slice (pB r23) n6 n6), (14, iq (i : Int)), (15, iq (((k : Nat) : Int) + 1)), (62, iq (i : Int)), (63, .bool true)] ?_
      refine cont_done ?_
      refine then_normal ?_
      refine cont_again (k + 1, bB2.set (k : Nat) (bF2.getD (k : Nat) false), bF2.set (k : Nat) false) (show (k + 1) ≤ n6 ∧ FlI W1q xs1 (k + 1) (bB2.set (k : Nat) (bF2.getD (k : Nat) false)) (bF2.set (k : Nat) false) from ⟨by omega, hfl.step⟩) (show n6 - (k + 1) < n6 - k from by omega) (by kernel_rfl) (by kernel_rfl)
     replace c41_ := of_decide_eq_false c41_
     refine cont_false rfl ?_
     refine cont_exit ?_
     refine then_exit ?_
     refine then_exit ?_
     refine blk_exit ?_
     refine then_normal ?_
     refine cont_exit ?_
     refine then_exit ?_
     refine blk_exit ?_
     refine then_normal ?_
     refine cont_region 3 rfl ?_
     refine bS [0, 0] 2 1 [(2, .slice A n cap), (7, .pointer (pB b2)), (8, .pointer (pB b3)), (10, iq (n6 : Int)), (11, .slice (pB r22) n6 n6), (12, .slice (pB r23) n6 n6), (62, iq (i : Int)), (63, .bool true), (66, iq (IntKind.i64.wrap ((i : Int) + 1)))] ?_
     refine cont_recast 66 (iq (IntKind.i64.wrap ((i : Int) + 1))) (iq ((i : Int) + 1)) rfl (wrapI (by omega) (by omega)) ?_
     refine bS [0] 3 0 [(2, .slice A n cap), (7, .pointer (pB b2)), (8, .pointer (pB b3)), (10, iq (n6 : Int)), (11, .slice (pB r22) n6 n6), (12, .slice (pB r23) n6 n6), (14, iq ((i : Int) + 1)), (62, iq (i : Int)), (63, .bool true)] ?_
     refine cont_done ?_
     refine then_normal ?_
     refine cont_fact (F := (0 < n6 → (pB r22 : Option Addr) = pB r22) ∧ bB2.length = n6 ∧ n6 ≤ n6 ∧ n6 ≤ maxLen) (fun w hT => Row.factsB (hT.ok 2 _ rfl)) (fun hr44_ => ?_)
     obtain ⟨hr44_a, hr44_l, hr44_c, hr44_m⟩ := hr44_
     unfold maxLen at hr44_m
     refine cont_fact (F := (0 < n6 → (pB r23 : Option Addr) = pB r23) ∧ bF2.length = n6 ∧ n6 ≤ n6 ∧ n6 ≤ maxLen) (fun w hT => Row.factsB (hT.ok 1 _ rfl)) (fun hr45_ => ?_)
     obtain ⟨hr45_a, hr45_l, hr45_c, hr45_m⟩ := hr45_
     unfold maxLen at hr45_m
     refine cont_nilrow 28 4 ?_
     refine cont_norm [(2, .slice A n cap), (7, .pointer (pB b2)), (8, .pointer (pB b3)), (10, iq (n6 : Int)), (11, .slice (pB r22) n6 n6), (12, .slice (pB r23) n6 n6), (14, iq ((i : Int) + 1)), (62, iq (i : Int)), (63, .bool true)] _ (by kernel_rfl) rfl ?_
     refine cont_pick [2, 3, 4, 5, 6, 7, 8, 0, 9, 10, 11, 12] [.gen (rowE (pB r23) r23 n6 n6 4 1 (bvals bF2) true), .gen (rowE (pB r22) r22 n6 n6 4 1 (bvals bB2) true), .cells b3 [.pointer (pB m4), .pointer (pB m17), .slice none 0 0, .slice Ay ky cy, iq (fr + 1), iq w1, iq (fr + 1), iq 1] 98 true, .cells m4 [iq W1q, iq H1q, .slice (pB r5) n6 n6] 115 true, .gen (rowE (pB r5) r5 n6 n6 54 1 (ivals .u32 (List.replicate n6 0)) true), .cells m17 [iq W1q, iq H1q, .slice (pB r18) n19 n19] 115 true, .gen (rowE (pB r18) r18 n19 n19 54 1 (ivals .u32 (List.replicate n19 0)) true), .gen (rowE (none) 0 0 0 28 4 (rvals []) true), .gen (rowE (Ay) gy ky cy 28 4 (rvals xs1) true), .cells b2 [iq 0, iq 0, iq W1q, iq H1q] 28 true, .gen (rdE (A) g o n 7 (dvals Deed18.cells xs)), .gen (subE n (fun i_ => rdE ((dget xs i_).A1) (dget xs i_).g1 (dget xs i_).o1 (dget xs i_).m1 4 (rvals (dget xs i_).x1)))] (by decide) rfl rfl ?_
     refine cont_norm [(2, .slice A n cap), (7, .pointer (pB b2)), (8, .pointer (pB b3)), (10, iq (n6 : Int)), (11, .slice (pB r22) n6 n6), (12, .slice (pB r23) n6 n6), (14, iq ((i : Int) + 1)), (62, iq (i : Int)), (63, .bool true)] _ (by kernel_rfl) rfl ?_
     refine cont_again ((i + 1 : Nat), 1, fr + 1, w1, fr + 1, ([] : List Rect), none, 0, 0, 0, xs1, Ay, gy, ky, cy, bB2, bF2) (show ((i + 1 : Nat)) ≤ 25 ∧ ((i + 1 : Nat)) ≤ n ∧ (1) ≤ 1 ∧ 0 ≤ (fr + 1) ∧ (fr + 1) ≤ (((i + 1 : Nat)) : Int) ∧ 0 ≤ (fr + 1) ∧ (fr + 1) ≤ (fr + 1) ∧ 0 ≤ (w1) ∧ (w1) ≤ (fr + 1) ∧ (0) ≤ 64 ∧ (ky) ≤ 64 ∧ Cov W1q (bB2) (if (1) = 0 then (([] : List Rect)) else (xs1)) ∧ Cov W1q (bF2) (if (1) = 0 then (xs1) else (([] : List Rect))) from ⟨by omega, by omega, by omega, by omega, by omega, by omega, by omega, by omega, by omega, by omega, by omega, (FlI.back (n := n6) (by rw [show n6 = k by omega]; exact hfl) (by omega)), (FlI.front (n := n6) (by rw [show n6 = k by omega]; exact hfl) (by omega))⟩) (show 40 - ((i + 1 : Nat)) < 40 - i from by omega) (by kernel_rfl) (by kernel_rfl)
    replace c39_ := ne_of_beqf c39_
    refine cont_false rfl ?_
    refine cont_skip ?_
    refine then_normal ?_
    refine cont_seq ?_
    refine cont_region 7 rfl ?_
    refine bS [0, 0] 2 5 [(2, .slice A n cap), (7, .pointer (pB b2)), (8, .pointer (pB b3)), (10, iq (n6 : Int)), (11, .slice (pB r22) n6 n6), (12, .slice (pB r23) n6 n6), (14, iq (i : Int)), (62, iq (i : Int)), (63, .bool true), (90, .slice A n cap), (91, iq (i : Int))] ?_
    refine pl_step 3 4 rfl rfl ?_
    refine cont_recast 90 (.slice A n cap) (.slice (some ⟨g, o, none⟩) n cap) rfl (by rw [hra (by omega)]) ?_
    refine sem_step 92 (Instr.indexAt 59 (.slice (some ⟨g, o, none⟩) n cap) (iq (i : Int))) (.pointer (some ⟨g, o + i * 7, none⟩)) (by kernel_rfl) (fun w hT => run_indexAt (e := 64) (sz := 7) _ (by kernel_rfl) (by kernel_rfl) (by omega) (by omega) (by omega) w) ?_
    refine bS [0] 4 3 [(2, .slice A n cap), (7, .pointer (pB b2)), (8, .pointer (pB b3)), (10, iq (n6 : Int)), (11, .slice (pB r22) n6 n6), (12, .slice (pB r23) n6 n6), (14, iq (i : Int)), (62, iq (i : Int)), (63, .bool true), (93, .pointer (some ⟨g, o + i * 7 + 1, none⟩))] ?_
    refine pl_step 5 2 rfl rfl ?_
    refine cont_fact (F := (0 < el.m1 → (el.A1 : Option Addr) = some ⟨el.g1, el.o1, none⟩) ∧ el.x1.length = el.m1) (fun w hT => Rd.factsR (hT.ok 0 _ rfl)) (fun hl47_ => ?_)
    obtain ⟨hl47_a, hl47_l⟩ := hl47_
    refine sem_step 94 (Instr.loadAt 62 (.pointer (some ⟨g, o + i * 7 + 1, none⟩))) (.slice el.A1 el.m1 el.k1) (by kernel_rfl) (fun w hT => run_load1 (by kernel_rfl) (Rd.dcell1 Deed18.size (hT.ok 11 _ rfl) (i := i) (by omega) 1 (by rw [hel]; rfl))) ?_
    refine pl_step 6 1 rfl rfl ?_
    refine call_gen (d := 95) (α := Option Addr × Nat × Nat × Nat) (fun x_ => .slice x_.1 x_.2.2.1 x_.2.2.2) (fun x_ => [.gen (rowE (x_.1) x_.2.1 x_.2.2.1 x_.2.2.2 28 4 (rvals (smallL el.x1 4)) true), .gen (rdE (el.A1) el.g1 el.o1 el.m1 4 (rvals el.x1)), .gen (rowE (pB r23) r23 n6 n6 4 1 (bvals bF) true), .gen (rowE (pB r22) r22 n6 n6 4 1 (bvals bB) true), .cells b3 [.pointer (pB m4), .pointer (pB m17), .slice Ax kx cx, .slice Ay ky cy, iq w0, iq w1, iq fr, iq 0] 98 true, .cells m4 [iq W1q, iq H1q, .slice (pB r5) n6 n6] 115 true, .gen (rowE (pB r5) r5 n6 n6 54 1 (ivals .u32 (List.replicate n6 0)) true), .cells m17 [iq W1q, iq H1q, .slice (pB r18) n19 n19] 115 true, .gen (rowE (pB r18) r18 n19 n19 54 1 (ivals .u32 (List.replicate n19 0)) true), .gen (rowE (Ax) gx kx cx 28 4 (rvals xs0) true), .gen (rowE (Ay) gy ky cy 28 4 (rvals xs1) true), .cells b2 [iq 0, iq 0, iq W1q, iq H1q] 28 true, .gen (rdE (A) g o n 7 (dvals Deed18.cells xs)), .gen (subE n (fun i_ => rdE ((dget xs i_).A1) (dget xs i_).g1 (dget xs i_).o1 (dget xs i_).m1 4 (rvals (dget xs i_).x1)))]) (fun x_ => True) (by kernel_rfl) (fun w hT => (refSmallL el.A1 el.g1 el.o1 el.m1 el.k1 el.x1 4 w (hT.viewRo (.cons (i := 0) rfl Vw.rd .nil) rfl) helg.b1 (by omega)).mono fun e w' ⟨A48, g49, k50, cp51, he_, ht_⟩ => ⟨(A48, g49, k50, cp51), he_, trivial, hT.news ht_ rfl⟩) ?_
    rintro ⟨A48, g49, k50, cp51⟩ hf52_
    refine cont_norm [(2, .slice A n cap), (7, .pointer (pB b2)), (8, .pointer (pB b3)), (10, iq (n6 : Int)), (11, .slice (pB r22) n6 n6), (12, .slice (pB r23) n6 n6), (14, iq (i : Int)), (62, iq (i : Int)), (63, .bool true), (93, .pointer (some ⟨g, o + i * 7 + 1, none⟩)), (94, .slice el.A1 el.m1 el.k1), (95, .slice A48 k50 cp51)] _ (by kernel_rfl) rfl ?_
    refine cont_fact (F := (0 < k50 → (A48 : Option Addr) = pB g49) ∧ (smallL el.x1 4).length = k50 ∧ k50 ≤ cp51 ∧ cp51 ≤ maxLen) (fun w hT => Row.factsR (hT.ok 0 _ rfl)) (fun hr53_ => ?_)
    obtain ⟨hr53_a, hr53_l, hr53_c, hr53_m⟩ := hr53_
    unfold maxLen at hr53_m
    have hsl54_ := smallL_length el.x1 4
    refine bS [0] 7 0 [(2, .slice A n cap), (7, .pointer (pB b2)), (8, .pointer (pB b3)), (10, iq (n6 : Int)), (11, .slice (pB r22) n6 n6), (12, .slice (pB r23) n6 n6), (14, iq (i : Int)), (16, .slice A48 k50 cp51), (62, iq (i : Int)), (63, .bool true)] ?_
    refine cont_done ?_
    refine then_normal ?_
    refine cont_seq ?_
    refine cont_region 3 rfl ?_
    refine bS [0, 0] 2 1 [(2, .slice A n cap), (7, .pointer (pB b2)), (8, .pointer (pB b3)), (10, iq (n6 : Int)), (11, .slice (pB r22) n6 n6), (12, .slice (pB r23) n6 n6), (14, iq (i : Int)), (16, .slice A48 k50 cp51), (62, iq (i : Int)), (63, .bool true), (96, .pointer (pB b3)), (97, .slice A48 k50 cp51)] ?_
    refine pl_step 3 0 rfl rfl ?_
    refine call_gen (d := 98) (α := Option Addr × Nat × Nat × Nat × Option Addr × Nat × Nat × Nat) (fun _ => .tuple #[]) (fun x_ => [.gen (rowE (x_.1) x_.2.1 x_.2.2.1 x_.2.2.2.1 28 4 (rvals (keepL hullP (regM orB xs0 (regM andB (canR (smallL el.x1 4)) (canR [(⟨0, 0, W1q, H1q⟩ : Rect)]))) 64)) true), .gen (rowE (x_.2.2.2.2.1) x_.2.2.2.2.2.1 x_.2.2.2.2.2.2.1 x_.2.2.2.2.2.2.2 28 4 (rvals (keepL hullP (regM orB xs1 (regM andB (canR (smallL el.x1 4)) (canR [(⟨0, 0, W1q, H1q⟩ : Rect)]))) 64)) true), .gen (rowE (A48) g49 k50 cp51 28 4 (rvals (smallL el.x1 4)) true), .gen (rdE (el.A1) el.g1 el.o1 el.m1 4 (rvals el.x1)), .gen (rowE (pB r23) r23 n6 n6 4 1 (bvals bF) true), .gen (rowE (pB r22) r22 n6 n6 4 1 (bvals bB) true), .cells b3 [.pointer (pB m4), .pointer (pB m17), .slice x_.1 x_.2.2.1 x_.2.2.2.1, .slice x_.2.2.2.2.1 x_.2.2.2.2.2.2.1 x_.2.2.2.2.2.2.2, iq w0, iq w1, iq fr, iq 0] 98 true, .cells m4 [iq W1q, iq H1q, .slice (pB r5) n6 n6] 115 true, .gen (rowE (pB r5) r5 n6 n6 54 1 (ivals .u32 (List.replicate n6 0)) true), .cells m17 [iq W1q, iq H1q, .slice (pB r18) n19 n19] 115 true, .gen (rowE (pB r18) r18 n19 n19 54 1 (ivals .u32 (List.replicate n19 0)) true), .gen (rowE (Ax) gx kx cx 28 4 (rvals xs0) true), .gen (rowE (Ay) gy ky cy 28 4 (rvals xs1) true), .cells b2 [iq 0, iq 0, iq W1q, iq H1q] 28 true, .gen (rdE (A) g o n 7 (dvals Deed18.cells xs)), .gen (subE n (fun i_ => rdE ((dget xs i_).A1) (dget xs i_).g1 (dget xs i_).o1 (dget xs i_).m1 4 (rvals (dget xs i_).x1)))]) (fun _ => True) (by kernel_rfl) (fun w hT => (outDamage b3 m4 m17 Ax Ay kx cx ky cy w0 w1 fr 0 W1q H1q r5 n6 n6 (List.replicate n6 0) gx xs0 gy xs1 A48 g49 0 k50 cp51 (smallL el.x1 4) w (hT.view (.cons (i := 4) rfl Vw.rw (.cons (i := 5) rfl Vw.roc (.cons (i := 6) rfl Vw.rowRd (.cons (i := 9) rfl Vw.rowRd (.cons (i := 10) rfl Vw.rowRd (.cons (i := 0) rfl Vw.rowRd .nil)))))) (by decide)) (by omega) (imgOk_new (by omega) hf18_a) (by omega) (by omega) (by omega)).mono fun e w' ⟨A55q, gA56q, k57q, cp58q, B59q, gB60q, kB61q, cB62q, he_, ht_⟩ => ⟨(A55q, gA56q, k57q, cp58q, B59q, gB60q, kB61q, cB62q), he_, trivial, hT.merge (N := [.gen (rowE (A55q) gA56q k57q cp58q 28 4 (rvals (keepL hullP (regM orB xs0 (regM andB (canR (smallL el.x1 4)) (canR [(⟨0, 0, W1q, H1q⟩ : Rect)]))) 64)) true), .gen (rowE (B59q) gB60q kB61q cB62q 28 4 (rvals (keepL hullP (regM orB xs1 (regM andB (canR (smallL el.x1 4)) (canR [(⟨0, 0, W1q, H1q⟩ : Rect)]))) 64)) true)]) (s := [4, 5, 6, 9, 10, 0]) ht_ (.cons (i := 4) rfl Mg.cells (.skip rfl (.skip rfl (.skip rfl (.skip rfl (.skip rfl .nil)))))) (by decide) (allOwn_get rfl)⟩) ?_
    rintro ⟨A55q, gA56q, k57q, cp58q, B59q, gB60q, kB61q, cB62q⟩ -
    refine cont_norm [(2, .slice A n cap), (7, .pointer (pB b2)), (8, .pointer (pB b3)), (10, iq (n6 : Int)), (11, .slice (pB r22) n6 n6), (12, .slice (pB r23) n6 n6), (14, iq (i : Int)), (16, .slice A48 k50 cp51), (62, iq (i : Int)), (63, .bool true), (96, .pointer (pB b3)), (97, .slice A48 k50 cp51), (98, .tuple #[])] _ (by kernel_rfl) rfl ?_
    refine cont_fact (F := (0 < k57q → (A55q : Option Addr) = pB gA56q) ∧ (keepL hullP (regM orB xs0 (regM andB (canR (smallL el.x1 4)) (canR [(⟨0, 0, W1q, H1q⟩ : Rect)]))) 64).length = k57q ∧ k57q ≤ cp58q ∧ cp58q ≤ maxLen) (fun w hT => Row.factsR (hT.ok 0 _ rfl)) (fun hr63_ => ?_)
    obtain ⟨hr63_a, hr63_l, hr63_c, hr63_m⟩ := hr63_
    unfold maxLen at hr63_m
    have hr63_k : k57q ≤ 64 := by rw [← hr63_l]; exact keep_len64 _ _
    clear hr63_l
    refine cont_fact (F := (0 < kB61q → (B59q : Option Addr) = pB gB60q) ∧ (keepL hullP (regM orB xs1 (regM andB (canR (smallL el.x1 4)) (canR [(⟨0, 0, W1q, H1q⟩ : Rect)]))) 64).length = kB61q ∧ kB61q ≤ cB62q ∧ cB62q ≤ maxLen) (fun w hT => Row.factsR (hT.ok 1 _ rfl)) (fun hr64_ => ?_)
    obtain ⟨hr64_a, hr64_l, hr64_c, hr64_m⟩ := hr64_
    unfold maxLen at hr64_m
    have hr64_k : kB61q ≤ 64 := by rw [← hr64_l]; exact keep_len64 _ _
    clear hr64_l
    refine cont_done ?_
    refine then_normal ?_
    refine cont_seq ?_
    refine cont_seq ?_
    refine cont_region 1 rfl ?_
    obtain ⟨LQ65, hLQ65⟩ : ∃ y_ : List Rect, y_ = keepL hullP (regM orB xs0 (regM andB (canR (smallL el.x1 4)) (canR [(⟨0, 0, W1q, H1q⟩ : Rect)]))) 64 := ⟨_, rfl⟩
    have hold0 : ∀ x_ y_, hasL xs0 x_ y_ = true → hasL LQ65 x_ y_ = true := by rw [hLQ65]; exact fun _ _ h_ => damage_old _ _ _ h_
    have hnew0 : ∀ x_ y_, hasL (smallL el.x1 4) x_ y_ = true → hasB 0 0 W1q H1q x_ y_ = true → hasL LQ65 x_ y_ = true := by rw [hLQ65]; exact fun _ _ h_ h2_ => damage_new _ _ h_ h2_
    refine cont_rowEqR 0 (keepL hullP (regM orB xs0 (regM andB (canR (smallL el.x1 4)) (canR [(⟨0, 0, W1q, H1q⟩ : Rect)]))) 64) (LQ65) rfl hLQ65.symm ?_
    clear hLQ65
    obtain ⟨LQ66, hLQ66⟩ : ∃ y_ : List Rect, y_ = keepL hullP (regM orB xs1 (regM andB (canR (smallL el.x1 4)) (canR [(⟨0, 0, W1q, H1q⟩ : Rect)]))) 64 := ⟨_, rfl⟩
    have hold1 : ∀ x_ y_, hasL xs1 x_ y_ = true → hasL LQ66 x_ y_ = true := by rw [hLQ66]; exact fun _ _ h_ => damage_old _ _ _ h_
    have hnew1 : ∀ x_ y_, hasL (smallL el.x1 4) x_ y_ = true → hasB 0 0 W1q H1q x_ y_ = true → hasL LQ66 x_ y_ = true := by rw [hLQ66]; exact fun _ _ h_ h2_ => damage_new _ _ h_ h2_
    refine cont_rowEqR 1 (keepL hullP (regM orB xs1 (regM andB (canR (smallL el.x1 4)) (canR [(⟨0, 0, W1q, H1q⟩ : Rect)]))) 64) (LQ66) rfl hLQ66.symm ?_
    clear hLQ66
    refine cont_norm [(2, .slice A n cap), (7, .pointer (pB b2)), (8, .pointer (pB b3)), (10, iq (n6 : Int)), (11, .slice (pB r22) n6 n6), (12, .slice (pB r23) n6 n6), (14, iq (i : Int)), (16, .slice A48 k50 cp51), (62, iq (i : Int)), (63, .bool true), (96, .pointer (pB b3)), (97, .slice A48 k50 cp51), (98, .tuple #[])] _ (by kernel_rfl) rfl ?_
    refine cont_fact (F := (0 < k57q → (A55q : Option Addr) = pB gA56q) ∧ LQ65.length = k57q ∧ k57q ≤ cp58q ∧ cp58q ≤ maxLen) (fun w hT => Row.factsR (hT.ok 0 _ rfl)) (fun hr67_ => ?_)
    obtain ⟨hr67_a, hr67_l, hr67_c, hr67_m⟩ := hr67_
    unfold maxLen at hr67_m
    refine cont_fact (F := (0 < kB61q → (B59q : Option Addr) = pB gB60q) ∧ LQ66.length = kB61q ∧ kB61q ≤ cB62q ∧ cB62q ≤ maxLen) (fun w hT => Row.factsR (hT.ok 1 _ rfl)) (fun hr68_ => ?_)
    obtain ⟨hr68_a, hr68_l, hr68_c, hr68_m⟩ := hr68_
    unfold maxLen at hr68_m
    refine bS [0] 1 0 [(2, .slice A n cap), (7, .pointer (pB b2)), (8, .pointer (pB b3)), (10, iq (n6 : Int)), (11, .slice (pB r22) n6 n6), (12, .slice (pB r23) n6 n6), (14, iq (i : Int)), (16, .slice A48 k50 cp51), (17, iq 0), (62, iq (i : Int)), (63, .bool true)] ?_
    refine cont_forget 11 rfl ?_
    refine cont_forget 11 rfl ?_
    refine cont_done ?_
    refine then_normal ?_
    refine cont_block ?_
    refine cont_loop (α := Nat × List Bool × List Bool) (fun x_ : Nat × List Bool × List Bool => x_.1 ≤ n6 ∧ Cov W1q x_.2.1 (LQ65) ∧ Cov W1q x_.2.2 (LQ66)) (fun x_ : Nat × List Bool × List Bool => [(2, .slice A n cap), (7, .pointer (pB b2)), (8, .pointer (pB b3)), (10, iq (n6 : Int)), (11, .slice (pB r22) n6 n6), (12, .slice (pB r23) n6 n6), (14, iq (i : Int)), (16, .slice A48 k50 cp51), (17, iq ((x_.1 : Nat) : Int)), (62, iq (i : Int)), (63, .bool true)]) (fun x_ : Nat × List Bool × List Bool => [.gen (rowE (A55q) gA56q k57q cp58q 28 4 (rvals LQ65) true), .gen (rowE (B59q) gB60q kB61q cB62q 28 4 (rvals LQ66) true), .gen (rowE (A48) g49 k50 cp51 28 4 (rvals (smallL el.x1 4)) true), .gen (rdE (el.A1) el.g1 el.o1 el.m1 4 (rvals el.x1)), .gen (rowE (pB r23) r23 n6 n6 4 1 (bvals x_.2.2) true), .gen (rowE (pB r22) r22 n6 n6 4 1 (bvals x_.2.1) true), .cells b3 [.pointer (pB m4), .pointer (pB m17), .slice A55q k57q cp58q, .slice B59q kB61q cB62q, iq w0, iq w1, iq fr, iq 0] 98 true, .cells m4 [iq W1q, iq H1q, .slice (pB r5) n6 n6] 115 true, .gen (rowE (pB r5) r5 n6 n6 54 1 (ivals .u32 (List.replicate n6 0)) true), .cells m17 [iq W1q, iq H1q, .slice (pB r18) n19 n19] 115 true, .gen (rowE (pB r18) r18 n19 n19 54 1 (ivals .u32 (List.replicate n19 0)) true), .cells b2 [iq 0, iq 0, iq W1q, iq H1q] 28 true, .gen (rdE (A) g o n 7 (dvals Deed18.cells xs)), .gen (subE n (fun i_ => rdE ((dget xs i_).A1) (dget xs i_).g1 (dget xs i_).o1 (dget xs i_).m1 4 (rvals (dget xs i_).x1)))]) (fun x_ : Nat × List Bool × List Bool => n6 - x_.1) (0, bB, bF) (show (0) ≤ n6 ∧ Cov W1q (bB) (LQ65) ∧ Cov W1q (bF) (LQ66) from ⟨by omega, hcb.mono hold0, hcf.mono hold1⟩) (by kernel_rfl) (by kernel_rfl) ?_
    rintro ⟨k, bB2, bF2⟩ hinv69_
    replace hinv69_ : k ≤ n6 ∧ Cov W1q bB2 (LQ65) ∧ Cov W1q bF2 (LQ66) := hinv69_
    refine cont_norm [(2, .slice A n cap), (7, .pointer (pB b2)), (8, .pointer (pB b3)), (10, iq (n6 : Int)), (11, .slice (pB r22) n6 n6), (12, .slice (pB r23) n6 n6), (14, iq (i : Int)), (16, .slice A48 k50 cp51), (17, iq ((k : Nat) : Int)), (62, iq (i : Int)), (63, .bool true)] _ (by kernel_rfl) rfl ?_
    obtain ⟨hk, hcb2, hcf2⟩ := hinv69_
    have hem := emod_range k (show 1 ≤ W1q by omega)
    refine cont_seq ?_
    refine cont_seq ?_
    refine cont_region 3 rfl ?_
    refine bS [0, 0, 0] 3 0 [(2, .slice A n cap), (7, .pointer (pB b2)), (8, .pointer (pB b3)), (10, iq (n6 : Int)), (11, .slice (pB r22) n6 n6), (12, .slice (pB r23) n6 n6), (14, iq (i : Int)), (16, .slice A48 k50 cp51), (17, iq ((k : Nat) : Int)), (62, iq (i : Int)), (63, .bool true), (101, .bool (decide (((k : Nat) : Int) < (n6 : Int))))] ?_
    refine cont_done ?_
    refine then_normal ?_
    refine cont_split 101 (decide (((k : Nat) : Int) < (n6 : Int))) rfl (fun c70_ => ?_) (fun c70_ => ?_)
    ·
     replace c70_ := of_decide_eq_true c70_
     refine cont_true rfl ?_
     refine cont_skip ?_
     refine then_normal ?_
     refine cont_seq ?_
     refine cont_block ?_
     refine cont_seq ?_
     refine drawn_enter 10 [] rfl (by kernel_rfl) ?_
     refine takes 0 [] [(0, 0), (1, 0), (2, 0), (5, 0), (6, 0), (3, 11), (7, 11)] 3 [7, 3, 6, 5, 2, 1, 0] [(2, .slice A n cap), (7, .pointer (pB b2)), (8, .pointer (pB b3)), (10, iq (n6 : Int)), (11, .slice (pB r22) n6 n6), (12, .slice (pB r23) n6 n6), (14, iq (i : Int)), (16, .slice A48 k50 cp51), (17, iq ((k : Nat) : Int)), (62, iq (i : Int)), (63, .bool true), (104, .slice A48 k50 cp51), (105, iq ((k : Nat) : Int)), (107, iq W1q), (109, iq ((k : Nat) : Int)), (111, iq W1q)] (by kernel_rfl) (pok_then (pok_blk (pok_then (pok_then (pok_blk (pok_then (pok_blk (pok_then (pok_then (pok_blk (pok_then pok_body))))))))))) (by kernel_rfl) rfl rfl (by kernel_rfl) (by kernel_rfl) ?_
     refine sem_take 0 [] 4 2 108 (bopS .rem 3 (.tmp 105) (.tmp 107) (iq ((k : Nat) : Int)) (iq W1q)) (iq (((k : Nat) : Int).tmod W1q)) (by kernel_rfl) (pok_then (pok_blk (pok_then (pok_then (pok_blk (pok_then (pok_blk (pok_then (pok_then (pok_blk (pok_then pok_body))))))))))) (by kernel_rfl) rfl (by kernel_rfl) (by kernel_rfl) (fun w hT => run_rem (by omega) w) ?_
     refine cont_recast 108 (iq (((k : Nat) : Int).tmod W1q)) (iq (((k : Nat) : Int) % W1q)) rfl (tmodI (by omega)) ?_
     refine sem_take 0 [] 8 1 112 (bopS .quo 3 (.tmp 109) (.tmp 111) (iq ((k : Nat) : Int)) (iq W1q)) (iq (IntKind.i64.wrap (((k : Nat) : Int).tdiv W1q))) (by kernel_rfl) (pok_then (pok_blk (pok_then (pok_then (pok_blk (pok_then (pok_blk (pok_then (pok_then (pok_blk (pok_then pok_body))))))))))) (by kernel_rfl) rfl (by kernel_rfl) (by kernel_rfl) (fun w hT => run_quo (by omega) w) ?_
     refine cont_recast 112 (iq (IntKind.i64.wrap (((k : Nat) : Int).tdiv W1q))) (iq (((k : Nat) : Int) / W1q)) rfl (tdivI (by omega) (by omega) (by omega)) ?_
     refine drawn_one 9 0 rfl (by kernel_rfl) ?_
     refine call_pure (d := 113) (.bool (hasL (smallL el.x1 4) (((k : Nat) : Int) % W1q) (((k : Nat) : Int) / W1q))) (by kernel_rfl) (fun w hT => refHasL A48 g49 0 k50 cp51 (smallL el.x1 4) (((k : Nat) : Int) % W1q) (((k : Nat) : Int) / W1q) w (hT.viewRo (.cons (i := 2) rfl Vw.rowRd .nil) rfl) (by omega)) ?_
     refine drawn_next 0 [] (by kernel_rfl) ?_
     refine drawn_done (by kernel_rfl) ?_
     refine then_normal ?_
     refine cont_split 113 (hasL (smallL el.x1 4) (((k : Nat) : Int) % W1q) (((k : Nat) : Int) / W1q)) rfl (fun c71_ => ?_) (fun c71_ => ?_)
     ·
      have hB_ := c71_
      refine cont_true rfl ?_
      refine cont_seq ?_
      refine cont_region 4 rfl ?_
      refine cont_fact (F := (0 < n6 → (pB r22 : Option Addr) = pB r22) ∧ bB2.length = n6 ∧ n6 ≤ n6 ∧ n6 ≤ maxLen) (fun w hT => Row.factsB (hT.ok 5 _ rfl)) (fun hr72_ => ?_)
      obtain ⟨hr72_a, hr72_l, hr72_c, hr72_m⟩ := hr72_
      unfold maxLen at hr72_m
      refine cont_fact (F := (0 < n6 → (pB r23 : Option Addr) = pB r23) ∧ bF2.length = n6 ∧ n6 ≤ n6 ∧ n6 ≤ maxLen) (fun w hT => Row.factsB (hT.ok 4 _ rfl)) (fun hr73_ => ?_)
      obtain ⟨hr73_a, hr73_l, hr73_c, hr73_m⟩ := hr73_
      unfold maxLen at hr73_m
      refine bS [0, 0] 2 2 [(2, .slice A n cap), (7, .pointer (pB b2)), (8, .pointer (pB b3)), (10, iq (n6 : Int)), (11, .slice (pB r22) n6 n6), (12, .slice (pB r23) n6 n6), (14, iq (i : Int)), (16, .slice A48 k50 cp51), (17, iq ((k : Nat) : Int)), (62, iq (i : Int)), (63, .bool true), (114, .slice (pB r22) n6 n6), (115, iq ((k : Nat) : Int))] ?_
      refine pl_step 3 1 rfl rfl ?_
      refine sem_step 116 (Instr.indexAt 61 (.slice (pB r22) n6 n6) (iq ((k : Nat) : Int))) (.pointer (some ⟨r22, (k : Nat), none⟩)) (by kernel_rfl) (fun w hT => run_indexAt (e := 4) (sz := 1) _ (by kernel_rfl) (by kernel_rfl) (by omega) (by omega) (by omega) w) ?_
      refine pl_step 4 0 rfl rfl ?_
      refine sem_stepU (Instr.storeAt 4 (.pointer (some ⟨r22, (k : Nat), none⟩)) (.bool true)) (fun _ => [.gen (rowE (A55q) gA56q k57q cp58q 28 4 (rvals LQ65) true), .gen (rowE (B59q) gB60q kB61q cB62q 28 4 (rvals LQ66) true), .gen (rowE (A48) g49 k50 cp51 28 4 (rvals (smallL el.x1 4)) true), .gen (rdE (el.A1) el.g1 el.o1 el.m1 4 (rvals el.x1)), .gen (rowE (pB r23) r23 n6 n6 4 1 (bvals bF2) true), .gen (rowE (pB r22) r22 n6 n6 4 1 (bvals (bB2.set (k : Nat) true)) true), .cells b3 [.pointer (pB m4), .pointer (pB m17), .slice A55q k57q cp58q, .slice B59q kB61q cB62q, iq w0, iq w1, iq fr, iq 0] 98 true, .cells m4 [iq W1q, iq H1q, .slice (pB r5) n6 n6] 115 true, .gen (rowE (pB r5) r5 n6 n6 54 1 (ivals .u32 (List.replicate n6 0)) true), .cells m17 [iq W1q, iq H1q, .slice (pB r18) n19 n19] 115 true, .gen (rowE (pB r18) r18 n19 n19 54 1 (ivals .u32 (List.replicate n19 0)) true), .cells b2 [iq 0, iq 0, iq W1q, iq H1q] 28 true, .gen (rdE (A) g o n 7 (dvals Deed18.cells xs)), .gen (subE n (fun i_ => rdE ((dget xs i_).A1) (dget xs i_).g1 (dget xs i_).o1 (dget xs i_).m1 4 (rvals (dget xs i_).x1)))]) (fun _ => True) (by kernel_rfl) (fun w hT => store_rowB (xs := bB2) hT (i := 5) rfl (by kernel_rfl) (by omega)) (fun _ _ => ?_)
      refine cont_done ?_
      refine then_normal ?_
      refine cont_region 4 rfl ?_
      refine bS [0, 0] 2 2 [(2, .slice A n cap), (7, .pointer (pB b2)), (8, .pointer (pB b3)), (10, iq (n6 : Int)), (11, .slice (pB r22) n6 n6), (12, .slice (pB r23) n6 n6), (14, iq (i : Int)), (16, .slice A48 k50 cp51), (17, iq ((k : Nat) : Int)), (62, iq (i : Int)), (63, .bool true), (117, .slice (pB r23) n6 n6), (118, iq ((k : Nat) : Int))] ?_
      refine pl_step 3 1 rfl rfl ?_
      refine sem_step 119 (Instr.indexAt 61 (.slice (pB r23) n6 n6) (iq ((k : Nat) : Int))) (.pointer (some ⟨r23, (k : Nat), none⟩)) (by kernel_rfl) (fun w hT => run_indexAt (e := 4) (sz := 1) _ (by kernel_rfl) (by kernel_rfl) (by omega) (by omega) (by omega) w) ?_
      refine pl_step 4 0 rfl rfl ?_
      refine sem_stepU (Instr.storeAt 4 (.pointer (some ⟨r23, (k : Nat), none⟩)) (.bool true)) (fun _ => [.gen (rowE (A55q) gA56q k57q cp58q 28 4 (rvals LQ65) true), .gen (rowE (B59q) gB60q kB61q cB62q 28 4 (rvals LQ66) true), .gen (rowE (A48) g49 k50 cp51 28 4 (rvals (smallL el.x1 4)) true), .gen (rdE (el.A1) el.g1 el.o1 el.m1 4 (rvals el.x1)), .gen (rowE (pB r23) r23 n6 n6 4 1 (bvals (bF2.set (k : Nat) true)) true), .gen (rowE (pB r22) r22 n6 n6 4 1 (bvals (bB2.set (k : Nat) true)) true), .cells b3 [.pointer (pB m4), .pointer (pB m17), .slice A55q k57q cp58q, .slice B59q kB61q cB62q, iq w0, iq w1, iq fr, iq 0] 98 true, .cells m4 [iq W1q, iq H1q, .slice (pB r5) n6 n6] 115 true, .gen (rowE (pB r5) r5 n6 n6 54 1 (ivals .u32 (List.replicate n6 0)) true), .cells m17 [iq W1q, iq H1q, .slice (pB r18) n19 n19] 115 true, .gen (rowE (pB r18) r18 n19 n19 54 1 (ivals .u32 (List.replicate n19 0)) true), .cells b2 [iq 0, iq 0, iq W1q, iq H1q] 28 true, .gen (rdE (A) g o n 7 (dvals Deed18.cells xs)), .gen (subE n (fun i_ => rdE ((dget xs i_).A1) (dget xs i_).g1 (dget xs i_).o1 (dget xs i_).m1 4 (rvals (dget xs i_).x1)))]) (fun _ => True) (by kernel_rfl) (fun w hT => store_rowB (xs := bF2) hT (i := 4) rfl (by kernel_rfl) (by omega)) (fun _ _ => ?_)
      refine cont_done ?_
      refine blk_normal ?_
      refine then_normal ?_
      refine cont_region 3 rfl ?_
      refine bS [0, 0] 2 1 [(2, .slice A n cap), (7, .pointer (pB b2)), (8, .pointer (pB b3)), (10, iq (n6 : Int)), (11, .slice (pB r22) n6 n6), (12, .slice (pB r23) n6 n6), (14, iq (i : Int)), (16, .slice A48 k50 cp51), (62, iq (i : Int)), (63, .bool true), (103, iq (IntKind.i64.wrap (((k : Nat) : Int) + 1)))] ?_
      refine cont_recast 103 (iq (IntKind.i64.wrap (((k : Nat) : Int) + 1))) (iq (((k : Nat) : Int) + 1)) rfl (wrapI (by omega) (by omega)) ?_
      refine bS [0] 3 0 [(2, .slice A n cap), (7, .pointer (pB b2)), (8, .pointer (pB b3)), (10, iq (n6 : Int)), (11, .slice (pB r22) n6 n6), (12, .slice (pB r23) n6 n6), (14, iq (i : Int)), (16, .slice A48 k50 cp51), (17, iq (((k : Nat) : Int) + 1)), (62, iq (i : Int)), (63, .bool true)] ?_
      refine cont_done ?_
      refine then_normal ?_
      refine cont_again (k + 1, bB2.set (k : Nat) true, bF2.set (k : Nat) true) (show (k + 1) ≤ n6 ∧ Cov W1q (bB2.set (k : Nat) true) (LQ65) ∧ Cov W1q (bF2.set (k : Nat) true) (LQ66) from ⟨by omega, hcb2.put (hnew0 _ _ hB_ (in_box (by omega) hn_ (by omega))), hcf2.put (hnew1 _ _ hB_ (in_box (by omega) hn_ (by omega)))⟩) (show n6 - (k + 1) < n6 - k from by omega) (by kernel_rfl) (by kernel_rfl)
     have hB_ := c71_
     refine cont_false rfl ?_
     refine cont_skip ?_
     refine blk_normal ?_
     refine then_normal ?_
     refine cont_region 3 rfl ?_
     refine bS [0, 0] 2 1 [(2, .slice A n cap), (7, .pointer (pB b2)), (8, .pointer (pB b3)), (10, iq (n6 : Int)), (11, .slice (pB r22) n6 n6), (12, .slice (pB r23) n6 n6), (14, iq (i : Int)), (16, .slice A48 k50 cp51), (62, iq (i : Int)), (63, .bool true), (103, iq (IntKind.i64.wrap (((k : Nat) : Int) + 1)))] ?_
     refine cont_recast 103 (iq (IntKind.i64.wrap (((k : Nat) : Int) + 1))) (iq (((k : Nat) : Int) + 1)) rfl (wrapI (by omega) (by omega)) ?_
     refine bS [0] 3 0 [(2, .slice A n cap), (7, .pointer (pB b2)), (8, .pointer (pB b3)), (10, iq (n6 : Int)), (11, .slice (pB r22) n6 n6), (12, .slice (pB r23) n6 n6), (14, iq (i : Int)), (16, .slice A48 k50 cp51), (17, iq (((k : Nat) : Int) + 1)), (62, iq (i : Int)), (63, .bool true)] ?_
     refine cont_done ?_
     refine then_normal ?_
     refine cont_again (k + 1, bB2, bF2) (show (k + 1) ≤ n6 ∧ Cov W1q (bB2) (LQ65) ∧ Cov W1q (bF2) (LQ66) from ⟨by omega, hcb2, hcf2⟩) (show n6 - (k + 1) < n6 - k from by omega) (by kernel_rfl) (by kernel_rfl)
    replace c70_ := of_decide_eq_false c70_
    refine cont_false rfl ?_
    refine cont_exit ?_
    refine then_exit ?_
    refine then_exit ?_
    refine blk_exit ?_
    refine then_normal ?_
    refine cont_seq ?_
    refine cont_region 3 rfl ?_
    refine bS [0] 1 2 [(2, .slice A n cap), (7, .pointer (pB b2)), (8, .pointer (pB b3)), (10, iq (n6 : Int)), (11, .slice (pB r22) n6 n6), (12, .slice (pB r23) n6 n6), (14, iq (i : Int)), (62, iq (i : Int)), (63, .bool true), (120, .pointer (pB b3))] ?_
    refine cont_forget 2 rfl ?_
    refine pl_step 2 1 rfl rfl ?_
    refine call_gen (d := 121) (α := Option Addr × Nat × Nat × Nat) (fun x_ => .slice x_.1 x_.2.2.1 x_.2.2.2) (fun x_ => [.gen (rowE (x_.1) x_.2.1 x_.2.2.1 x_.2.2.2 28 4 (rvals LQ65) true), .gen (rowE (A55q) gA56q k57q cp58q 28 4 (rvals LQ65) true), .gen (rowE (B59q) gB60q kB61q cB62q 28 4 (rvals LQ66) true), .gen (rdE (el.A1) el.g1 el.o1 el.m1 4 (rvals el.x1)), .gen (rowE (pB r23) r23 n6 n6 4 1 (bvals bF2) true), .gen (rowE (pB r22) r22 n6 n6 4 1 (bvals bB2) true), .cells b3 [.pointer (pB m4), .pointer (pB m17), .slice A55q k57q cp58q, .slice B59q kB61q cB62q, iq w0, iq w1, iq fr, iq 0] 98 true, .cells m4 [iq W1q, iq H1q, .slice (pB r5) n6 n6] 115 true, .gen (rowE (pB r5) r5 n6 n6 54 1 (ivals .u32 (List.replicate n6 0)) true), .cells m17 [iq W1q, iq H1q, .slice (pB r18) n19 n19] 115 true, .gen (rowE (pB r18) r18 n19 n19 54 1 (ivals .u32 (List.replicate n19 0)) true), .cells b2 [iq 0, iq 0, iq W1q, iq H1q] 28 true, .gen (rdE (A) g o n 7 (dvals Deed18.cells xs)), .gen (subE n (fun i_ => rdE ((dget xs i_).A1) (dget xs i_).g1 (dget xs i_).o1 (dget xs i_).m1 4 (rvals (dget xs i_).x1)))]) (fun x_ => True) (by kernel_rfl) (fun w hT => (outStale0 b3 m4 m17 A55q B59q k57q cp58q kB61q cB62q w0 w1 fr gA56q LQ65 w (hT.viewRo (.cons (i := 5) rfl Vw.roc (.cons (i := 0) rfl Vw.rowRd .nil)) rfl) (by omega)).mono fun e w' ⟨A74, g75, k76, cp77, he_, ht_⟩ => ⟨(A74, g75, k76, cp77), he_, trivial, hT.news ht_ rfl⟩) ?_
    rintro ⟨A74, g75, k76, cp77⟩ hf78_
    refine cont_norm [(2, .slice A n cap), (7, .pointer (pB b2)), (8, .pointer (pB b3)), (10, iq (n6 : Int)), (11, .slice (pB r22) n6 n6), (12, .slice (pB r23) n6 n6), (14, iq (i : Int)), (62, iq (i : Int)), (63, .bool true), (120, .pointer (pB b3)), (121, .slice A74 k76 cp77)] _ (by kernel_rfl) rfl ?_
    refine cont_fact (F := (0 < k76 → (A74 : Option Addr) = pB g75) ∧ LQ65.length = k76 ∧ k76 ≤ cp77 ∧ cp77 ≤ maxLen) (fun w hT => Row.factsR (hT.ok 0 _ rfl)) (fun hr79_ => ?_)
    obtain ⟨hr79_a, hr79_l, hr79_c, hr79_m⟩ := hr79_
    unfold maxLen at hr79_m
    refine bS [0] 3 0 [(2, .slice A n cap), (7, .pointer (pB b2)), (8, .pointer (pB b3)), (10, iq (n6 : Int)), (11, .slice (pB r22) n6 n6), (12, .slice (pB r23) n6 n6), (14, iq (i : Int)), (18, .slice A74 k76 cp77), (62, iq (i : Int)), (63, .bool true)] ?_
    refine cont_done ?_
    refine then_normal ?_
    refine cont_seq ?_
    refine cont_region 1 rfl ?_
    refine bS [0] 1 0 [(2, .slice A n cap), (7, .pointer (pB b2)), (8, .pointer (pB b3)), (10, iq (n6 : Int)), (11, .slice (pB r22) n6 n6), (12, .slice (pB r23) n6 n6), (14, iq (i : Int)), (18, .slice A74 k76 cp77), (19, iq 0), (62, iq (i : Int)), (63, .bool true)] ?_
    refine cont_done ?_
    refine then_normal ?_
    refine cont_block ?_
    refine cont_loop (α := Nat) (fun x_ : Nat => x_ ≤ n6) (fun x_ : Nat => [(2, .slice A n cap), (7, .pointer (pB b2)), (8, .pointer (pB b3)), (10, iq (n6 : Int)), (11, .slice (pB r22) n6 n6), (12, .slice (pB r23) n6 n6), (14, iq (i : Int)), (18, .slice A74 k76 cp77), (19, iq ((x_ : Nat) : Int)), (62, iq (i : Int)), (63, .bool true)]) (fun x_ : Nat => [.gen (rowE (A74) g75 k76 cp77 28 4 (rvals LQ65) true), .gen (rowE (A55q) gA56q k57q cp58q 28 4 (rvals LQ65) true), .gen (rowE (B59q) gB60q kB61q cB62q 28 4 (rvals LQ66) true), .gen (rdE (el.A1) el.g1 el.o1 el.m1 4 (rvals el.x1)), .gen (rowE (pB r23) r23 n6 n6 4 1 (bvals bF2) true), .gen (rowE (pB r22) r22 n6 n6 4 1 (bvals bB2) true), .cells b3 [.pointer (pB m4), .pointer (pB m17), .slice A55q k57q cp58q, .slice B59q kB61q cB62q, iq w0, iq w1, iq fr, iq 0] 98 true, .cells m4 [iq W1q, iq H1q, .slice (pB r5) n6 n6] 115 true, .gen (rowE (pB r5) r5 n6 n6 54 1 (ivals .u32 (List.replicate n6 0)) true), .cells m17 [iq W1q, iq H1q, .slice (pB r18) n19 n19] 115 true, .gen (rowE (pB r18) r18 n19 n19 54 1 (ivals .u32 (List.replicate n19 0)) true), .cells b2 [iq 0, iq 0, iq W1q, iq H1q] 28 true, .gen (rdE (A) g o n 7 (dvals Deed18.cells xs)), .gen (subE n (fun i_ => rdE ((dget xs i_).A1) (dget xs i_).g1 (dget xs i_).o1 (dget xs i_).m1 4 (rvals (dget xs i_).x1)))]) (fun x_ : Nat => n6 - x_) 0 (by omega) (by kernel_rfl) (by kernel_rfl) ?_
    rintro q hinv80_
    replace hinv80_ : q ≤ n6 := hinv80_
    refine cont_norm [(2, .slice A n cap), (7, .pointer (pB b2)), (8, .pointer (pB b3)), (10, iq (n6 : Int)), (11, .slice (pB r22) n6 n6), (12, .slice (pB r23) n6 n6), (14, iq (i : Int)), (18, .slice A74 k76 cp77), (19, iq ((q : Nat) : Int)), (62, iq (i : Int)), (63, .bool true)] _ (by kernel_rfl) rfl ?_
    have hq := hinv80_
    have hem := emod_range q (show 1 ≤ W1q by omega)
    refine cont_seq ?_
    refine cont_seq ?_
    refine cont_region 3 rfl ?_
    refine bS [0, 0, 0] 3 0 [(2, .slice A n cap), (7, .pointer (pB b2)), (8, .pointer (pB b3)), (10, iq (n6 : Int)), (11, .slice (pB r22) n6 n6), (12, .slice (pB r23) n6 n6), (14, iq (i : Int)), (18, .slice A74 k76 cp77), (19, iq ((q : Nat) : Int)), (62, iq (i : Int)), (63, .bool true), (124, .bool (decide (((q : Nat) : Int) < (n6 : Int))))] ?_
    refine cont_done ?_
    refine then_normal ?_
    refine cont_split 124 (decide (((q : Nat) : Int) < (n6 : Int))) rfl (fun c81_ => ?_) (fun c81_ => ?_)
    ·
     replace c81_ := of_decide_eq_true c81_
     refine cont_true rfl ?_
     refine cont_skip ?_
     refine then_normal ?_
     refine cont_seq ?_
     refine cont_block ?_
     refine cont_seq ?_
     refine cont_fact (F := (0 < n6 → (pB r22 : Option Addr) = pB r22) ∧ bB2.length = n6 ∧ n6 ≤ n6 ∧ n6 ≤ maxLen) (fun w hT => Row.factsB (hT.ok 5 _ rfl)) (fun hr82_ => ?_)
     obtain ⟨hr82_a, hr82_l, hr82_c, hr82_m⟩ := hr82_
     unfold maxLen at hr82_m
     refine cont_fact (F := (0 < n6 → (pB r23 : Option Addr) = pB r23) ∧ bF2.length = n6 ∧ n6 ≤ n6 ∧ n6 ≤ maxLen) (fun w hT => Row.factsB (hT.ok 4 _ rfl)) (fun hr83_ => ?_)
     obtain ⟨hr83_a, hr83_l, hr83_c, hr83_m⟩ := hr83_
     unfold maxLen at hr83_m
     refine drawn_enter 17 [] rfl (by kernel_rfl) ?_
     refine takes 0 [] [(0, 0), (1, 0)] 15 [1, 0] [(2, .slice A n cap), (7, .pointer (pB b2)), (8, .pointer (pB b3)), (10, iq (n6 : Int)), (11, .slice (pB r22) n6 n6), (12, .slice (pB r23) n6 n6), (14, iq (i : Int)), (18, .slice A74 k76 cp77), (19, iq ((q : Nat) : Int)), (62, iq (i : Int)), (63, .bool true), (127, .slice (pB r22) n6 n6), (128, iq ((q : Nat) : Int))] (by kernel_rfl) (pok_then (pok_blk (pok_then (pok_then (pok_blk (pok_blk (pok_then (pok_then (pok_blk (pok_then pok_body)))))))))) (by kernel_rfl) rfl rfl (by kernel_rfl) (by kernel_rfl) ?_
     refine sem_take 0 [] 2 14 129 (Instr.indexAt 61 (.slice (pB r22) n6 n6) (iq ((q : Nat) : Int))) (.pointer (some ⟨r22, (q : Nat), none⟩)) (by kernel_rfl) (pok_then (pok_blk (pok_then (pok_then (pok_blk (pok_blk (pok_then (pok_then (pok_blk (pok_then pok_body)))))))))) (by kernel_rfl) rfl (by kernel_rfl) (by kernel_rfl) (fun w hT => run_indexAt (e := 4) (sz := 1) _ (by kernel_rfl) (by kernel_rfl) (by omega) (by omega) (by omega) w) ?_
     refine sem_take 0 [] 3 13 130 (Instr.loadAt 4 (.pointer (some ⟨r22, (q : Nat), none⟩))) (.bool (bB2.getD (q : Nat) false)) (by kernel_rfl) (pok_then (pok_blk (pok_then (pok_then (pok_blk (pok_blk (pok_then (pok_then (pok_blk (pok_then pok_body)))))))))) (by kernel_rfl) rfl (by kernel_rfl) (by kernel_rfl) (fun w hT => run_load1 (by kernel_rfl) (Row.cell (hT 5 _ rfl) ((q : Nat)) _ (bvals_get (xs := bB2) (by omega)))) ?_
     refine takes 0 [] [(4, 0)] 12 [4, 3, 2, 1, 0] [(2, .slice A n cap), (7, .pointer (pB b2)), (8, .pointer (pB b3)), (10, iq (n6 : Int)), (11, .slice (pB r22) n6 n6), (12, .slice (pB r23) n6 n6), (14, iq (i : Int)), (18, .slice A74 k76 cp77), (19, iq ((q : Nat) : Int)), (62, iq (i : Int)), (63, .bool true), (131, .bool (bB2.getD (q : Nat) false))] (by kernel_rfl) (pok_then (pok_blk (pok_then (pok_then (pok_blk (pok_blk (pok_then (pok_then (pok_blk (pok_then pok_body)))))))))) (by kernel_rfl) rfl rfl (by kernel_rfl) (by kernel_rfl) ?_
     refine cont_split 131 (bB2.getD (q : Nat) false) rfl (fun c84_ => ?_) (fun c84_ => ?_)
     ·
      refine takes 0 [] [(5, 0), (6, 0), (7, 0), (10, 0), (11, 0), (8, 11), (12, 11)] 5 [12, 8, 11, 10, 7, 6, 5, 4, 3, 2, 1, 0] [(2, .slice A n cap), (7, .pointer (pB b2)), (8, .pointer (pB b3)), (10, iq (n6 : Int)), (11, .slice (pB r22) n6 n6), (12, .slice (pB r23) n6 n6), (14, iq (i : Int)), (18, .slice A74 k76 cp77), (19, iq ((q : Nat) : Int)), (62, iq (i : Int)), (63, .bool true), (131, .bool true), (132, .slice A74 k76 cp77), (133, iq ((q : Nat) : Int)), (134, .pointer (some ⟨b2, 2, none⟩)), (135, iq W1q), (137, iq ((q : Nat) : Int)), (138, .pointer (some ⟨b2, 2, none⟩)), (139, iq W1q)] (by kernel_rfl) (pok_then (pok_blk (pok_then (pok_then (pok_blk (pok_blk (pok_then (pok_then (pok_blk (pok_then pok_body)))))))))) (by kernel_rfl) rfl rfl (by kernel_rfl) (by kernel_rfl) ?_
      refine sem_take 0 [] 9 4 136 (bopS .rem 3 (.tmp 133) (.tmp 135) (iq ((q : Nat) : Int)) (iq W1q)) (iq (((q : Nat) : Int).tmod W1q)) (by kernel_rfl) (pok_then (pok_blk (pok_then (pok_then (pok_blk (pok_blk (pok_then (pok_then (pok_blk (pok_then pok_body)))))))))) (by kernel_rfl) rfl (by kernel_rfl) (by kernel_rfl) (fun w hT => run_rem (by omega) w) ?_
      refine cont_recast 136 (iq (((q : Nat) : Int).tmod W1q)) (iq (((q : Nat) : Int) % W1q)) rfl (tmodI (by omega)) ?_
      refine sem_take 0 [] 13 3 140 (bopS .quo 3 (.tmp 137) (.tmp 139) (iq ((q : Nat) : Int)) (iq W1q)) (iq (IntKind.i64.wrap (((q : Nat) : Int).tdiv W1q))) (by kernel_rfl) (pok_then (pok_blk (pok_then (pok_then (pok_blk (pok_blk (pok_then (pok_then (pok_blk (pok_then pok_body)))))))))) (by kernel_rfl) rfl (by kernel_rfl) (by kernel_rfl) (fun w hT => run_quo (by omega) w) ?_
      refine cont_recast 140 (iq (IntKind.i64.wrap (((q : Nat) : Int).tdiv W1q))) (iq (((q : Nat) : Int) / W1q)) rfl (tdivI (by omega) (by omega) (by omega)) ?_
      refine drawn_one 14 2 rfl (by kernel_rfl) ?_
      refine call_pure (d := 141) (.bool (hasL LQ65 (((q : Nat) : Int) % W1q) (((q : Nat) : Int) / W1q))) (by kernel_rfl) (fun w hT => refHasL A74 g75 0 k76 cp77 LQ65 (((q : Nat) : Int) % W1q) (((q : Nat) : Int) / W1q) w (hT.viewRo (.cons (i := 0) rfl Vw.rowRd .nil) rfl) (by omega)) ?_
      refine drawn_next 0 [] (by kernel_rfl) ?_
      refine takes 0 [] [(15, 0), (16, 0)] 0 [16, 15, 14, 13, 9, 12, 8, 11, 10, 7, 6, 5, 4, 3, 2, 1, 0] [(2, .slice A n cap), (7, .pointer (pB b2)), (8, .pointer (pB b3)), (10, iq (n6 : Int)), (11, .slice (pB r22) n6 n6), (12, .slice (pB r23) n6 n6), (14, iq (i : Int)), (18, .slice A74 k76 cp77), (19, iq ((q : Nat) : Int)), (62, iq (i : Int)), (63, .bool true), (132, .slice A74 k76 cp77), (133, iq ((q : Nat) : Int)), (134, .pointer (some ⟨b2, 2, none⟩)), (135, iq W1q), (136, iq (((q : Nat) : Int) % W1q)), (137, iq ((q : Nat) : Int)), (138, .pointer (some ⟨b2, 2, none⟩)), (139, iq W1q), (140, iq (((q : Nat) : Int) / W1q)), (141, .bool (hasL LQ65 (((q : Nat) : Int) % W1q) (((q : Nat) : Int) / W1q))), (142, .bool (!(hasL LQ65 (((q : Nat) : Int) % W1q) (((q : Nat) : Int) / W1q)))), (143, .bool (!(hasL LQ65 (((q : Nat) : Int) % W1q) (((q : Nat) : Int) / W1q))))] (by kernel_rfl) (pok_then (pok_blk (pok_then (pok_then (pok_blk (pok_blk (pok_then (pok_then (pok_blk (pok_then pok_body)))))))))) (by kernel_rfl) rfl rfl (by kernel_rfl) (by kernel_rfl) ?_
      refine drawn_done (by kernel_rfl) ?_
      refine then_normal ?_
      refine cont_recast 143 (.bool (!(hasL LQ65 (((q : Nat) : Int) % W1q) (((q : Nat) : Int) / W1q)))) (.bool false) rfl (congrArg Value.bool (by rw [show (hasL LQ65 (((q : Nat) : Int) % W1q) (((q : Nat) : Int) / W1q)) = true from (hcb2 _ c84_)]; rfl)) ?_
      refine cont_recast 142 (.bool (!(hasL LQ65 (((q : Nat) : Int) % W1q) (((q : Nat) : Int) / W1q)))) (.bool false) rfl (congrArg Value.bool (by rw [show (hasL LQ65 (((q : Nat) : Int) % W1q) (((q : Nat) : Int) / W1q)) = true from (hcb2 _ c84_)]; rfl)) ?_
      refine cont_false rfl ?_
      refine cont_skip ?_
      refine blk_normal ?_
      refine then_normal ?_
      refine cont_region 3 rfl ?_
      refine bS [0, 0] 2 1 [(2, .slice A n cap), (7, .pointer (pB b2)), (8, .pointer (pB b3)), (10, iq (n6 : Int)), (11, .slice (pB r22) n6 n6), (12, .slice (pB r23) n6 n6), (14, iq (i : Int)), (18, .slice A74 k76 cp77), (62, iq (i : Int)), (63, .bool true), (126, iq (IntKind.i64.wrap (((q : Nat) : Int) + 1))), (132, .slice A74 k76 cp77), (133, iq ((q : Nat) : Int)), (134, .pointer (some ⟨b2, 2, none⟩)), (135, iq W1q), (136, iq (((q : Nat) : Int) % W1q)), (137, iq ((q : Nat) : Int)), (138, .pointer (some ⟨b2, 2, none⟩)), (139, iq W1q), (140, iq (((q : Nat) : Int) / W1q)), (141, .bool (hasL LQ65 (((q : Nat) : Int) % W1q) (((q : Nat) : Int) / W1q))), (142, .bool false)] ?_
      refine cont_recast 126 (iq (IntKind.i64.wrap (((q : Nat) : Int) + 1))) (iq (((q : Nat) : Int) + 1)) rfl (wrapI (by omega) (by omega)) ?_
      refine bS [0] 3 0 [(2, .slice A n cap), (7, .pointer (pB b2)), (8, .pointer (pB b3)), (10, iq (n6 : Int)), (11, .slice (pB r22) n6 n6), (12, .slice (pB r23) n6 n6), (14, iq (i : Int)), (18, .slice A74 k76 cp77), (19, iq (((q : Nat) : Int) + 1)), (62, iq (i : Int)), (63, .bool true), (132, .slice A74 k76 cp77), (133, iq ((q : Nat) : Int)), (134, .pointer (some ⟨b2, 2, none⟩)), (135, iq W1q), (136, iq (((q : Nat) : Int) % W1q)), (137, iq ((q : Nat) : Int)), (138, .pointer (some ⟨b2, 2, none⟩)), (139, iq W1q), (140, iq (((q : Nat) : Int) / W1q)), (141, .bool (hasL LQ65 (((q : Nat) : Int) % W1q) (((q : Nat) : Int) / W1q))), (142, .bool false)] ?_
      refine cont_done ?_
      refine then_normal ?_
      refine cont_again (q + 1) (show (q + 1) ≤ n6 from (by omega)) (show n6 - (q + 1) < n6 - q from by omega) (by kernel_rfl) (by kernel_rfl)
     refine takes 0 [] [(5, 0), (6, 0), (7, 0), (10, 0), (11, 0), (8, 0), (12, 0), (9, 0), (13, 0)] 3 [13, 9, 12, 8, 11, 10, 7, 6, 5, 4, 3, 2, 1, 0] [(2, .slice A n cap), (7, .pointer (pB b2)), (8, .pointer (pB b3)), (10, iq (n6 : Int)), (11, .slice (pB r22) n6 n6), (12, .slice (pB r23) n6 n6), (14, iq (i : Int)), (18, .slice A74 k76 cp77), (19, iq ((q : Nat) : Int)), (62, iq (i : Int)), (63, .bool true), (131, .bool false), (132, undef), (133, undef), (134, undef), (135, undef), (136, undef), (137, undef), (138, undef), (139, undef), (140, undef)] (by kernel_rfl) (pok_then (pok_blk (pok_then (pok_then (pok_blk (pok_blk (pok_then (pok_then (pok_blk (pok_then pok_body)))))))))) (by kernel_rfl) rfl rfl (by kernel_rfl) (by kernel_rfl) ?_
     refine drawn_one 14 2 rfl (by kernel_rfl) ?_
     refine one_step 0 [(2, .slice A n cap), (7, .pointer (pB b2)), (8, .pointer (pB b3)), (10, iq (n6 : Int)), (11, .slice (pB r22) n6 n6), (12, .slice (pB r23) n6 n6), (14, iq (i : Int)), (18, .slice A74 k76 cp77), (19, iq ((q : Nat) : Int)), (62, iq (i : Int)), (63, .bool true), (131, .bool false), (132, undef), (133, undef), (134, undef), (135, undef), (136, undef), (137, undef), (138, undef), (139, undef), (140, undef), (141, undef)] [.gen (rowE (A74) g75 k76 cp77 28 4 (rvals LQ65) true), .gen (rowE (A55q) gA56q k57q cp58q 28 4 (rvals LQ65) true), .gen (rowE (B59q) gB60q kB61q cB62q 28 4 (rvals LQ66) true), .gen (rdE (el.A1) el.g1 el.o1 el.m1 4 (rvals el.x1)), .gen (rowE (pB r23) r23 n6 n6 4 1 (bvals bF2) true), .gen (rowE (pB r22) r22 n6 n6 4 1 (bvals bB2) true), .cells b3 [.pointer (pB m4), .pointer (pB m17), .slice A55q k57q cp58q, .slice B59q kB61q cB62q, iq w0, iq w1, iq fr, iq 0] 98 true, .cells m4 [iq W1q, iq H1q, .slice (pB r5) n6 n6] 115 true, .gen (rowE (pB r5) r5 n6 n6 54 1 (ivals .u32 (List.replicate n6 0)) true), .cells m17 [iq W1q, iq H1q, .slice (pB r18) n19 n19] 115 true, .gen (rowE (pB r18) r18 n19 n19 54 1 (ivals .u32 (List.replicate n19 0)) true), .cells b2 [iq 0, iq 0, iq W1q, iq H1q] 28 true, .gen (rdE (A) g o n 7 (dvals Deed18.cells xs)), .gen (subE n (fun i_ => rdE ((dget xs i_).A1) (dget xs i_).g1 (dget xs i_).o1 (dget xs i_).m1 4 (rvals (dget xs i_).x1)))] (by kernel_rfl) (by kernel_rfl) ?_
     refine drawn_next 0 [] (by kernel_rfl) ?_
     refine takes 0 [] [(15, 0), (16, 0)] 0 [16, 15, 14, 13, 9, 12, 8, 11, 10, 7, 6, 5, 4, 3, 2, 1, 0] [(2, .slice A n cap), (7, .pointer (pB b2)), (8, .pointer (pB b3)), (10, iq (n6 : Int)), (11, .slice (pB r22) n6 n6), (12, .slice (pB r23) n6 n6), (14, iq (i : Int)), (18, .slice A74 k76 cp77), (19, iq ((q : Nat) : Int)), (62, iq (i : Int)), (63, .bool true), (132, undef), (133, undef), (134, undef), (135, undef), (136, undef), (137, undef), (138, undef), (139, undef), (140, undef), (141, undef), (142, undef), (143, .bool false)] (by kernel_rfl) (pok_then (pok_blk (pok_then (pok_then (pok_blk (pok_blk (pok_then (pok_then (pok_blk (pok_then pok_body)))))))))) (by kernel_rfl) rfl rfl (by kernel_rfl) (by kernel_rfl) ?_
     refine drawn_done (by kernel_rfl) ?_
     refine then_normal ?_
     refine cont_false rfl ?_
     refine cont_skip ?_
     refine blk_normal ?_
     refine then_normal ?_
     refine cont_region 3 rfl ?_
     refine bS [0, 0] 2 1 [(2, .slice A n cap), (7, .pointer (pB b2)), (8, .pointer (pB b3)), (10, iq (n6 : Int)), (11, .slice (pB r22) n6 n6), (12, .slice (pB r23) n6 n6), (14, iq (i : Int)), (18, .slice A74 k76 cp77), (62, iq (i : Int)), (63, .bool true), (126, iq (IntKind.i64.wrap (((q : Nat) : Int) + 1))), (132, undef), (133, undef), (134, undef), (135, undef), (136, undef), (137, undef), (138, undef), (139, undef), (140, undef), (141, undef), (142, undef)] ?_
     refine cont_recast 126 (iq (IntKind.i64.wrap (((q : Nat) : Int) + 1))) (iq (((q : Nat) : Int) + 1)) rfl (wrapI (by omega) (by omega)) ?_
     refine bS [0] 3 0 [(2, .slice A n cap), (7, .pointer (pB b2)), (8, .pointer (pB b3)), (10, iq (n6 : Int)), (11, .slice (pB r22) n6 n6), (12, .slice (pB r23) n6 n6), (14, iq (i : Int)), (18, .slice A74 k76 cp77), (19, iq (((q : Nat) : Int) + 1)), (62, iq (i : Int)), (63, .bool true), (132, undef), (133, undef), (134, undef), (135, undef), (136, undef), (137, undef), (138, undef), (139, undef), (140, undef), (141, undef), (142, undef)] ?_
     refine cont_done ?_
     refine then_normal ?_
     refine cont_again (q + 1) (show (q + 1) ≤ n6 from (by omega)) (show n6 - (q + 1) < n6 - q from by omega) (by kernel_rfl) (by kernel_rfl)
    replace c81_ := of_decide_eq_false c81_
    refine cont_false rfl ?_
    refine cont_exit ?_
    refine then_exit ?_
    refine then_exit ?_
    refine blk_exit ?_
    refine blk_normal ?_
    refine then_normal ?_
    refine cont_region 3 rfl ?_
    refine bS [0, 0] 2 1 [(2, .slice A n cap), (7, .pointer (pB b2)), (8, .pointer (pB b3)), (10, iq (n6 : Int)), (11, .slice (pB r22) n6 n6), (12, .slice (pB r23) n6 n6), (62, iq (i : Int)), (63, .bool true), (66, iq (IntKind.i64.wrap ((i : Int) + 1)))] ?_
    refine cont_recast 66 (iq (IntKind.i64.wrap ((i : Int) + 1))) (iq ((i : Int) + 1)) rfl (wrapI (by omega) (by omega)) ?_
    refine cont_forget 0 rfl ?_
    refine bS [0] 3 0 [(2, .slice A n cap), (7, .pointer (pB b2)), (8, .pointer (pB b3)), (10, iq (n6 : Int)), (11, .slice (pB r22) n6 n6), (12, .slice (pB r23) n6 n6), (14, iq ((i : Int) + 1)), (62, iq (i : Int)), (63, .bool true)] ?_
    refine cont_done ?_
    refine then_normal ?_
    refine cont_fact (F := (0 < n6 → (pB r22 : Option Addr) = pB r22) ∧ bB2.length = n6 ∧ n6 ≤ n6 ∧ n6 ≤ maxLen) (fun w hT => Row.factsB (hT.ok 4 _ rfl)) (fun hr86_ => ?_)
    obtain ⟨hr86_a, hr86_l, hr86_c, hr86_m⟩ := hr86_
    unfold maxLen at hr86_m
    refine cont_fact (F := (0 < n6 → (pB r23 : Option Addr) = pB r23) ∧ bF2.length = n6 ∧ n6 ≤ n6 ∧ n6 ≤ maxLen) (fun w hT => Row.factsB (hT.ok 3 _ rfl)) (fun hr87_ => ?_)
    obtain ⟨hr87_a, hr87_l, hr87_c, hr87_m⟩ := hr87_
    unfold maxLen at hr87_m
    refine cont_pick [3, 4, 5, 6, 7, 8, 9, 0, 1, 10, 11, 12] [.gen (rowE (pB r23) r23 n6 n6 4 1 (bvals bF2) true), .gen (rowE (pB r22) r22 n6 n6 4 1 (bvals bB2) true), .cells b3 [.pointer (pB m4), .pointer (pB m17), .slice A55q k57q cp58q, .slice B59q kB61q cB62q, iq w0, iq w1, iq fr, iq 0] 98 true, .cells m4 [iq W1q, iq H1q, .slice (pB r5) n6 n6] 115 true, .gen (rowE (pB r5) r5 n6 n6 54 1 (ivals .u32 (List.replicate n6 0)) true), .cells m17 [iq W1q, iq H1q, .slice (pB r18) n19 n19] 115 true, .gen (rowE (pB r18) r18 n19 n19 54 1 (ivals .u32 (List.replicate n19 0)) true), .gen (rowE (A55q) gA56q k57q cp58q 28 4 (rvals LQ65) true), .gen (rowE (B59q) gB60q kB61q cB62q 28 4 (rvals LQ66) true), .cells b2 [iq 0, iq 0, iq W1q, iq H1q] 28 true, .gen (rdE (A) g o n 7 (dvals Deed18.cells xs)), .gen (subE n (fun i_ => rdE ((dget xs i_).A1) (dget xs i_).g1 (dget xs i_).o1 (dget xs i_).m1 4 (rvals (dget xs i_).x1)))] (by decide) rfl rfl ?_
    refine cont_norm [(2, .slice A n cap), (7, .pointer (pB b2)), (8, .pointer (pB b3)), (10, iq (n6 : Int)), (11, .slice (pB r22) n6 n6), (12, .slice (pB r23) n6 n6), (14, iq ((i : Int) + 1)), (62, iq (i : Int)), (63, .bool true)] _ (by kernel_rfl) rfl ?_
    refine cont_again ((i + 1 : Nat), 0, w0, w1, fr, LQ65, A55q, gA56q, k57q, cp58q, LQ66, B59q, gB60q, kB61q, cB62q, bB2, bF2) (show ((i + 1 : Nat)) ≤ 25 ∧ ((i + 1 : Nat)) ≤ n ∧ (0) ≤ 1 ∧ 0 ≤ (fr) ∧ (fr) ≤ (((i + 1 : Nat)) : Int) ∧ 0 ≤ (w0) ∧ (w0) ≤ (fr) ∧ 0 ≤ (w1) ∧ (w1) ≤ (fr) ∧ (k57q) ≤ 64 ∧ (kB61q) ≤ 64 ∧ Cov W1q (bB2) (if (0) = 0 then (LQ65) else (LQ66)) ∧ Cov W1q (bF2) (if (0) = 0 then (LQ66) else (LQ65)) from ⟨by omega, by omega, by omega, by omega, by omega, by omega, by omega, by omega, by omega, by omega, by omega, hcb2, hcf2⟩) (show 40 - ((i + 1 : Nat)) < 40 - i from by omega) (by kernel_rfl) (by kernel_rfl)
   refine cont_recast 63 (.bool (decide ((i : Int) < 25))) (.bool false) rfl (congrArg Value.bool c38_) ?_
   replace c38_ := of_decide_eq_false c38_
   refine cont_false rfl ?_
   refine cont_exit ?_
   refine then_exit ?_
   refine then_exit ?_
   refine blk_exit ?_
   refine then_normal ?_
   refine cont_seq ?_
   refine cont_region 2 rfl ?_
   refine pl_step 1 1 rfl rfl ?_
   refine call_pure (d := 144) (.bool true) (by kernel_rfl) (fun w hT => lives18  w) ?_
   refine bS [0] 2 0 [(6, .bool true)] ?_
   refine cont_forget 0 rfl ?_
   refine cont_forget 0 rfl ?_
   refine cont_forget 0 rfl ?_
   refine cont_forget 0 rfl ?_
   refine cont_forget 1 rfl ?_
   refine cont_forget 2 rfl ?_
   refine cont_forget 2 rfl ?_
   refine cont_forget 2 rfl ?_
   refine cont_done ?_
   refine then_normal ?_
   refine cont_ret ?_
   refine ret_one (.inl rfl) rfl 0 (.bool true) (by kernel_rfl) (by kernel_rfl) (fun w hT => ?_)
   exact ⟨rfl, hT.post rfl⟩
  replace c37_ := of_decide_eq_false c37_
  refine bS [0, 0, 0] 8 0 [(2, .slice A n cap), (7, .pointer (pB b2)), (8, .pointer (pB b3)), (10, iq (n6 : Int)), (11, .slice (pB r22) n6 n6), (12, .slice (pB r23) n6 n6), (14, iq (i : Int)), (62, undef), (63, undef), (64, .bool false)] ?_
  refine cont_done ?_
  refine then_normal ?_
  refine cont_false rfl ?_
  refine cont_exit ?_
  refine then_exit ?_
  refine then_exit ?_
  refine blk_exit ?_
  refine then_normal ?_
  refine cont_seq ?_
  refine cont_region 2 rfl ?_
  refine pl_step 1 1 rfl rfl ?_
  refine call_pure (d := 144) (.bool true) (by kernel_rfl) (fun w hT => lives18  w) ?_
  refine bS [0] 2 0 [(6, .bool true)] ?_
  refine cont_forget 0 rfl ?_
  refine cont_forget 0 rfl ?_
  refine cont_forget 0 rfl ?_
  refine cont_forget 0 rfl ?_
  refine cont_forget 1 rfl ?_
  refine cont_forget 2 rfl ?_
  refine cont_forget 2 rfl ?_
  refine cont_forget 2 rfl ?_
  refine cont_done ?_
  refine then_normal ?_
  refine cont_ret ?_
  refine ret_one (.inl rfl) rfl 0 (.bool true) (by kernel_rfl) (by kernel_rfl) (fun w hT => ?_)
  exact ⟨rfl, hT.post rfl⟩
 ·
  refine cont_norm [(2, .slice A n cap), (7, .pointer (pB b2)), (8, .pointer (pB b3)), (10, iq (n6 : Int)), (11, .slice (pB r22) n6 n6), (12, .slice (pB r23) n6 n6), (14, iq (i : Int))] _ (by kernel_rfl) rfl ?_
  replace hcb : Cov W1q bB xs1 := hcb
  replace hcf : Cov W1q bF xs0 := hcf
  refine cont_fact (F := (0 < kx → (Ax : Option Addr) = pB gx) ∧ xs0.length = kx ∧ kx ≤ cx ∧ cx ≤ maxLen) (fun w hT => Row.factsR (hT.ok 7 _ rfl)) (fun hr88_ => ?_)
  obtain ⟨hr88_a, hr88_l, hr88_c, hr88_m⟩ := hr88_
  unfold maxLen at hr88_m
  refine cont_fact (F := (0 < ky → (Ay : Option Addr) = pB gy) ∧ xs1.length = ky ∧ ky ≤ cy ∧ cy ≤ maxLen) (fun w hT => Row.factsR (hT.ok 8 _ rfl)) (fun hr89_ => ?_)
  obtain ⟨hr89_a, hr89_l, hr89_c, hr89_m⟩ := hr89_
  unfold maxLen at hr89_m
  refine cont_fact (F := (0 < n6 → (pB r22 : Option Addr) = pB r22) ∧ bB.length = n6 ∧ n6 ≤ n6 ∧ n6 ≤ maxLen) (fun w hT => Row.factsB (hT.ok 1 _ rfl)) (fun hr90_ => ?_)
  obtain ⟨hr90_a, hr90_l, hr90_c, hr90_m⟩ := hr90_
  unfold maxLen at hr90_m
  refine cont_fact (F := (0 < n6 → (pB r23 : Option Addr) = pB r23) ∧ bF.length = n6 ∧ n6 ≤ n6 ∧ n6 ≤ maxLen) (fun w hT => Row.factsB (hT.ok 0 _ rfl)) (fun hr91_ => ?_)
  obtain ⟨hr91_a, hr91_l, hr91_c, hr91_m⟩ := hr91_
  unfold maxLen at hr91_m
  refine cont_seq ?_
  refine cont_seq ?_
  refine cont_region 8 rfl ?_
  refine bS [0, 0, 0, 0, 0] 5 3 [(2, .slice A n cap), (7, .pointer (pB b2)), (8, .pointer (pB b3)), (10, iq (n6 : Int)), (11, .slice (pB r22) n6 n6), (12, .slice (pB r23) n6 n6), (14, iq (i : Int)), (61, .bool (decide ((i : Int) < (n : Int))))] ?_
  refine cont_split 61 (decide ((i : Int) < (n : Int))) rfl (fun c92_ => ?_) (fun c92_ => ?_)
  ·
   replace c92_ := of_decide_eq_true c92_
   refine bS [0, 0, 0] 8 0 [(2, .slice A n cap), (7, .pointer (pB b2)), (8, .pointer (pB b3)), (10, iq (n6 : Int)), (11, .slice (pB r22) n6 n6), (12, .slice (pB r23) n6 n6), (14, iq (i : Int)), (62, iq (i : Int)), (63, .bool (decide ((i : Int) < 25))), (64, .bool (decide ((i : Int) < 25)))] ?_
   refine cont_done ?_
   refine then_normal ?_
   refine cont_split 64 (decide ((i : Int) < 25)) rfl (fun c93_ => ?_) (fun c93_ => ?_)
   ·
    refine cont_recast 63 (.bool (decide ((i : Int) < 25))) (.bool true) rfl (congrArg Value.bool c93_) ?_
    replace c93_ := of_decide_eq_true c93_
    refine cont_true rfl ?_
    refine cont_skip ?_
    refine then_normal ?_
    refine cont_seq ?_
    refine cont_block ?_
    refine cont_seq ?_
    refine cont_seq ?_
    refine cont_region 6 rfl ?_
    refine cont_sub 11 i n (fun i_ => rdE ((dget xs i_).A1) (dget xs i_).g1 (dget xs i_).o1 (dget xs i_).m1 4 (rvals (dget xs i_).x1)) rfl (by omega) rfl rfl ?_
    refine cont_norm [(2, .slice A n cap), (7, .pointer (pB b2)), (8, .pointer (pB b3)), (10, iq (n6 : Int)), (11, .slice (pB r22) n6 n6), (12, .slice (pB r23) n6 n6), (14, iq (i : Int)), (62, iq (i : Int)), (63, .bool true), (64, .bool true)] _ (by kernel_rfl) rfl ?_
    generalize hel : dget xs i = el
    have helg := hge i (by omega)
    rw [hel] at helg
    refine bS [0, 0] 2 4 [(2, .slice A n cap), (7, .pointer (pB b2)), (8, .pointer (pB b3)), (10, iq (n6 : Int)), (11, .slice (pB r22) n6 n6), (12, .slice (pB r23) n6 n6), (14, iq (i : Int)), (62, iq (i : Int)), (63, .bool true), (67, .slice A n cap), (68, iq (i : Int))] ?_
    refine pl_step 3 3 rfl rfl ?_
    refine cont_recast 67 (.slice A n cap) (.slice (some ⟨g, o, none⟩) n cap) rfl (by rw [hra (by omega)]) ?_
    refine sem_step 69 (Instr.indexAt 59 (.slice (some ⟨g, o, none⟩) n cap) (iq (i : Int))) (.pointer (some ⟨g, o + i * 7, none⟩)) (by kernel_rfl) (fun w hT => run_indexAt (e := 64) (sz := 7) _ (by kernel_rfl) (by kernel_rfl) (by omega) (by omega) (by omega) w) ?_
    refine bS [0] 4 2 [(2, .slice A n cap), (7, .pointer (pB b2)), (8, .pointer (pB b3)), (10, iq (n6 : Int)), (11, .slice (pB r22) n6 n6), (12, .slice (pB r23) n6 n6), (14, iq (i : Int)), (62, iq (i : Int)), (63, .bool true), (70, .pointer (some ⟨g, o + i * 7, none⟩))] ?_
    refine pl_step 5 1 rfl rfl ?_
    refine sem_step 71 (Instr.loadAt 3 (.pointer (some ⟨g, o + i * 7, none⟩))) (iq el.x0) (by kernel_rfl) (fun w hT => run_load1 (by kernel_rfl) (Rd.dcell1 Deed18.size (hT.ok 11 _ rfl) (i := i) (by omega) 0 (by rw [hel]; rfl))) ?_
    refine bS [0] 6 0 [(2, .slice A n cap), (7, .pointer (pB b2)), (8, .pointer (pB b3)), (10, iq (n6 : Int)), (11, .slice (pB r22) n6 n6), (12, .slice (pB r23) n6 n6), (14, iq (i : Int)), (62, iq (i : Int)), (63, .bool true), (72, .bool (el.x0 == 2))] ?_
    refine cont_done ?_
    refine then_normal ?_
    refine cont_split 72 (el.x0 == 2) rfl (fun c94_ => ?_) (fun c94_ => ?_)
    ·
     replace c94_ := eq_of_beqt c94_
     refine cont_true rfl ?_
     refine cont_seq ?_
     refine cont_region 2 rfl ?_
     refine bS [0] 1 1 [(2, .slice A n cap), (7, .pointer (pB b2)), (8, .pointer (pB b3)), (10, iq (n6 : Int)), (11, .slice (pB r22) n6 n6), (12, .slice (pB r23) n6 n6), (14, iq (i : Int)), (62, iq (i : Int)), (63, .bool true), (73, .pointer (pB b3))] ?_
     refine pl_step 2 0 rfl rfl ?_
     refine call_gen (d := 74) (α := Unit) (fun _ => iq (fr + 1)) (fun _ => [.gen (rdE (el.A1) el.g1 el.o1 el.m1 4 (rvals el.x1)), .gen (rowE (pB r23) r23 n6 n6 4 1 (bvals bF) true), .gen (rowE (pB r22) r22 n6 n6 4 1 (bvals bB) true), .cells b3 [.pointer (pB m4), .pointer (pB m17), .slice Ax kx cx, .slice none 0 0, iq w0, iq (fr + 1), iq (fr + 1), iq 0] 98 true, .cells m4 [iq W1q, iq H1q, .slice (pB r5) n6 n6] 115 true, .gen (rowE (pB r5) r5 n6 n6 54 1 (ivals .u32 (List.replicate n6 0)) true), .cells m17 [iq W1q, iq H1q, .slice (pB r18) n19 n19] 115 true, .gen (rowE (pB r18) r18 n19 n19 54 1 (ivals .u32 (List.replicate n19 0)) true), .gen (rowE (Ax) gx kx cx 28 4 (rvals xs0) true), .gen (rowE (Ay) gy ky cy 28 4 (rvals xs1) true), .cells b2 [iq 0, iq 0, iq W1q, iq H1q] 28 true, .gen (rdE (A) g o n 7 (dvals Deed18.cells xs)), .gen (subE n (fun i_ => rdE ((dget xs i_).A1) (dget xs i_).g1 (dget xs i_).o1 (dget xs i_).m1 4 (rvals (dget xs i_).x1)))]) (fun _ => True) (by kernel_rfl) (fun w hT => (outFlip1 b3 m4 m17 Ax Ay kx cx ky cy w0 w1 fr w (hT.view (.cons (i := 3) rfl Vw.rw .nil) (by decide)) (by omega)).mono fun e w' ⟨he_, ht_⟩ => ⟨(), he_, trivial, hT.merge (N := []) (s := [3]) ht_ (.cons (i := 3) rfl Mg.cells .nil) (by decide) (fun i e h => by simp at h)⟩) (fun _ _ => ?_)
     refine cont_done ?_
     refine then_normal ?_
     refine cont_seq ?_
     refine cont_seq ?_
     refine cont_region 1 rfl ?_
     refine bS [0] 1 0 [(2, .slice A n cap), (7, .pointer (pB b2)), (8, .pointer (pB b3)), (10, iq (n6 : Int)), (11, .slice (pB r22) n6 n6), (12, .slice (pB r23) n6 n6), (14, iq (i : Int)), (15, iq 0), (62, iq (i : Int)), (63, .bool true)] ?_
     refine cont_forget 9 rfl ?_
     refine cont_done ?_
     refine then_normal ?_
     refine cont_block ?_
     refine cont_loop (α := Nat × List Bool × List Bool) (fun x_ : Nat × List Bool × List Bool => x_.1 ≤ n6 ∧ FlI W1q xs0 x_.1 x_.2.1 x_.2.2) (fun x_ : Nat × List Bool × List Bool => [(2, .slice A n cap), (7, .pointer (pB b2)), (8, .pointer (pB b3)), (10, iq (n6 : Int)), (11, .slice (pB r22) n6 n6), (12, .slice (pB r23) n6 n6), (14, iq (i : Int)), (15, iq ((x_.1 : Nat) : Int)), (62, iq (i : Int)), (63, .bool true)]) (fun x_ : Nat × List Bool × List Bool => [.gen (rdE (el.A1) el.g1 el.o1 el.m1 4 (rvals el.x1)), .gen (rowE (pB r23) r23 n6 n6 4 1 (bvals x_.2.2) true), .gen (rowE (pB r22) r22 n6 n6 4 1 (bvals x_.2.1) true), .cells b3 [.pointer (pB m4), .pointer (pB m17), .slice Ax kx cx, .slice none 0 0, iq w0, iq (fr + 1), iq (fr + 1), iq 0] 98 true, .cells m4 [iq W1q, iq H1q, .slice (pB r5) n6 n6] 115 true, .gen (rowE (pB r5) r5 n6 n6 54 1 (ivals .u32 (List.replicate n6 0)) true), .cells m17 [iq W1q, iq H1q, .slice (pB r18) n19 n19] 115 true, .gen (rowE (pB r18) r18 n19 n19 54 1 (ivals .u32 (List.replicate n19 0)) true), .gen (rowE (Ax) gx kx cx 28 4 (rvals xs0) true), .cells b2 [iq 0, iq 0, iq W1q, iq H1q] 28 true, .gen (rdE (A) g o n 7 (dvals Deed18.cells xs)), .gen (subE n (fun i_ => rdE ((dget xs i_).A1) (dget xs i_).g1 (dget xs i_).o1 (dget xs i_).m1 4 (rvals (dget xs i_).x1)))]) (fun x_ : Nat × List Bool × List Bool => n6 - x_.1) (0, bB, bF) (show (0) ≤ n6 ∧ FlI W1q xs0 (0) (bB) (bF) from ⟨by omega, FlI.nil hcf⟩) (by kernel_rfl) (by kernel_rfl) ?_
     rintro ⟨k, bB2, bF2⟩ hinv95_
     replace hinv95_ : k ≤ n6 ∧ FlI W1q xs0 k bB2 bF2 := hinv95_
     refine cont_norm [(2, .slice A n cap), (7, .pointer (pB b2)), (8, .pointer (pB b3)), (10, iq (n6 : Int)), (11, .slice (pB r22) n6 n6), (12, .slice (pB r23) n6 n6), (14, iq (i : Int)), (15, iq ((k : Nat) : Int)), (62, iq (i : Int)), (63, .bool true)] _ (by kernel_rfl) rfl ?_
     obtain ⟨hk, hfl⟩ := hinv95_
     refine cont_seq ?_
     refine cont_seq ?_
     refine cont_region 3 rfl ?_
     refine bS [0, 0, 0] 3 0 [(2, .slice A n cap), (7, .pointer (pB b2)), (8, .pointer (pB b3)), (10, iq (n6 : Int)), (11, .slice (pB r22) n6 n6), (12, .slice (pB r23) n6 n6), (14, iq (i : Int)), (15, iq ((k : Nat) : Int)), (62, iq (i : Int)), (63, .bool true), (77, .bool (decide (((k : Nat) : Int) < (n6 : Int))))] ?_
     refine cont_done ?_
     refine then_normal ?_
     refine cont_split 77 (decide (((k : Nat) : Int) < (n6 : Int))) rfl (fun c96_ => ?_) (fun c96_ => ?_)
     ·
      replace c96_ := of_decide_eq_true c96_
      refine cont_true rfl ?_
      refine cont_skip ?_
      refine then_normal ?_
      refine cont_seq ?_
      refine cont_block ?_
      refine cont_seq ?_
      refine cont_region 8 rfl ?_
      refine cont_fact (F := (0 < n6 → (pB r22 : Option Addr) = pB r22) ∧ bB2.length = n6 ∧ n6 ≤ n6 ∧ n6 ≤ maxLen) (fun w hT => Row.factsB (hT.ok 2 _ rfl)) (fun hr97_ => ?_)
      obtain ⟨hr97_a, hr97_l, hr97_c, hr97_m⟩ := hr97_
      unfold maxLen at hr97_m
      refine cont_fact (F := (0 < n6 → (pB r23 : Option Addr) = pB r23) ∧ bF2.length = n6 ∧ n6 ≤ n6 ∧ n6 ≤ maxLen) (fun w hT => Row.factsB (hT.ok 1 _ rfl)) (fun hr98_ => ?_)
      obtain ⟨hr98_a, hr98_l, hr98_c, hr98_m⟩ := hr98_
      unfold maxLen at hr98_m
      refine bS [0, 0, 0, 0] 4 4 [(2, .slice A n cap), (7, .pointer (pB b2)), (8, .pointer (pB b3)), (10, iq (n6 : Int)), (11, .slice (pB r22) n6 n6), (12, .slice (pB r23) n6 n6), (14, iq (i : Int)), (15, iq ((k : Nat) : Int)), (62, iq (i : Int)), (63, .bool true), (80, .slice (pB r22) n6 n6), (81, iq ((k : Nat) : Int)), (82, .slice (pB r23) n6 n6), (83, iq ((k : Nat) : Int))] ?_
      refine pl_step 5 3 rfl rfl ?_
      refine sem_step 84 (Instr.indexAt 61 (.slice (pB r23) n6 n6) (iq ((k : Nat) : Int))) (.pointer (some ⟨r23, (k : Nat), none⟩)) (by kernel_rfl) (fun w hT => run_indexAt (e := 4) (sz := 1) _ (by kernel_rfl) (by kernel_rfl) (by omega) (by omega) (by omega) w) ?_
      refine pl_step 6 2 rfl rfl ?_
      refine sem_step 85 (Instr.loadAt 4 (.pointer (some ⟨r23, (k : Nat), none⟩))) (.bool (bF2.getD (k : Nat) false)) (by kernel_rfl) (fun w hT => run_load1 (by kernel_rfl) (Row.cell (hT.ok 1 _ rfl) ((k : Nat)) _ (bvals_get (xs := bF2) (by omega)))) ?_
      refine pl_step 7 1 rfl rfl ?_
      refine sem_step 86 (Instr.indexAt 61 (.slice (pB r22) n6 n6) (iq ((k : Nat) : Int))) (.pointer (some ⟨r22, (k : Nat), none⟩)) (by kernel_rfl) (fun w hT => run_indexAt (e := 4) (sz := 1) _ (by kernel_rfl) (by kernel_rfl) (by omega) (by omega) (by omega) w) ?_
      refine pl_step 8 0 rfl rfl ?_
      refine sem_stepU (Instr.storeAt 4 (.pointer (some ⟨r22, (k : Nat), none⟩)) (.bool (bF2.getD (k : Nat) false))) (fun _ => [.gen (rdE (el.A1) el.g1 el.o1 el.m1 4 (rvals el.x1)), .gen (rowE (pB r23) r23 n6 n6 4 1 (bvals bF2) true), .gen (rowE (pB r22) r22 n6 n6 4 1 (bvals (bB2.set (k : Nat) (bF2.getD (k : Nat) false))) true), .cells b3 [.pointer (pB m4), .pointer (pB m17), .slice Ax kx cx, .slice none 0 0, iq w0, iq (fr + 1), iq (fr + 1), iq 0] 98 true, .cells m4 [iq W1q, iq H1q, .slice (pB r5) n6 n6] 115 true, .gen (rowE (pB r5) r5 n6 n6 54 1 (ivals .u32 (List.replicate n6 0)) true), .cells m17 [iq W1q, iq H1q, .slice (pB r18) n19 n19] 115 true, .gen (rowE (pB r18) r18 n19 n19 54 1 (ivals .u32 (List.replicate n19 0)) true), .gen (rowE (Ax) gx kx cx 28 4 (rvals xs0) true), .cells b2 [iq 0, iq 0, iq W1q, iq H1q] 28 true, .gen (rdE (A) g o n 7 (dvals Deed18.cells xs)), .gen (subE n (fun i_ => rdE ((dget xs i_).A1) (dget xs i_).g1 (dget xs i_).o1 (dget xs i_).m1 4 (rvals (dget xs i_).x1)))]) (fun _ => True) (by kernel_rfl) (fun w hT => store_rowB (xs := bB2) hT (i := 2) rfl (by kernel_rfl) (by omega)) (fun _ _ => ?_)
      refine cont_done ?_
      refine then_normal ?_
      refine cont_region 4 rfl ?_
      refine bS [0, 0] 2 2 [(2, .slice A n cap), (7, .pointer (pB b2)), (8, .pointer (pB b3)), (10, iq (n6 : Int)), (11, .slice (pB r22) n6 n6), (12, .slice (pB r23) n6 n6), (14, iq (i : Int)), (15, iq ((k : Nat) : Int)), (62, iq (i : Int)), (63, .bool true), (87, .slice (pB r23) n6 n6), (88, iq ((k : Nat) : Int))] ?_
      refine pl_step 3 1 rfl rfl ?_
      refine sem_step 89 (Instr.indexAt 61 (.slice (pB r23) n6 n6) (iq ((k : Nat) : Int))) (.pointer (some ⟨r23, (k : Nat), none⟩)) (by kernel_rfl) (fun w hT => run_indexAt (e := 4) (sz := 1) _ (by kernel_rfl) (by kernel_rfl) (by omega) (by omega) (by omega) w) ?_
      refine pl_step 4 0 rfl rfl ?_
      refine sem_stepU (Instr.storeAt 4 (.pointer (some ⟨r23, (k : Nat), none⟩)) (.bool false)) (fun _ => [.gen (rdE (el.A1) el.g1 el.o1 el.m1 4 (rvals el.x1)), .gen (rowE (pB r23) r23 n6 n6 4 1 (bvals (bF2.set (k : Nat) false)) true), .gen (rowE (pB r22) r22 n6 n6 4 1 (bvals (bB2.set (k : Nat) (bF2.getD (k : Nat) false))) true), .cells b3 [.pointer (pB m4), .pointer (pB m17), .slice Ax kx cx, .slice none 0 0, iq w0, iq (fr + 1), iq (fr + 1), iq 0] 98 true, .cells m4 [iq W1q, iq H1q, .slice (pB r5) n6 n6] 115 true, .gen (rowE (pB r5) r5 n6 n6 54 1 (ivals .u32 (List.replicate n6 0)) true), .cells m17 [iq W1q, iq H1q, .slice (pB r18) n19 n19] 115 true, .gen (rowE (pB r18) r18 n19 n19 54 1 (ivals .u32 (List.replicate n19 0)) true), .gen (rowE (Ax) gx kx cx 28 4 (rvals xs0) true), .cells b2 [iq 0, iq 0, iq W1q, iq H1q] 28 true, .gen (rdE (A) g o n 7 (dvals Deed18.cells xs)), .gen (subE n (fun i_ => rdE ((dget xs i_).A1) (dget xs i_).g1 (dget xs i_).o1 (dget xs i_).m1 4 (rvals (dget xs i_).x1)))]) (fun _ => True) (by kernel_rfl) (fun w hT => store_rowB (xs := bF2) hT (i := 1) rfl (by kernel_rfl) (by omega)) (fun _ _ => ?_)
      refine cont_done ?_
      refine blk_normal ?_
      refine then_normal ?_
      refine cont_region 3 rfl ?_
      refine bS [0, 0] 2 1 [(2, .slice A n cap), (7, .pointer (pB b2)), (8, .pointer (pB b3)), (10, iq (n6 : Int)), (11, .slice (pB r22) n6 n6), (12, .slice (pB r23) n6 n6), (14, iq (i : Int)), (62, iq (i : Int)), (63, .bool true), (79, iq (IntKind.i64.wrap (((k : Nat) : Int) + 1)))] ?_
      refine cont_recast 79 (iq (IntKind.i64.wrap (((k : Nat) : Int) + 1))) (iq (((k : Nat) : Int) + 1)) rfl (wrapI (by omega) (by omega)) ?_
      refine bS [0] 3 0 [(2, .slice A n cap), (7, .pointer (pB b2)), (8, .pointer (pB b3)), (10, iq (n6 : Int)), (11, .slice (pB r22) n6 n6), (12, .slice (pB r23) n6 n6), (14, iq (i : Int)), (15, iq (((k : Nat) : Int) + 1)), (62, iq (i : Int)), (63, .bool true)] ?_
      refine cont_done ?_
      refine then_normal ?_
      refine cont_again (k + 1, bB2.set (k : Nat) (bF2.getD (k : Nat) false), bF2.set (k : Nat) false) (show (k + 1) ≤ n6 ∧ FlI W1q xs0 (k + 1) (bB2.set (k : Nat) (bF2.getD (k : Nat) false)) (bF2.set (k : Nat) false) from ⟨by omega, hfl.step⟩) (show n6 - (k + 1) < n6 - k from by omega) (by kernel_rfl) (by kernel_rfl)
     replace c96_ := of_decide_eq_false c96_
     refine cont_false rfl ?_
     refine cont_exit ?_
     refine then_exit ?_
     refine then_exit ?_
     refine blk_exit ?_
     refine then_normal ?_
     refine cont_exit ?_
     refine then_exit ?_
     refine blk_exit ?_
     refine then_normal ?_
     refine cont_region 3 rfl ?_
     refine bS [0, 0] 2 1 [(2, .slice A n cap), (7, .pointer (pB b2)), (8, .pointer (pB b3)), (10, iq (n6 : Int)), (11, .slice (pB r22) n6 n6), (12, .slice (pB r23) n6 n6), (62, iq (i : Int)), (63, .bool true), (66, iq (IntKind.i64.wrap ((i : Int) + 1)))] ?_
     refine cont_recast 66 (iq (IntKind.i64.wrap ((i : Int) + 1))) (iq ((i : Int) + 1)) rfl (wrapI (by omega) (by omega)) ?_
     refine bS [0] 3 0 [(2, .slice A n cap), (7, .pointer (pB b2)), (8, .pointer (pB b3)), (10, iq (n6 : Int)), (11, .slice (pB r22) n6 n6), (12, .slice (pB r23) n6 n6), (14, iq ((i : Int) + 1)), (62, iq (i : Int)), (63, .bool true)] ?_
     refine cont_done ?_
     refine then_normal ?_
     refine cont_fact (F := (0 < n6 → (pB r22 : Option Addr) = pB r22) ∧ bB2.length = n6 ∧ n6 ≤ n6 ∧ n6 ≤ maxLen) (fun w hT => Row.factsB (hT.ok 2 _ rfl)) (fun hr99_ => ?_)
     obtain ⟨hr99_a, hr99_l, hr99_c, hr99_m⟩ := hr99_
     unfold maxLen at hr99_m
     refine cont_fact (F := (0 < n6 → (pB r23 : Option Addr) = pB r23) ∧ bF2.length = n6 ∧ n6 ≤ n6 ∧ n6 ≤ maxLen) (fun w hT => Row.factsB (hT.ok 1 _ rfl)) (fun hr100_ => ?_)
     obtain ⟨hr100_a, hr100_l, hr100_c, hr100_m⟩ := hr100_
     unfold maxLen at hr100_m
     refine cont_nilrow 28 4 ?_
     refine cont_norm [(2, .slice A n cap), (7, .pointer (pB b2)), (8, .pointer (pB b3)), (10, iq (n6 : Int)), (11, .slice (pB r22) n6 n6), (12, .slice (pB r23) n6 n6), (14, iq ((i : Int) + 1)), (62, iq (i : Int)), (63, .bool true)] _ (by kernel_rfl) rfl ?_
     refine cont_pick [2, 3, 4, 5, 6, 7, 8, 9, 0, 10, 11, 12] [.gen (rowE (pB r23) r23 n6 n6 4 1 (bvals bF2) true), .gen (rowE (pB r22) r22 n6 n6 4 1 (bvals bB2) true), .cells b3 [.pointer (pB m4), .pointer (pB m17), .slice Ax kx cx, .slice none 0 0, iq w0, iq (fr + 1), iq (fr + 1), iq 0] 98 true, .cells m4 [iq W1q, iq H1q, .slice (pB r5) n6 n6] 115 true, .gen (rowE (pB r5) r5 n6 n6 54 1 (ivals .u32 (List.replicate n6 0)) true), .cells m17 [iq W1q, iq H1q, .slice (pB r18) n19 n19] 115 true, .gen (rowE (pB r18) r18 n19 n19 54 1 (ivals .u32 (List.replicate n19 0)) true), .gen (rowE (Ax) gx kx cx 28 4 (rvals xs0) true), .gen (rowE (none) 0 0 0 28 4 (rvals []) true), .cells b2 [iq 0, iq 0, iq W1q, iq H1q] 28 true, .gen (rdE (A) g o n 7 (dvals Deed18.cells xs)), .gen (subE n (fun i_ => rdE ((dget xs i_).A1) (dget xs i_).g1 (dget xs i_).o1 (dget xs i_).m1 4 (rvals (dget xs i_).x1)))] (by decide) rfl rfl ?_
     refine cont_norm [(2, .slice A n cap), (7, .pointer (pB b2)), (8, .pointer (pB b3)), (10, iq (n6 : Int)), (11, .slice (pB r22) n6 n6), (12, .slice (pB r23) n6 n6), (14, iq ((i : Int) + 1)), (62, iq (i : Int)), (63, .bool true)] _ (by kernel_rfl) rfl ?_
     refine cont_again ((i + 1 : Nat), 0, w0, fr + 1, fr + 1, xs0, Ax, gx, kx, cx, ([] : List Rect), none, 0, 0, 0, bB2, bF2) (show ((i + 1 : Nat)) ≤ 25 ∧ ((i + 1 : Nat)) ≤ n ∧ (0) ≤ 1 ∧ 0 ≤ (fr + 1) ∧ (fr + 1) ≤ (((i + 1 : Nat)) : Int) ∧ 0 ≤ (w0) ∧ (w0) ≤ (fr + 1) ∧ 0 ≤ (fr + 1) ∧ (fr + 1) ≤ (fr + 1) ∧ (kx) ≤ 64 ∧ (0) ≤ 64 ∧ Cov W1q (bB2) (if (0) = 0 then (xs0) else (([] : List Rect))) ∧ Cov W1q (bF2) (if (0) = 0 then (([] : List Rect)) else (xs0)) from ⟨by omega, by omega, by omega, by omega, by omega, by omega, by omega, by omega, by omega, by omega, by omega, (FlI.back (n := n6) (by rw [show n6 = k by omega]; exact hfl) (by omega)), (FlI.front (n := n6) (by rw [show n6 = k by omega]; exact hfl) (by omega))⟩) (show 40 - ((i + 1 : Nat)) < 40 - i from by omega) (by kernel_rfl) (by kernel_rfl)
    replace c94_ := ne_of_beqf c94_
    refine cont_false rfl ?_
    refine cont_skip ?_
    refine then_normal ?_
    refine cont_seq ?_
    refine cont_region 7 rfl ?_
    refine bS [0, 0] 2 5 [(2, .slice A n cap), (7, .pointer (pB b2)), (8, .pointer (pB b3)), (10, iq (n6 : Int)), (11, .slice (pB r22) n6 n6), (12, .slice (pB r23) n6 n6), (14, iq (i : Int)), (62, iq (i : Int)), (63, .bool true), (90, .slice A n cap), (91, iq (i : Int))] ?_
    refine pl_step 3 4 rfl rfl ?_
    refine cont_recast 90 (.slice A n cap) (.slice (some ⟨g, o, none⟩) n cap) rfl (by rw [hra (by omega)]) ?_
    refine sem_step 92 (Instr.indexAt 59 (.slice (some ⟨g, o, none⟩) n cap) (iq (i : Int))) (.pointer (some ⟨g, o + i * 7, none⟩)) (by kernel_rfl) (fun w hT => run_indexAt (e := 64) (sz := 7) _ (by kernel_rfl) (by kernel_rfl) (by omega) (by omega) (by omega) w) ?_
    refine bS [0] 4 3 [(2, .slice A n cap), (7, .pointer (pB b2)), (8, .pointer (pB b3)), (10, iq (n6 : Int)), (11, .slice (pB r22) n6 n6), (12, .slice (pB r23) n6 n6), (14, iq (i : Int)), (62, iq (i : Int)), (63, .bool true), (93, .pointer (some ⟨g, o + i * 7 + 1, none⟩))] ?_
    refine pl_step 5 2 rfl rfl ?_
    refine cont_fact (F := (0 < el.m1 → (el.A1 : Option Addr) = some ⟨el.g1, el.o1, none⟩) ∧ el.x1.length = el.m1) (fun w hT => Rd.factsR (hT.ok 0 _ rfl)) (fun hl102_ => ?_)
    obtain ⟨hl102_a, hl102_l⟩ := hl102_
    refine sem_step 94 (Instr.loadAt 62 (.pointer (some ⟨g, o + i * 7 + 1, none⟩))) (.slice el.A1 el.m1 el.k1) (by kernel_rfl) (fun w hT => run_load1 (by kernel_rfl) (Rd.dcell1 Deed18.size (hT.ok 11 _ rfl) (i := i) (by omega) 1 (by rw [hel]; rfl))) ?_
    refine pl_step 6 1 rfl rfl ?_
    refine call_gen (d := 95) (α := Option Addr × Nat × Nat × Nat) (fun x_ => .slice x_.1 x_.2.2.1 x_.2.2.2) (fun x_ => [.gen (rowE (x_.1) x_.2.1 x_.2.2.1 x_.2.2.2 28 4 (rvals (smallL el.x1 4)) true), .gen (rdE (el.A1) el.g1 el.o1 el.m1 4 (rvals el.x1)), .gen (rowE (pB r23) r23 n6 n6 4 1 (bvals bF) true), .gen (rowE (pB r22) r22 n6 n6 4 1 (bvals bB) true), .cells b3 [.pointer (pB m4), .pointer (pB m17), .slice Ax kx cx, .slice Ay ky cy, iq w0, iq w1, iq fr, iq 1] 98 true, .cells m4 [iq W1q, iq H1q, .slice (pB r5) n6 n6] 115 true, .gen (rowE (pB r5) r5 n6 n6 54 1 (ivals .u32 (List.replicate n6 0)) true), .cells m17 [iq W1q, iq H1q, .slice (pB r18) n19 n19] 115 true, .gen (rowE (pB r18) r18 n19 n19 54 1 (ivals .u32 (List.replicate n19 0)) true), .gen (rowE (Ax) gx kx cx 28 4 (rvals xs0) true), .gen (rowE (Ay) gy ky cy 28 4 (rvals xs1) true), .cells b2 [iq 0, iq 0, iq W1q, iq H1q] 28 true, .gen (rdE (A) g o n 7 (dvals Deed18.cells xs)), .gen (subE n (fun i_ => rdE ((dget xs i_).A1) (dget xs i_).g1 (dget xs i_).o1 (dget xs i_).m1 4 (rvals (dget xs i_).x1)))]) (fun x_ => True) (by kernel_rfl) (fun w hT => (refSmallL el.A1 el.g1 el.o1 el.m1 el.k1 el.x1 4 w (hT.viewRo (.cons (i := 0) rfl Vw.rd .nil) rfl) helg.b1 (by omega)).mono fun e w' ⟨A103, g104, k105, cp106, he_, ht_⟩ => ⟨(A103, g104, k105, cp106), he_, trivial, hT.news ht_ rfl⟩) ?_
    rintro ⟨A103, g104, k105, cp106⟩ hf107_
    refine cont_norm [(2, .slice A n cap), (7, .pointer (pB b2)), (8, .pointer (pB b3)), (10, iq (n6 : Int)), (11, .slice (pB r22) n6 n6), (12, .slice (pB r23) n6 n6), (14, iq (i : Int)), (62, iq (i : Int)), (63, .bool true), (93, .pointer (some ⟨g, o + i * 7 + 1, none⟩)), (94, .slice el.A1 el.m1 el.k1), (95, .slice A103 k105 cp106)] _ (by kernel_rfl) rfl ?_
    refine cont_fact (F := (0 < k105 → (A103 : Option Addr) = pB g104) ∧ (smallL el.x1 4).length = k105 ∧ k105 ≤ cp106 ∧ cp106 ≤ maxLen) (fun w hT => Row.factsR (hT.ok 0 _ rfl)) (fun hr108_ => ?_)
    obtain ⟨hr108_a, hr108_l, hr108_c, hr108_m⟩ := hr108_
    unfold maxLen at hr108_m
    have hsl109_ := smallL_length el.x1 4
    refine bS [0] 7 0 [(2, .slice A n cap), (7, .pointer (pB b2)), (8, .pointer (pB b3)), (10, iq (n6 : Int)), (11, .slice (pB r22) n6 n6), (12, .slice (pB r23) n6 n6), (14, iq (i : Int)), (16, .slice A103 k105 cp106), (62, iq (i : Int)), (63, .bool true)] ?_
    refine cont_done ?_
    refine then_normal ?_
    refine cont_seq ?_
    refine cont_region 3 rfl ?_
    refine bS [0, 0] 2 1 [(2, .slice A n cap), (7, .pointer (pB b2)), (8, .pointer (pB b3)), (10, iq (n6 : Int)), (11, .slice (pB r22) n6 n6), (12, .slice (pB r23) n6 n6), (14, iq (i : Int)), (16, .slice A103 k105 cp106), (62, iq (i : Int)), (63, .bool true), (96, .pointer (pB b3)), (97, .slice A103 k105 cp106)] ?_
    refine pl_step 3 0 rfl rfl ?_
    refine call_gen (d := 98) (α := Option Addr × Nat × Nat × Nat × Option Addr × Nat × Nat × Nat) (fun _ => .tuple #[]) (fun x_ => [.gen (rowE (x_.1) x_.2.1 x_.2.2.1 x_.2.2.2.1 28 4 (rvals (keepL hullP (regM orB xs0 (regM andB (canR (smallL el.x1 4)) (canR [(⟨0, 0, W1q, H1q⟩ : Rect)]))) 64)) true), .gen (rowE (x_.2.2.2.2.1) x_.2.2.2.2.2.1 x_.2.2.2.2.2.2.1 x_.2.2.2.2.2.2.2 28 4 (rvals (keepL hullP (regM orB xs1 (regM andB (canR (smallL el.x1 4)) (canR [(⟨0, 0, W1q, H1q⟩ : Rect)]))) 64)) true), .gen (rowE (A103) g104 k105 cp106 28 4 (rvals (smallL el.x1 4)) true), .gen (rdE (el.A1) el.g1 el.o1 el.m1 4 (rvals el.x1)), .gen (rowE (pB r23) r23 n6 n6 4 1 (bvals bF) true), .gen (rowE (pB r22) r22 n6 n6 4 1 (bvals bB) true), .cells b3 [.pointer (pB m4), .pointer (pB m17), .slice x_.1 x_.2.2.1 x_.2.2.2.1, .slice x_.2.2.2.2.1 x_.2.2.2.2.2.2.1 x_.2.2.2.2.2.2.2, iq w0, iq w1, iq fr, iq 1] 98 true, .cells m4 [iq W1q, iq H1q, .slice (pB r5) n6 n6] 115 true, .gen (rowE (pB r5) r5 n6 n6 54 1 (ivals .u32 (List.replicate n6 0)) true), .cells m17 [iq W1q, iq H1q, .slice (pB r18) n19 n19] 115 true, .gen (rowE (pB r18) r18 n19 n19 54 1 (ivals .u32 (List.replicate n19 0)) true), .gen (rowE (Ax) gx kx cx 28 4 (rvals xs0) true), .gen (rowE (Ay) gy ky cy 28 4 (rvals xs1) true), .cells b2 [iq 0, iq 0, iq W1q, iq H1q] 28 true, .gen (rdE (A) g o n 7 (dvals Deed18.cells xs)), .gen (subE n (fun i_ => rdE ((dget xs i_).A1) (dget xs i_).g1 (dget xs i_).o1 (dget xs i_).m1 4 (rvals (dget xs i_).x1)))]) (fun _ => True) (by kernel_rfl) (fun w hT => (outDamage b3 m4 m17 Ax Ay kx cx ky cy w0 w1 fr 1 W1q H1q r5 n6 n6 (List.replicate n6 0) gx xs0 gy xs1 A103 g104 0 k105 cp106 (smallL el.x1 4) w (hT.view (.cons (i := 4) rfl Vw.rw (.cons (i := 5) rfl Vw.roc (.cons (i := 6) rfl Vw.rowRd (.cons (i := 9) rfl Vw.rowRd (.cons (i := 10) rfl Vw.rowRd (.cons (i := 0) rfl Vw.rowRd .nil)))))) (by decide)) (by omega) (imgOk_new (by omega) hf18_a) (by omega) (by omega) (by omega)).mono fun e w' ⟨A110q, gA111q, k112q, cp113q, B114q, gB115q, kB116q, cB117q, he_, ht_⟩ => ⟨(A110q, gA111q, k112q, cp113q, B114q, gB115q, kB116q, cB117q), he_, trivial, hT.merge (N := [.gen (rowE (A110q) gA111q k112q cp113q 28 4 (rvals (keepL hullP (regM orB xs0 (regM andB (canR (smallL el.x1 4)) (canR [(⟨0, 0, W1q, H1q⟩ : Rect)]))) 64)) true), .gen (rowE (B114q) gB115q kB116q cB117q 28 4 (rvals (keepL hullP (regM orB xs1 (regM andB (canR (smallL el.x1 4)) (canR [(⟨0, 0, W1q, H1q⟩ : Rect)]))) 64)) true)]) (s := [4, 5, 6, 9, 10, 0]) ht_ (.cons (i := 4) rfl Mg.cells (.skip rfl (.skip rfl (.skip rfl (.skip rfl (.skip rfl .nil)))))) (by decide) (allOwn_get rfl)⟩) ?_
    rintro ⟨A110q, gA111q, k112q, cp113q, B114q, gB115q, kB116q, cB117q⟩ -
    refine cont_norm [(2, .slice A n cap), (7, .pointer (pB b2)), (8, .pointer (pB b3)), (10, iq (n6 : Int)), (11, .slice (pB r22) n6 n6), (12, .slice (pB r23) n6 n6), (14, iq (i : Int)), (16, .slice A103 k105 cp106), (62, iq (i : Int)), (63, .bool true), (96, .pointer (pB b3)), (97, .slice A103 k105 cp106), (98, .tuple #[])] _ (by kernel_rfl) rfl ?_
    refine cont_fact (F := (0 < k112q → (A110q : Option Addr) = pB gA111q) ∧ (keepL hullP (regM orB xs0 (regM andB (canR (smallL el.x1 4)) (canR [(⟨0, 0, W1q, H1q⟩ : Rect)]))) 64).length = k112q ∧ k112q ≤ cp113q ∧ cp113q ≤ maxLen) (fun w hT => Row.factsR (hT.ok 0 _ rfl)) (fun hr118_ => ?_)
    obtain ⟨hr118_a, hr118_l, hr118_c, hr118_m⟩ := hr118_
    unfold maxLen at hr118_m
    have hr118_k : k112q ≤ 64 := by rw [← hr118_l]; exact keep_len64 _ _
    clear hr118_l
    refine cont_fact (F := (0 < kB116q → (B114q : Option Addr) = pB gB115q) ∧ (keepL hullP (regM orB xs1 (regM andB (canR (smallL el.x1 4)) (canR [(⟨0, 0, W1q, H1q⟩ : Rect)]))) 64).length = kB116q ∧ kB116q ≤ cB117q ∧ cB117q ≤ maxLen) (fun w hT => Row.factsR (hT.ok 1 _ rfl)) (fun hr119_ => ?_)
    obtain ⟨hr119_a, hr119_l, hr119_c, hr119_m⟩ := hr119_
    unfold maxLen at hr119_m
    have hr119_k : kB116q ≤ 64 := by rw [← hr119_l]; exact keep_len64 _ _
    clear hr119_l
    refine cont_done ?_
    refine then_normal ?_
    refine cont_seq ?_
    refine cont_seq ?_
    refine cont_region 1 rfl ?_
    obtain ⟨LQ120, hLQ120⟩ : ∃ y_ : List Rect, y_ = keepL hullP (regM orB xs0 (regM andB (canR (smallL el.x1 4)) (canR [(⟨0, 0, W1q, H1q⟩ : Rect)]))) 64 := ⟨_, rfl⟩
    have hold0 : ∀ x_ y_, hasL xs0 x_ y_ = true → hasL LQ120 x_ y_ = true := by rw [hLQ120]; exact fun _ _ h_ => damage_old _ _ _ h_
    have hnew0 : ∀ x_ y_, hasL (smallL el.x1 4) x_ y_ = true → hasB 0 0 W1q H1q x_ y_ = true → hasL LQ120 x_ y_ = true := by rw [hLQ120]; exact fun _ _ h_ h2_ => damage_new _ _ h_ h2_
    refine cont_rowEqR 0 (keepL hullP (regM orB xs0 (regM andB (canR (smallL el.x1 4)) (canR [(⟨0, 0, W1q, H1q⟩ : Rect)]))) 64) (LQ120) rfl hLQ120.symm ?_
    clear hLQ120
    obtain ⟨LQ121, hLQ121⟩ : ∃ y_ : List Rect, y_ = keepL hullP (regM orB xs1 (regM andB (canR (smallL el.x1 4)) (canR [(⟨0, 0, W1q, H1q⟩ : Rect)]))) 64 := ⟨_, rfl⟩
    have hold1 : ∀ x_ y_, hasL xs1 x_ y_ = true → hasL LQ121 x_ y_ = true := by rw [hLQ121]; exact fun _ _ h_ => damage_old _ _ _ h_
    have hnew1 : ∀ x_ y_, hasL (smallL el.x1 4) x_ y_ = true → hasB 0 0 W1q H1q x_ y_ = true → hasL LQ121 x_ y_ = true := by rw [hLQ121]; exact fun _ _ h_ h2_ => damage_new _ _ h_ h2_
    refine cont_rowEqR 1 (keepL hullP (regM orB xs1 (regM andB (canR (smallL el.x1 4)) (canR [(⟨0, 0, W1q, H1q⟩ : Rect)]))) 64) (LQ121) rfl hLQ121.symm ?_
    clear hLQ121
    refine cont_norm [(2, .slice A n cap), (7, .pointer (pB b2)), (8, .pointer (pB b3)), (10, iq (n6 : Int)), (11, .slice (pB r22) n6 n6), (12, .slice (pB r23) n6 n6), (14, iq (i : Int)), (16, .slice A103 k105 cp106), (62, iq (i : Int)), (63, .bool true), (96, .pointer (pB b3)), (97, .slice A103 k105 cp106), (98, .tuple #[])] _ (by kernel_rfl) rfl ?_
    refine cont_fact (F := (0 < k112q → (A110q : Option Addr) = pB gA111q) ∧ LQ120.length = k112q ∧ k112q ≤ cp113q ∧ cp113q ≤ maxLen) (fun w hT => Row.factsR (hT.ok 0 _ rfl)) (fun hr122_ => ?_)
    obtain ⟨hr122_a, hr122_l, hr122_c, hr122_m⟩ := hr122_
    unfold maxLen at hr122_m
    refine cont_fact (F := (0 < kB116q → (B114q : Option Addr) = pB gB115q) ∧ LQ121.length = kB116q ∧ kB116q ≤ cB117q ∧ cB117q ≤ maxLen) (fun w hT => Row.factsR (hT.ok 1 _ rfl)) (fun hr123_ => ?_)
    obtain ⟨hr123_a, hr123_l, hr123_c, hr123_m⟩ := hr123_
    unfold maxLen at hr123_m
    refine bS [0] 1 0 [(2, .slice A n cap), (7, .pointer (pB b2)), (8, .pointer (pB b3)), (10, iq (n6 : Int)), (11, .slice (pB r22) n6 n6), (12, .slice (pB r23) n6 n6), (14, iq (i : Int)), (16, .slice A103 k105 cp106), (17, iq 0), (62, iq (i : Int)), (63, .bool true)] ?_
    refine cont_forget 11 rfl ?_
    refine cont_forget 11 rfl ?_
    refine cont_done ?_
    refine then_normal ?_
    refine cont_block ?_
    refine cont_loop (α := Nat × List Bool × List Bool) (fun x_ : Nat × List Bool × List Bool => x_.1 ≤ n6 ∧ Cov W1q x_.2.1 (LQ121) ∧ Cov W1q x_.2.2 (LQ120)) (fun x_ : Nat × List Bool × List Bool => [(2, .slice A n cap), (7, .pointer (pB b2)), (8, .pointer (pB b3)), (10, iq (n6 : Int)), (11, .slice (pB r22) n6 n6), (12, .slice (pB r23) n6 n6), (14, iq (i : Int)), (16, .slice A103 k105 cp106), (17, iq ((x_.1 : Nat) : Int)), (62, iq (i : Int)), (63, .bool true)]) (fun x_ : Nat × List Bool × List Bool => [.gen (rowE (A110q) gA111q k112q cp113q 28 4 (rvals LQ120) true), .gen (rowE (B114q) gB115q kB116q cB117q 28 4 (rvals LQ121) true), .gen (rowE (A103) g104 k105 cp106 28 4 (rvals (smallL el.x1 4)) true), .gen (rdE (el.A1) el.g1 el.o1 el.m1 4 (rvals el.x1)), .gen (rowE (pB r23) r23 n6 n6 4 1 (bvals x_.2.2) true), .gen (rowE (pB r22) r22 n6 n6 4 1 (bvals x_.2.1) true), .cells b3 [.pointer (pB m4), .pointer (pB m17), .slice A110q k112q cp113q, .slice B114q kB116q cB117q, iq w0, iq w1, iq fr, iq 1] 98 true, .cells m4 [iq W1q, iq H1q, .slice (pB r5) n6 n6] 115 true, .gen (rowE (pB r5) r5 n6 n6 54 1 (ivals .u32 (List.replicate n6 0)) true), .cells m17 [iq W1q, iq H1q, .slice (pB r18) n19 n19] 115 true, .gen (rowE (pB r18) r18 n19 n19 54 1 (ivals .u32 (List.replicate n19 0)) true), .cells b2 [iq 0, iq 0, iq W1q, iq H1q] 28 true, .gen (rdE (A) g o n 7 (dvals Deed18.cells xs)), .gen (subE n (fun i_ => rdE ((dget xs i_).A1) (dget xs i_).g1 (dget xs i_).o1 (dget xs i_).m1 4 (rvals (dget xs i_).x1)))]) (fun x_ : Nat × List Bool × List Bool => n6 - x_.1) (0, bB, bF) (show (0) ≤ n6 ∧ Cov W1q (bB) (LQ121) ∧ Cov W1q (bF) (LQ120) from ⟨by omega, hcb.mono hold1, hcf.mono hold0⟩) (by kernel_rfl) (by kernel_rfl) ?_
    rintro ⟨k, bB2, bF2⟩ hinv124_
    replace hinv124_ : k ≤ n6 ∧ Cov W1q bB2 (LQ121) ∧ Cov W1q bF2 (LQ120) := hinv124_
    refine cont_norm [(2, .slice A n cap), (7, .pointer (pB b2)), (8, .pointer (pB b3)), (10, iq (n6 : Int)), (11, .slice (pB r22) n6 n6), (12, .slice (pB r23) n6 n6), (14, iq (i : Int)), (16, .slice A103 k105 cp106), (17, iq ((k : Nat) : Int)), (62, iq (i : Int)), (63, .bool true)] _ (by kernel_rfl) rfl ?_
    obtain ⟨hk, hcb2, hcf2⟩ := hinv124_
    have hem := emod_range k (show 1 ≤ W1q by omega)
    refine cont_seq ?_
    refine cont_seq ?_
    refine cont_region 3 rfl ?_
    refine bS [0, 0, 0] 3 0 [(2, .slice A n cap), (7, .pointer (pB b2)), (8, .pointer (pB b3)), (10, iq (n6 : Int)), (11, .slice (pB r22) n6 n6), (12, .slice (pB r23) n6 n6), (14, iq (i : Int)), (16, .slice A103 k105 cp106), (17, iq ((k : Nat) : Int)), (62, iq (i : Int)), (63, .bool true), (101, .bool (decide (((k : Nat) : Int) < (n6 : Int))))] ?_
    refine cont_done ?_
    refine then_normal ?_
    refine cont_split 101 (decide (((k : Nat) : Int) < (n6 : Int))) rfl (fun c125_ => ?_) (fun c125_ => ?_)
    ·
     replace c125_ := of_decide_eq_true c125_
     refine cont_true rfl ?_
     refine cont_skip ?_
     refine then_normal ?_
     refine cont_seq ?_
     refine cont_block ?_
     refine cont_seq ?_
     refine drawn_enter 10 [] rfl (by kernel_rfl) ?_
     refine takes 0 [] [(0, 0), (1, 0), (2, 0), (5, 0), (6, 0), (3, 11), (7, 11)] 3 [7, 3, 6, 5, 2, 1, 0] [(2, .slice A n cap), (7, .pointer (pB b2)), (8, .pointer (pB b3)), (10, iq (n6 : Int)), (11, .slice (pB r22) n6 n6), (12, .slice (pB r23) n6 n6), (14, iq (i : Int)), (16, .slice A103 k105 cp106), (17, iq ((k : Nat) : Int)), (62, iq (i : Int)), (63, .bool true), (104, .slice A103 k105 cp106), (105, iq ((k : Nat) : Int)), (107, iq W1q), (109, iq ((k : Nat) : Int)), (111, iq W1q)] (by kernel_rfl) (pok_then (pok_blk (pok_then (pok_then (pok_blk (pok_then (pok_blk (pok_then (pok_then (pok_blk (pok_then pok_body))))))))))) (by kernel_rfl) rfl rfl (by kernel_rfl) (by kernel_rfl) ?_
     refine sem_take 0 [] 4 2 108 (bopS .rem 3 (.tmp 105) (.tmp 107) (iq ((k : Nat) : Int)) (iq W1q)) (iq (((k : Nat) : Int).tmod W1q)) (by kernel_rfl) (pok_then (pok_blk (pok_then (pok_then (pok_blk (pok_then (pok_blk (pok_then (pok_then (pok_blk (pok_then pok_body))))))))))) (by kernel_rfl) rfl (by kernel_rfl) (by kernel_rfl) (fun w hT => run_rem (by omega) w) ?_
     refine cont_recast 108 (iq (((k : Nat) : Int).tmod W1q)) (iq (((k : Nat) : Int) % W1q)) rfl (tmodI (by omega)) ?_
     refine sem_take 0 [] 8 1 112 (bopS .quo 3 (.tmp 109) (.tmp 111) (iq ((k : Nat) : Int)) (iq W1q)) (iq (IntKind.i64.wrap (((k : Nat) : Int).tdiv W1q))) (by kernel_rfl) (pok_then (pok_blk (pok_then (pok_then (pok_blk (pok_then (pok_blk (pok_then (pok_then (pok_blk (pok_then pok_body))))))))))) (by kernel_rfl) rfl (by kernel_rfl) (by kernel_rfl) (fun w hT => run_quo (by omega) w) ?_
     refine cont_recast 112 (iq (IntKind.i64.wrap (((k : Nat) : Int).tdiv W1q))) (iq (((k : Nat) : Int) / W1q)) rfl (tdivI (by omega) (by omega) (by omega)) ?_
     refine drawn_one 9 0 rfl (by kernel_rfl) ?_
     refine call_pure (d := 113) (.bool (hasL (smallL el.x1 4) (((k : Nat) : Int) % W1q) (((k : Nat) : Int) / W1q))) (by kernel_rfl) (fun w hT => refHasL A103 g104 0 k105 cp106 (smallL el.x1 4) (((k : Nat) : Int) % W1q) (((k : Nat) : Int) / W1q) w (hT.viewRo (.cons (i := 2) rfl Vw.rowRd .nil) rfl) (by omega)) ?_
     refine drawn_next 0 [] (by kernel_rfl) ?_
     refine drawn_done (by kernel_rfl) ?_
     refine then_normal ?_
     refine cont_split 113 (hasL (smallL el.x1 4) (((k : Nat) : Int) % W1q) (((k : Nat) : Int) / W1q)) rfl (fun c126_ => ?_) (fun c126_ => ?_)
     ·
      have hB_ := c126_
      refine cont_true rfl ?_
      refine cont_seq ?_
      refine cont_region 4 rfl ?_
      refine cont_fact (F := (0 < n6 → (pB r22 : Option Addr) = pB r22) ∧ bB2.length = n6 ∧ n6 ≤ n6 ∧ n6 ≤ maxLen) (fun w hT => Row.factsB (hT.ok 5 _ rfl)) (fun hr127_ => ?_)
      obtain ⟨hr127_a, hr127_l, hr127_c, hr127_m⟩ := hr127_
      unfold maxLen at hr127_m
      refine cont_fact (F := (0 < n6 → (pB r23 : Option Addr) = pB r23) ∧ bF2.length = n6 ∧ n6 ≤ n6 ∧ n6 ≤ maxLen) (fun w hT => Row.factsB (hT.ok 4 _ rfl)) (fun hr128_ => ?_)
      obtain ⟨hr128_a, hr128_l, hr128_c, hr128_m⟩ := hr128_
      unfold maxLen at hr128_m
      refine bS [0, 0] 2 2 [(2, .slice A n cap), (7, .pointer (pB b2)), (8, .pointer (pB b3)), (10, iq (n6 : Int)), (11, .slice (pB r22) n6 n6), (12, .slice (pB r23) n6 n6), (14, iq (i : Int)), (16, .slice A103 k105 cp106), (17, iq ((k : Nat) : Int)), (62, iq (i : Int)), (63, .bool true), (114, .slice (pB r22) n6 n6), (115, iq ((k : Nat) : Int))] ?_
      refine pl_step 3 1 rfl rfl ?_
      refine sem_step 116 (Instr.indexAt 61 (.slice (pB r22) n6 n6) (iq ((k : Nat) : Int))) (.pointer (some ⟨r22, (k : Nat), none⟩)) (by kernel_rfl) (fun w hT => run_indexAt (e := 4) (sz := 1) _ (by kernel_rfl) (by kernel_rfl) (by omega) (by omega) (by omega) w) ?_
      refine pl_step 4 0 rfl rfl ?_
      refine sem_stepU (Instr.storeAt 4 (.pointer (some ⟨r22, (k : Nat), none⟩)) (.bool true)) (fun _ => [.gen (rowE (A110q) gA111q k112q cp113q 28 4 (rvals LQ120) true), .gen (rowE (B114q) gB115q kB116q cB117q 28 4 (rvals LQ121) true), .gen (rowE (A103) g104 k105 cp106 28 4 (rvals (smallL el.x1 4)) true), .gen (rdE (el.A1) el.g1 el.o1 el.m1 4 (rvals el.x1)), .gen (rowE (pB r23) r23 n6 n6 4 1 (bvals bF2) true), .gen (rowE (pB r22) r22 n6 n6 4 1 (bvals (bB2.set (k : Nat) true)) true), .cells b3 [.pointer (pB m4), .pointer (pB m17), .slice A110q k112q cp113q, .slice B114q kB116q cB117q, iq w0, iq w1, iq fr, iq 1] 98 true, .cells m4 [iq W1q, iq H1q, .slice (pB r5) n6 n6] 115 true, .gen (rowE (pB r5) r5 n6 n6 54 1 (ivals .u32 (List.replicate n6 0)) true), .cells m17 [iq W1q, iq H1q, .slice (pB r18) n19 n19] 115 true, .gen (rowE (pB r18) r18 n19 n19 54 1 (ivals .u32 (List.replicate n19 0)) true), .cells b2 [iq 0, iq 0, iq W1q, iq H1q] 28 true, .gen (rdE (A) g o n 7 (dvals Deed18.cells xs)), .gen (subE n (fun i_ => rdE ((dget xs i_).A1) (dget xs i_).g1 (dget xs i_).o1 (dget xs i_).m1 4 (rvals (dget xs i_).x1)))]) (fun _ => True) (by kernel_rfl) (fun w hT => store_rowB (xs := bB2) hT (i := 5) rfl (by kernel_rfl) (by omega)) (fun _ _ => ?_)
      refine cont_done ?_
      refine then_normal ?_
      refine cont_region 4 rfl ?_
      refine bS [0, 0] 2 2 [(2, .slice A n cap), (7, .pointer (pB b2)), (8, .pointer (pB b3)), (10, iq (n6 : Int)), (11, .slice (pB r22) n6 n6), (12, .slice (pB r23) n6 n6), (14, iq (i : Int)), (16, .slice A103 k105 cp106), (17, iq ((k : Nat) : Int)), (62, iq (i : Int)), (63, .bool true), (117, .slice (pB r23) n6 n6), (118, iq ((k : Nat) : Int))] ?_
      refine pl_step 3 1 rfl rfl ?_
      refine sem_step 119 (Instr.indexAt 61 (.slice (pB r23) n6 n6) (iq ((k : Nat) : Int))) (.pointer (some ⟨r23, (k : Nat), none⟩)) (by kernel_rfl) (fun w hT => run_indexAt (e := 4) (sz := 1) _ (by kernel_rfl) (by kernel_rfl) (by omega) (by omega) (by omega) w) ?_
      refine pl_step 4 0 rfl rfl ?_
      refine sem_stepU (Instr.storeAt 4 (.pointer (some ⟨r23, (k : Nat), none⟩)) (.bool true)) (fun _ => [.gen (rowE (A110q) gA111q k112q cp113q 28 4 (rvals LQ120) true), .gen (rowE (B114q) gB115q kB116q cB117q 28 4 (rvals LQ121) true), .gen (rowE (A103) g104 k105 cp106 28 4 (rvals (smallL el.x1 4)) true), .gen (rdE (el.A1) el.g1 el.o1 el.m1 4 (rvals el.x1)), .gen (rowE (pB r23) r23 n6 n6 4 1 (bvals (bF2.set (k : Nat) true)) true), .gen (rowE (pB r22) r22 n6 n6 4 1 (bvals (bB2.set (k : Nat) true)) true), .cells b3 [.pointer (pB m4), .pointer (pB m17), .slice A110q k112q cp113q, .slice B114q kB116q cB117q, iq w0, iq w1, iq fr, iq 1] 98 true, .cells m4 [iq W1q, iq H1q, .slice (pB r5) n6 n6] 115 true, .gen (rowE (pB r5) r5 n6 n6 54 1 (ivals .u32 (List.replicate n6 0)) true), .cells m17 [iq W1q, iq H1q, .slice (pB r18) n19 n19] 115 true, .gen (rowE (pB r18) r18 n19 n19 54 1 (ivals .u32 (List.replicate n19 0)) true), .cells b2 [iq 0, iq 0, iq W1q, iq H1q] 28 true, .gen (rdE (A) g o n 7 (dvals Deed18.cells xs)), .gen (subE n (fun i_ => rdE ((dget xs i_).A1) (dget xs i_).g1 (dget xs i_).o1 (dget xs i_).m1 4 (rvals (dget xs i_).x1)))]) (fun _ => True) (by kernel_rfl) (fun w hT => store_rowB (xs := bF2) hT (i := 4) rfl (by kernel_rfl) (by omega)) (fun _ _ => ?_)
      refine cont_done ?_
      refine blk_normal ?_
      refine then_normal ?_
      refine cont_region 3 rfl ?_
      refine bS [0, 0] 2 1 [(2, .slice A n cap), (7, .pointer (pB b2)), (8, .pointer (pB b3)), (10, iq (n6 : Int)), (11, .slice (pB r22) n6 n6), (12, .slice (pB r23) n6 n6), (14, iq (i : Int)), (16, .slice A103 k105 cp106), (62, iq (i : Int)), (63, .bool true), (103, iq (IntKind.i64.wrap (((k : Nat) : Int) + 1)))] ?_
      refine cont_recast 103 (iq (IntKind.i64.wrap (((k : Nat) : Int) + 1))) (iq (((k : Nat) : Int) + 1)) rfl (wrapI (by omega) (by omega)) ?_
      refine bS [0] 3 0 [(2, .slice A n cap), (7, .pointer (pB b2)), (8, .pointer (pB b3)), (10, iq (n6 : Int)), (11, .slice (pB r22) n6 n6), (12, .slice (pB r23) n6 n6), (14, iq (i : Int)), (16, .slice A103 k105 cp106), (17, iq (((k : Nat) : Int) + 1)), (62, iq (i : Int)), (63, .bool true)] ?_
      refine cont_done ?_
      refine then_normal ?_
      refine cont_again (k + 1, bB2.set (k : Nat) true, bF2.set (k : Nat) true) (show (k + 1) ≤ n6 ∧ Cov W1q (bB2.set (k : Nat) true) (LQ121) ∧ Cov W1q (bF2.set (k : Nat) true) (LQ120) from ⟨by omega, hcb2.put (hnew1 _ _ hB_ (in_box (by omega) hn_ (by omega))), hcf2.put (hnew0 _ _ hB_ (in_box (by omega) hn_ (by omega)))⟩) (show n6 - (k + 1) < n6 - k from by omega) (by kernel_rfl) (by kernel_rfl)
     have hB_ := c126_
     refine cont_false rfl ?_
     refine cont_skip ?_
     refine blk_normal ?_
     refine then_normal ?_
     refine cont_region 3 rfl ?_
     refine bS [0, 0] 2 1 [(2, .slice A n cap), (7, .pointer (pB b2)), (8, .pointer (pB b3)), (10, iq (n6 : Int)), (11, .slice (pB r22) n6 n6), (12, .slice (pB r23) n6 n6), (14, iq (i : Int)), (16, .slice A103 k105 cp106), (62, iq (i : Int)), (63, .bool true), (103, iq (IntKind.i64.wrap (((k : Nat) : Int) + 1)))] ?_
     refine cont_recast 103 (iq (IntKind.i64.wrap (((k : Nat) : Int) + 1))) (iq (((k : Nat) : Int) + 1)) rfl (wrapI (by omega) (by omega)) ?_
     refine bS [0] 3 0 [(2, .slice A n cap), (7, .pointer (pB b2)), (8, .pointer (pB b3)), (10, iq (n6 : Int)), (11, .slice (pB r22) n6 n6), (12, .slice (pB r23) n6 n6), (14, iq (i : Int)), (16, .slice A103 k105 cp106), (17, iq (((k : Nat) : Int) + 1)), (62, iq (i : Int)), (63, .bool true)] ?_
     refine cont_done ?_
     refine then_normal ?_
     refine cont_again (k + 1, bB2, bF2) (show (k + 1) ≤ n6 ∧ Cov W1q (bB2) (LQ121) ∧ Cov W1q (bF2) (LQ120) from ⟨by omega, hcb2, hcf2⟩) (show n6 - (k + 1) < n6 - k from by omega) (by kernel_rfl) (by kernel_rfl)
    replace c125_ := of_decide_eq_false c125_
    refine cont_false rfl ?_
    refine cont_exit ?_
    refine then_exit ?_
    refine then_exit ?_
    refine blk_exit ?_
    refine then_normal ?_
    refine cont_seq ?_
    refine cont_region 3 rfl ?_
    refine bS [0] 1 2 [(2, .slice A n cap), (7, .pointer (pB b2)), (8, .pointer (pB b3)), (10, iq (n6 : Int)), (11, .slice (pB r22) n6 n6), (12, .slice (pB r23) n6 n6), (14, iq (i : Int)), (62, iq (i : Int)), (63, .bool true), (120, .pointer (pB b3))] ?_
    refine cont_forget 2 rfl ?_
    refine pl_step 2 1 rfl rfl ?_
    refine call_gen (d := 121) (α := Option Addr × Nat × Nat × Nat) (fun x_ => .slice x_.1 x_.2.2.1 x_.2.2.2) (fun x_ => [.gen (rowE (x_.1) x_.2.1 x_.2.2.1 x_.2.2.2 28 4 (rvals LQ121) true), .gen (rowE (A110q) gA111q k112q cp113q 28 4 (rvals LQ120) true), .gen (rowE (B114q) gB115q kB116q cB117q 28 4 (rvals LQ121) true), .gen (rdE (el.A1) el.g1 el.o1 el.m1 4 (rvals el.x1)), .gen (rowE (pB r23) r23 n6 n6 4 1 (bvals bF2) true), .gen (rowE (pB r22) r22 n6 n6 4 1 (bvals bB2) true), .cells b3 [.pointer (pB m4), .pointer (pB m17), .slice A110q k112q cp113q, .slice B114q kB116q cB117q, iq w0, iq w1, iq fr, iq 1] 98 true, .cells m4 [iq W1q, iq H1q, .slice (pB r5) n6 n6] 115 true, .gen (rowE (pB r5) r5 n6 n6 54 1 (ivals .u32 (List.replicate n6 0)) true), .cells m17 [iq W1q, iq H1q, .slice (pB r18) n19 n19] 115 true, .gen (rowE (pB r18) r18 n19 n19 54 1 (ivals .u32 (List.replicate n19 0)) true), .cells b2 [iq 0, iq 0, iq W1q, iq H1q] 28 true, .gen (rdE (A) g o n 7 (dvals Deed18.cells xs)), .gen (subE n (fun i_ => rdE ((dget xs i_).A1) (dget xs i_).g1 (dget xs i_).o1 (dget xs i_).m1 4 (rvals (dget xs i_).x1)))]) (fun x_ => True) (by kernel_rfl) (fun w hT => (outStale1 b3 m4 m17 A110q B114q k112q cp113q kB116q cB117q w0 w1 fr gB115q LQ121 w (hT.viewRo (.cons (i := 5) rfl Vw.roc (.cons (i := 1) rfl Vw.rowRd .nil)) rfl) (by omega)).mono fun e w' ⟨A129, g130, k131, cp132, he_, ht_⟩ => ⟨(A129, g130, k131, cp132), he_, trivial, hT.news ht_ rfl⟩) ?_
    rintro ⟨A129, g130, k131, cp132⟩ hf133_
    refine cont_norm [(2, .slice A n cap), (7, .pointer (pB b2)), (8, .pointer (pB b3)), (10, iq (n6 : Int)), (11, .slice (pB r22) n6 n6), (12, .slice (pB r23) n6 n6), (14, iq (i : Int)), (62, iq (i : Int)), (63, .bool true), (120, .pointer (pB b3)), (121, .slice A129 k131 cp132)] _ (by kernel_rfl) rfl ?_
    refine cont_fact (F := (0 < k131 → (A129 : Option Addr) = pB g130) ∧ LQ121.length = k131 ∧ k131 ≤ cp132 ∧ cp132 ≤ maxLen) (fun w hT => Row.factsR (hT.ok 0 _ rfl)) (fun hr134_ => ?_)
    obtain ⟨hr134_a, hr134_l, hr134_c, hr134_m⟩ := hr134_
    unfold maxLen at hr134_m
    refine bS [0] 3 0 [(2, .slice A n cap), (7, .pointer (pB b2)), (8, .pointer (pB b3)), (10, iq (n6 : Int)), (11, .slice (pB r22) n6 n6), (12, .slice (pB r23) n6 n6), (14, iq (i : Int)), (18, .slice A129 k131 cp132), (62, iq (i : Int)), (63, .bool true)] ?_
    refine cont_done ?_
    refine then_normal ?_
    refine cont_seq ?_
    refine cont_region 1 rfl ?_
    refine bS [0] 1 0 [(2, .slice A n cap), (7, .pointer (pB b2)), (8, .pointer (pB b3)), (10, iq (n6 : Int)), (11, .slice (pB r22) n6 n6), (12, .slice (pB r23) n6 n6), (14, iq (i : Int)), (18, .slice A129 k131 cp132), (19, iq 0), (62, iq (i : Int)), (63, .bool true)] ?_
    refine cont_done ?_
    refine then_normal ?_
    refine cont_block ?_
    refine cont_loop (α := Nat) (fun x_ : Nat => x_ ≤ n6) (fun x_ : Nat => [(2, .slice A n cap), (7, .pointer (pB b2)), (8, .pointer (pB b3)), (10, iq (n6 : Int)), (11, .slice (pB r22) n6 n6), (12, .slice (pB r23) n6 n6), (14, iq (i : Int)), (18, .slice A129 k131 cp132), (19, iq ((x_ : Nat) : Int)), (62, iq (i : Int)), (63, .bool true)]) (fun x_ : Nat => [.gen (rowE (A129) g130 k131 cp132 28 4 (rvals LQ121) true), .gen (rowE (A110q) gA111q k112q cp113q 28 4 (rvals LQ120) true), .gen (rowE (B114q) gB115q kB116q cB117q 28 4 (rvals LQ121) true), .gen (rdE (el.A1) el.g1 el.o1 el.m1 4 (rvals el.x1)), .gen (rowE (pB r23) r23 n6 n6 4 1 (bvals bF2) true), .gen (rowE (pB r22) r22 n6 n6 4 1 (bvals bB2) true), .cells b3 [.pointer (pB m4), .pointer (pB m17), .slice A110q k112q cp113q, .slice B114q kB116q cB117q, iq w0, iq w1, iq fr, iq 1] 98 true, .cells m4 [iq W1q, iq H1q, .slice (pB r5) n6 n6] 115 true, .gen (rowE (pB r5) r5 n6 n6 54 1 (ivals .u32 (List.replicate n6 0)) true), .cells m17 [iq W1q, iq H1q, .slice (pB r18) n19 n19] 115 true, .gen (rowE (pB r18) r18 n19 n19 54 1 (ivals .u32 (List.replicate n19 0)) true), .cells b2 [iq 0, iq 0, iq W1q, iq H1q] 28 true, .gen (rdE (A) g o n 7 (dvals Deed18.cells xs)), .gen (subE n (fun i_ => rdE ((dget xs i_).A1) (dget xs i_).g1 (dget xs i_).o1 (dget xs i_).m1 4 (rvals (dget xs i_).x1)))]) (fun x_ : Nat => n6 - x_) 0 (by omega) (by kernel_rfl) (by kernel_rfl) ?_
    rintro q hinv135_
    replace hinv135_ : q ≤ n6 := hinv135_
    refine cont_norm [(2, .slice A n cap), (7, .pointer (pB b2)), (8, .pointer (pB b3)), (10, iq (n6 : Int)), (11, .slice (pB r22) n6 n6), (12, .slice (pB r23) n6 n6), (14, iq (i : Int)), (18, .slice A129 k131 cp132), (19, iq ((q : Nat) : Int)), (62, iq (i : Int)), (63, .bool true)] _ (by kernel_rfl) rfl ?_
    have hq := hinv135_
    have hem := emod_range q (show 1 ≤ W1q by omega)
    refine cont_seq ?_
    refine cont_seq ?_
    refine cont_region 3 rfl ?_
    refine bS [0, 0, 0] 3 0 [(2, .slice A n cap), (7, .pointer (pB b2)), (8, .pointer (pB b3)), (10, iq (n6 : Int)), (11, .slice (pB r22) n6 n6), (12, .slice (pB r23) n6 n6), (14, iq (i : Int)), (18, .slice A129 k131 cp132), (19, iq ((q : Nat) : Int)), (62, iq (i : Int)), (63, .bool true), (124, .bool (decide (((q : Nat) : Int) < (n6 : Int))))] ?_
    refine cont_done ?_
    refine then_normal ?_
    refine cont_split 124 (decide (((q : Nat) : Int) < (n6 : Int))) rfl (fun c136_ => ?_) (fun c136_ => ?_)
    ·
     replace c136_ := of_decide_eq_true c136_
     refine cont_true rfl ?_
     refine cont_skip ?_
     refine then_normal ?_
     refine cont_seq ?_
     refine cont_block ?_
     refine cont_seq ?_
     refine cont_fact (F := (0 < n6 → (pB r22 : Option Addr) = pB r22) ∧ bB2.length = n6 ∧ n6 ≤ n6 ∧ n6 ≤ maxLen) (fun w hT => Row.factsB (hT.ok 5 _ rfl)) (fun hr137_ => ?_)
     obtain ⟨hr137_a, hr137_l, hr137_c, hr137_m⟩ := hr137_
     unfold maxLen at hr137_m
     refine cont_fact (F := (0 < n6 → (pB r23 : Option Addr) = pB r23) ∧ bF2.length = n6 ∧ n6 ≤ n6 ∧ n6 ≤ maxLen) (fun w hT => Row.factsB (hT.ok 4 _ rfl)) (fun hr138_ => ?_)
     obtain ⟨hr138_a, hr138_l, hr138_c, hr138_m⟩ := hr138_
     unfold maxLen at hr138_m
     refine drawn_enter 17 [] rfl (by kernel_rfl) ?_
     refine takes 0 [] [(0, 0), (1, 0)] 15 [1, 0] [(2, .slice A n cap), (7, .pointer (pB b2)), (8, .pointer (pB b3)), (10, iq (n6 : Int)), (11, .slice (pB r22) n6 n6), (12, .slice (pB r23) n6 n6), (14, iq (i : Int)), (18, .slice A129 k131 cp132), (19, iq ((q : Nat) : Int)), (62, iq (i : Int)), (63, .bool true), (127, .slice (pB r22) n6 n6), (128, iq ((q : Nat) : Int))] (by kernel_rfl) (pok_then (pok_blk (pok_then (pok_then (pok_blk (pok_blk (pok_then (pok_then (pok_blk (pok_then pok_body)))))))))) (by kernel_rfl) rfl rfl (by kernel_rfl) (by kernel_rfl) ?_
     refine sem_take 0 [] 2 14 129 (Instr.indexAt 61 (.slice (pB r22) n6 n6) (iq ((q : Nat) : Int))) (.pointer (some ⟨r22, (q : Nat), none⟩)) (by kernel_rfl) (pok_then (pok_blk (pok_then (pok_then (pok_blk (pok_blk (pok_then (pok_then (pok_blk (pok_then pok_body)))))))))) (by kernel_rfl) rfl (by kernel_rfl) (by kernel_rfl) (fun w hT => run_indexAt (e := 4) (sz := 1) _ (by kernel_rfl) (by kernel_rfl) (by omega) (by omega) (by omega) w) ?_
     refine sem_take 0 [] 3 13 130 (Instr.loadAt 4 (.pointer (some ⟨r22, (q : Nat), none⟩))) (.bool (bB2.getD (q : Nat) false)) (by kernel_rfl) (pok_then (pok_blk (pok_then (pok_then (pok_blk (pok_blk (pok_then (pok_then (pok_blk (pok_then pok_body)))))))))) (by kernel_rfl) rfl (by kernel_rfl) (by kernel_rfl) (fun w hT => run_load1 (by kernel_rfl) (Row.cell (hT 5 _ rfl) ((q : Nat)) _ (bvals_get (xs := bB2) (by omega)))) ?_
     refine takes 0 [] [(4, 0)] 12 [4, 3, 2, 1, 0] [(2, .slice A n cap), (7, .pointer (pB b2)), (8, .pointer (pB b3)), (10, iq (n6 : Int)), (11, .slice (pB r22) n6 n6), (12, .slice (pB r23) n6 n6), (14, iq (i : Int)), (18, .slice A129 k131 cp132), (19, iq ((q : Nat) : Int)), (62, iq (i : Int)), (63, .bool true), (131, .bool (bB2.getD (q : Nat) false))] (by kernel_rfl) (pok_then (pok_blk (pok_then (pok_then (pok_blk (pok_blk (pok_then (pok_then (pok_blk (pok_then pok_body)))))))))) (by kernel_rfl) rfl rfl (by kernel_rfl) (by kernel_rfl) ?_
     refine cont_split 131 (bB2.getD (q : Nat) false) rfl (fun c139_ => ?_) (fun c139_ => ?_)
     ·
      refine takes 0 [] [(5, 0), (6, 0), (7, 0), (10, 0), (11, 0), (8, 11), (12, 11)] 5 [12, 8, 11, 10, 7, 6, 5, 4, 3, 2, 1, 0] [(2, .slice A n cap), (7, .pointer (pB b2)), (8, .pointer (pB b3)), (10, iq (n6 : Int)), (11, .slice (pB r22) n6 n6), (12, .slice (pB r23) n6 n6), (14, iq (i : Int)), (18, .slice A129 k131 cp132), (19, iq ((q : Nat) : Int)), (62, iq (i : Int)), (63, .bool true), (131, .bool true), (132, .slice A129 k131 cp132), (133, iq ((q : Nat) : Int)), (134, .pointer (some ⟨b2, 2, none⟩)), (135, iq W1q), (137, iq ((q : Nat) : Int)), (138, .pointer (some ⟨b2, 2, none⟩)), (139, iq W1q)] (by kernel_rfl) (pok_then (pok_blk (pok_then (pok_then (pok_blk (pok_blk (pok_then (pok_then (pok_blk (pok_then pok_body)))))))))) (by kernel_rfl) rfl rfl (by kernel_rfl) (by kernel_rfl) ?_
      refine sem_take 0 [] 9 4 136 (bopS .rem 3 (.tmp 133) (.tmp 135) (iq ((q : Nat) : Int)) (iq W1q)) (iq (((q : Nat) : Int).tmod W1q)) (by kernel_rfl) (pok_then (pok_blk (pok_then (pok_then (pok_blk (pok_blk (pok_then (pok_then (pok_blk (pok_then pok_body)))))))))) (by kernel_rfl) rfl (by kernel_rfl) (by kernel_rfl) (fun w hT => run_rem (by omega) w) ?_
      refine cont_recast 136 (iq (((q : Nat) : Int).tmod W1q)) (iq (((q : Nat) : Int) % W1q)) rfl (tmodI (by omega)) ?_
      refine sem_take 0 [] 13 3 140 (bopS .quo 3 (.tmp 137) (.tmp 139) (iq ((q : Nat) : Int)) (iq W1q)) (iq (IntKind.i64.wrap (((q : Nat) : Int).tdiv W1q))) (by kernel_rfl) (pok_then (pok_blk (pok_then (pok_then (pok_blk (pok_blk (pok_then (pok_then (pok_blk (pok_then pok_body)))))))))) (by kernel_rfl) rfl (by kernel_rfl) (by kernel_rfl) (fun w hT => run_quo (by omega) w) ?_
      refine cont_recast 140 (iq (IntKind.i64.wrap (((q : Nat) : Int).tdiv W1q))) (iq (((q : Nat) : Int) / W1q)) rfl (tdivI (by omega) (by omega) (by omega)) ?_
      refine drawn_one 14 2 rfl (by kernel_rfl) ?_
      refine call_pure (d := 141) (.bool (hasL LQ121 (((q : Nat) : Int) % W1q) (((q : Nat) : Int) / W1q))) (by kernel_rfl) (fun w hT => refHasL A129 g130 0 k131 cp132 LQ121 (((q : Nat) : Int) % W1q) (((q : Nat) : Int) / W1q) w (hT.viewRo (.cons (i := 0) rfl Vw.rowRd .nil) rfl) (by omega)) ?_
      refine drawn_next 0 [] (by kernel_rfl) ?_
      refine takes 0 [] [(15, 0), (16, 0)] 0 [16, 15, 14, 13, 9, 12, 8, 11, 10, 7, 6, 5, 4, 3, 2, 1, 0] [(2, .slice A n cap), (7, .pointer (pB b2)), (8, .pointer (pB b3)), (10, iq (n6 : Int)), (11, .slice (pB r22) n6 n6), (12, .slice (pB r23) n6 n6), (14, iq (i : Int)), (18, .slice A129 k131 cp132), (19, iq ((q : Nat) : Int)), (62, iq (i : Int)), (63, .bool true), (132, .slice A129 k131 cp132), (133, iq ((q : Nat) : Int)), (134, .pointer (some ⟨b2, 2, none⟩)), (135, iq W1q), (136, iq (((q : Nat) : Int) % W1q)), (137, iq ((q : Nat) : Int)), (138, .pointer (some ⟨b2, 2, none⟩)), (139, iq W1q), (140, iq (((q : Nat) : Int) / W1q)), (141, .bool (hasL LQ121 (((q : Nat) : Int) % W1q) (((q : Nat) : Int) / W1q))), (142, .bool (!(hasL LQ121 (((q : Nat) : Int) % W1q) (((q : Nat) : Int) / W1q)))), (143, .bool (!(hasL LQ121 (((q : Nat) : Int) % W1q) (((q : Nat) : Int) / W1q))))] (by kernel_rfl) (pok_then (pok_blk (pok_then (pok_then (pok_blk (pok_blk (pok_then (pok_then (pok_blk (pok_then pok_body)))))))))) (by kernel_rfl) rfl rfl (by kernel_rfl) (by kernel_rfl) ?_
      refine drawn_done (by kernel_rfl) ?_
      refine then_normal ?_
      refine cont_recast 143 (.bool (!(hasL LQ121 (((q : Nat) : Int) % W1q) (((q : Nat) : Int) / W1q)))) (.bool false) rfl (congrArg Value.bool (by rw [show (hasL LQ121 (((q : Nat) : Int) % W1q) (((q : Nat) : Int) / W1q)) = true from (hcb2 _ c139_)]; rfl)) ?_
      refine cont_recast 142 (.bool (!(hasL LQ121 (((q : Nat) : Int) % W1q) (((q : Nat) : Int) / W1q)))) (.bool false) rfl (congrArg Value.bool (by rw [show (hasL LQ121 (((q : Nat) : Int) % W1q) (((q : Nat) : Int) / W1q)) = true from (hcb2 _ c139_)]; rfl)) ?_
      refine cont_false rfl ?_
      refine cont_skip ?_
      refine blk_normal ?_
      refine then_normal ?_
      refine cont_region 3 rfl ?_
      refine bS [0, 0] 2 1 [(2, .slice A n cap), (7, .pointer (pB b2)), (8, .pointer (pB b3)), (10, iq (n6 : Int)), (11, .slice (pB r22) n6 n6), (12, .slice (pB r23) n6 n6), (14, iq (i : Int)), (18, .slice A129 k131 cp132), (62, iq (i : Int)), (63, .bool true), (126, iq (IntKind.i64.wrap (((q : Nat) : Int) + 1))), (132, .slice A129 k131 cp132), (133, iq ((q : Nat) : Int)), (134, .pointer (some ⟨b2, 2, none⟩)), (135, iq W1q), (136, iq (((q : Nat) : Int) % W1q)), (137, iq ((q : Nat) : Int)), (138, .pointer (some ⟨b2, 2, none⟩)), (139, iq W1q), (140, iq (((q : Nat) : Int) / W1q)), (141, .bool (hasL LQ121 (((q : Nat) : Int) % W1q) (((q : Nat) : Int) / W1q))), (142, .bool false)] ?_
      refine cont_recast 126 (iq (IntKind.i64.wrap (((q : Nat) : Int) + 1))) (iq (((q : Nat) : Int) + 1)) rfl (wrapI (by omega) (by omega)) ?_
      refine bS [0] 3 0 [(2, .slice A n cap), (7, .pointer (pB b2)), (8, .pointer (pB b3)), (10, iq (n6 : Int)), (11, .slice (pB r22) n6 n6), (12, .slice (pB r23) n6 n6), (14, iq (i : Int)), (18, .slice A129 k131 cp132), (19, iq (((q : Nat) : Int) + 1)), (62, iq (i : Int)), (63, .bool true), (132, .slice A129 k131 cp132), (133, iq ((q : Nat) : Int)), (134, .pointer (some ⟨b2, 2, none⟩)), (135, iq W1q), (136, iq (((q : Nat) : Int) % W1q)), (137, iq ((q : Nat) : Int)), (138, .pointer (some ⟨b2, 2, none⟩)), (139, iq W1q), (140, iq (((q : Nat) : Int) / W1q)), (141, .bool (hasL LQ121 (((q : Nat) : Int) % W1q) (((q : Nat) : Int) / W1q))), (142, .bool false)] ?_
      refine cont_done ?_
      refine then_normal ?_
      refine cont_again (q + 1) (show (q + 1) ≤ n6 from (by omega)) (show n6 - (q + 1) < n6 - q from by omega) (by kernel_rfl) (by kernel_rfl)
     refine takes 0 [] [(5, 0), (6, 0), (7, 0), (10, 0), (11, 0), (8, 0), (12, 0), (9, 0), (13, 0)] 3 [13, 9, 12, 8, 11, 10, 7, 6, 5, 4, 3, 2, 1, 0] [(2, .slice A n cap), (7, .pointer (pB b2)), (8, .pointer (pB b3)), (10, iq (n6 : Int)), (11, .slice (pB r22) n6 n6), (12, .slice (pB r23) n6 n6), (14, iq (i : Int)), (18, .slice A129 k131 cp132), (19, iq ((q : Nat) : Int)), (62, iq (i : Int)), (63, .bool true), (131, .bool false), (132, undef), (133, undef), (134, undef), (135, undef), (136, undef), (137, undef), (138, undef), (139, undef), (140, undef)] (by kernel_rfl) (pok_then (pok_blk (pok_then (pok_then (pok_blk (pok_blk (pok_then (pok_then (pok_blk (pok_then pok_body)))))))))) (by kernel_rfl) rfl rfl (by kernel_rfl) (by kernel_rfl) ?_
     refine drawn_one 14 2 rfl (by kernel_rfl) ?_
     refine one_step 0 [(2, .slice A n cap), (7, .pointer (pB b2)), (8, .pointer (pB b3)), (10, iq (n6 : Int)), (11, .slice (pB r22) n6 n6), (12, .slice (pB r23) n6 n6), (14, iq (i : Int)), (18, .slice A129 k131 cp132), (19, iq ((q : Nat) : Int)), (62, iq (i : Int)), (63, .bool true), (131, .bool false), (132, undef), (133, undef), (134, undef), (135, undef), (136, undef), (137, undef), (138, undef), (139, undef), (140, undef), (141, undef)] [.gen (rowE (A129) g130 k131 cp132 28 4 (rvals LQ121) true), .gen (rowE (A110q) gA111q k112q cp113q 28 4 (rvals LQ120) true), .gen (rowE (B114q) gB115q kB116q cB117q 28 4 (rvals LQ121) true), .gen (rdE (el.A1) el.g1 el.o1 el.m1 4 (rvals el.x1)), .gen (rowE (pB r23) r23 n6 n6 4 1 (bvals bF2) true), .gen (rowE (pB r22) r22 n6 n6 4 1 (bvals bB2) true), .cells b3 [.pointer (pB m4), .pointer (pB m17), .slice A110q k112q cp113q, .slice B114q kB116q cB117q, iq w0, iq w1, iq fr, iq 1] 98 true, .cells m4 [iq W1q, iq H1q, .slice (pB r5) n6 n6] 115 true, .gen (rowE (pB r5) r5 n6 n6 54 1 (ivals .u32 (List.replicate n6 0)) true), .cells m17 [iq W1q, iq H1q, .slice (pB r18) n19 n19] 115 true, .gen (rowE (pB r18) r18 n19 n19 54 1 (ivals .u32 (List.replicate n19 0)) true), .cells b2 [iq 0, iq 0, iq W1q, iq H1q] 28 true, .gen (rdE (A) g o n 7 (dvals Deed18.cells xs)), .gen (subE n (fun i_ => rdE ((dget xs i_).A1) (dget xs i_).g1 (dget xs i_).o1 (dget xs i_).m1 4 (rvals (dget xs i_).x1)))] (by kernel_rfl) (by kernel_rfl) ?_
     refine drawn_next 0 [] (by kernel_rfl) ?_
     refine takes 0 [] [(15, 0), (16, 0)] 0 [16, 15, 14, 13, 9, 12, 8, 11, 10, 7, 6, 5, 4, 3, 2, 1, 0] [(2, .slice A n cap), (7, .pointer (pB b2)), (8, .pointer (pB b3)), (10, iq (n6 : Int)), (11, .slice (pB r22) n6 n6), (12, .slice (pB r23) n6 n6), (14, iq (i : Int)), (18, .slice A129 k131 cp132), (19, iq ((q : Nat) : Int)), (62, iq (i : Int)), (63, .bool true), (132, undef), (133, undef), (134, undef), (135, undef), (136, undef), (137, undef), (138, undef), (139, undef), (140, undef), (141, undef), (142, undef), (143, .bool false)] (by kernel_rfl) (pok_then (pok_blk (pok_then (pok_then (pok_blk (pok_blk (pok_then (pok_then (pok_blk (pok_then pok_body)))))))))) (by kernel_rfl) rfl rfl (by kernel_rfl) (by kernel_rfl) ?_
     refine drawn_done (by kernel_rfl) ?_
     refine then_normal ?_
     refine cont_false rfl ?_
     refine cont_skip ?_
     refine blk_normal ?_
     refine then_normal ?_
     refine cont_region 3 rfl ?_
     refine bS [0, 0] 2 1 [(2, .slice A n cap), (7, .pointer (pB b2)), (8, .pointer (pB b3)), (10, iq (n6 : Int)), (11, .slice (pB r22) n6 n6), (12, .slice (pB r23) n6 n6), (14, iq (i : Int)), (18, .slice A129 k131 cp132), (62, iq (i : Int)), (63, .bool true), (126, iq (IntKind.i64.wrap (((q : Nat) : Int) + 1))), (132, undef), (133, undef), (134, undef), (135, undef), (136, undef), (137, undef), (138, undef), (139, undef), (140, undef), (141, undef), (142, undef)] ?_
     refine cont_recast 126 (iq (IntKind.i64.wrap (((q : Nat) : Int) + 1))) (iq (((q : Nat) : Int) + 1)) rfl (wrapI (by omega) (by omega)) ?_
     refine bS [0] 3 0 [(2, .slice A n cap), (7, .pointer (pB b2)), (8, .pointer (pB b3)), (10, iq (n6 : Int)), (11, .slice (pB r22) n6 n6), (12, .slice (pB r23) n6 n6), (14, iq (i : Int)), (18, .slice A129 k131 cp132), (19, iq (((q : Nat) : Int) + 1)), (62, iq (i : Int)), (63, .bool true), (132, undef), (133, undef), (134, undef), (135, undef), (136, undef), (137, undef), (138, undef), (139, undef), (140, undef), (141, undef), (142, undef)] ?_
     refine cont_done ?_
     refine then_normal ?_
     refine cont_again (q + 1) (show (q + 1) ≤ n6 from (by omega)) (show n6 - (q + 1) < n6 - q from by omega) (by kernel_rfl) (by kernel_rfl)
    replace c136_ := of_decide_eq_false c136_
    refine cont_false rfl ?_
    refine cont_exit ?_
    refine then_exit ?_
    refine then_exit ?_
    refine blk_exit ?_
    refine blk_normal ?_
    refine then_normal ?_
    refine cont_region 3 rfl ?_
    refine bS [0, 0] 2 1 [(2, .slice A n cap), (7, .pointer (pB b2)), (8, .pointer (pB b3)), (10, iq (n6 : Int)), (11, .slice (pB r22) n6 n6), (12, .slice (pB r23) n6 n6), (62, iq (i : Int)), (63, .bool true), (66, iq (IntKind.i64.wrap ((i : Int) + 1)))] ?_
    refine cont_recast 66 (iq (IntKind.i64.wrap ((i : Int) + 1))) (iq ((i : Int) + 1)) rfl (wrapI (by omega) (by omega)) ?_
    refine cont_forget 0 rfl ?_
    refine bS [0] 3 0 [(2, .slice A n cap), (7, .pointer (pB b2)), (8, .pointer (pB b3)), (10, iq (n6 : Int)), (11, .slice (pB r22) n6 n6), (12, .slice (pB r23) n6 n6), (14, iq ((i : Int) + 1)), (62, iq (i : Int)), (63, .bool true)] ?_
    refine cont_done ?_
    refine then_normal ?_
    refine cont_fact (F := (0 < n6 → (pB r22 : Option Addr) = pB r22) ∧ bB2.length = n6 ∧ n6 ≤ n6 ∧ n6 ≤ maxLen) (fun w hT => Row.factsB (hT.ok 4 _ rfl)) (fun hr141_ => ?_)
    obtain ⟨hr141_a, hr141_l, hr141_c, hr141_m⟩ := hr141_
    unfold maxLen at hr141_m
    refine cont_fact (F := (0 < n6 → (pB r23 : Option Addr) = pB r23) ∧ bF2.length = n6 ∧ n6 ≤ n6 ∧ n6 ≤ maxLen) (fun w hT => Row.factsB (hT.ok 3 _ rfl)) (fun hr142_ => ?_)
    obtain ⟨hr142_a, hr142_l, hr142_c, hr142_m⟩ := hr142_
    unfold maxLen at hr142_m
    refine cont_pick [3, 4, 5, 6, 7, 8, 9, 0, 1, 10, 11, 12] [.gen (rowE (pB r23) r23 n6 n6 4 1 (bvals bF2) true), .gen (rowE (pB r22) r22 n6 n6 4 1 (bvals bB2) true), .cells b3 [.pointer (pB m4), .pointer (pB m17), .slice A110q k112q cp113q, .slice B114q kB116q cB117q, iq w0, iq w1, iq fr, iq 1] 98 true, .cells m4 [iq W1q, iq H1q, .slice (pB r5) n6 n6] 115 true, .gen (rowE (pB r5) r5 n6 n6 54 1 (ivals .u32 (List.replicate n6 0)) true), .cells m17 [iq W1q, iq H1q, .slice (pB r18) n19 n19] 115 true, .gen (rowE (pB r18) r18 n19 n19 54 1 (ivals .u32 (List.replicate n19 0)) true), .gen (rowE (A110q) gA111q k112q cp113q 28 4 (rvals LQ120) true), .gen (rowE (B114q) gB115q kB116q cB117q 28 4 (rvals LQ121) true), .cells b2 [iq 0, iq 0, iq W1q, iq H1q] 28 true, .gen (rdE (A) g o n 7 (dvals Deed18.cells xs)), .gen (subE n (fun i_ => rdE ((dget xs i_).A1) (dget xs i_).g1 (dget xs i_).o1 (dget xs i_).m1 4 (rvals (dget xs i_).x1)))] (by decide) rfl rfl ?_
    refine cont_norm [(2, .slice A n cap), (7, .pointer (pB b2)), (8, .pointer (pB b3)), (10, iq (n6 : Int)), (11, .slice (pB r22) n6 n6), (12, .slice (pB r23) n6 n6), (14, iq ((i : Int) + 1)), (62, iq (i : Int)), (63, .bool true)] _ (by kernel_rfl) rfl ?_
    refine cont_again ((i + 1 : Nat), 1, w0, w1, fr, LQ120, A110q, gA111q, k112q, cp113q, LQ121, B114q, gB115q, kB116q, cB117q, bB2, bF2) (show ((i + 1 : Nat)) ≤ 25 ∧ ((i + 1 : Nat)) ≤ n ∧ (1) ≤ 1 ∧ 0 ≤ (fr) ∧ (fr) ≤ (((i + 1 : Nat)) : Int) ∧ 0 ≤ (w0) ∧ (w0) ≤ (fr) ∧ 0 ≤ (w1) ∧ (w1) ≤ (fr) ∧ (k112q) ≤ 64 ∧ (kB116q) ≤ 64 ∧ Cov W1q (bB2) (if (1) = 0 then (LQ120) else (LQ121)) ∧ Cov W1q (bF2) (if (1) = 0 then (LQ121) else (LQ120)) from ⟨by omega, by omega, by omega, by omega, by omega, by omega, by omega, by omega, by omega, by omega, by omega, hcb2, hcf2⟩) (show 40 - ((i + 1 : Nat)) < 40 - i from by omega) (by kernel_rfl) (by kernel_rfl)
   refine cont_recast 63 (.bool (decide ((i : Int) < 25))) (.bool false) rfl (congrArg Value.bool c93_) ?_
   replace c93_ := of_decide_eq_false c93_
   refine cont_false rfl ?_
   refine cont_exit ?_
   refine then_exit ?_
   refine then_exit ?_
   refine blk_exit ?_
   refine then_normal ?_
   refine cont_seq ?_
   refine cont_region 2 rfl ?_
   refine pl_step 1 1 rfl rfl ?_
   refine call_pure (d := 144) (.bool true) (by kernel_rfl) (fun w hT => lives18  w) ?_
   refine bS [0] 2 0 [(6, .bool true)] ?_
   refine cont_forget 0 rfl ?_
   refine cont_forget 0 rfl ?_
   refine cont_forget 0 rfl ?_
   refine cont_forget 0 rfl ?_
   refine cont_forget 1 rfl ?_
   refine cont_forget 2 rfl ?_
   refine cont_forget 2 rfl ?_
   refine cont_forget 2 rfl ?_
   refine cont_done ?_
   refine then_normal ?_
   refine cont_ret ?_
   refine ret_one (.inl rfl) rfl 0 (.bool true) (by kernel_rfl) (by kernel_rfl) (fun w hT => ?_)
   exact ⟨rfl, hT.post rfl⟩
  replace c92_ := of_decide_eq_false c92_
  refine bS [0, 0, 0] 8 0 [(2, .slice A n cap), (7, .pointer (pB b2)), (8, .pointer (pB b3)), (10, iq (n6 : Int)), (11, .slice (pB r22) n6 n6), (12, .slice (pB r23) n6 n6), (14, iq (i : Int)), (62, undef), (63, undef), (64, .bool false)] ?_
  refine cont_done ?_
  refine then_normal ?_
  refine cont_false rfl ?_
  refine cont_exit ?_
  refine then_exit ?_
  refine then_exit ?_
  refine blk_exit ?_
  refine then_normal ?_
  refine cont_seq ?_
  refine cont_region 2 rfl ?_
  refine pl_step 1 1 rfl rfl ?_
  refine call_pure (d := 144) (.bool true) (by kernel_rfl) (fun w hT => lives18  w) ?_
  refine bS [0] 2 0 [(6, .bool true)] ?_
  refine cont_forget 0 rfl ?_
  refine cont_forget 0 rfl ?_
  refine cont_forget 0 rfl ?_
  refine cont_forget 0 rfl ?_
  refine cont_forget 1 rfl ?_
  refine cont_forget 2 rfl ?_
  refine cont_forget 2 rfl ?_
  refine cont_forget 2 rfl ?_
  refine cont_done ?_
  refine then_normal ?_
  refine cont_ret ?_
  refine ret_one (.inl rfl) rfl 0 (.bool true) (by kernel_rfl) (by kernel_rfl) (fun w hT => ?_)
  exact ⟨rfl, hT.post rfl⟩

end Go.Proofs.Ytgmonhehilcegaa

