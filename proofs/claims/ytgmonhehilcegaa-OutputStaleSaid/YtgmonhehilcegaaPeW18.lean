/- Contracts of functions of the given program, printed by a program of this project. -/
import Derived.Test.YtgmonhehilcegaaPeL18
import Derived.Test.YtgmonhehilcegaaProg
set_option linter.unusedVariables false
set_option linter.unusedSimpArgs false
namespace Go.Proofs.Ytgmonhehilcegaa
open Go Go.RowKit
set_option maxRecDepth 100000
set_option maxHeartbeats 8000000

theorem lives18 (w : World) :
    Calls Try.prog 13 #[] w fun e w' => e = .returned (.bool true) ∧ Below w.heap.size w w' := by
 refine enter 50 [] [] Try.func13 rfl Try.ntmps13 rfl (by kernel_rfl) (Tab.start w) ?_
 refine cont_seq ?_
 refine cont_region 1 rfl ?_
 refine bS [0] 1 0 [] ?_
 refine cont_done ?_
 refine then_normal ?_
 refine cont_seq ?_
 refine cont_region 6 rfl ?_
 refine pl_step 1 5 rfl rfl ?_
 refine call_gen (d := 9) (α := Nat × Nat × Nat × Nat × Nat × Nat × Nat × Option Addr × Nat × Nat × Nat × Option Addr × Nat × Nat × Nat) (fun x_ => .tuple #[.pointer (pB x_.1), iq 0]) (fun x_ => [.cells x_.1 [.pointer (pB x_.2.1), .pointer (pB x_.2.2.2.2.1), .slice x_.2.2.2.2.2.2.2.1 x_.2.2.2.2.2.2.2.2.2.1 x_.2.2.2.2.2.2.2.2.2.2.1, .slice x_.2.2.2.2.2.2.2.2.2.2.2.1 x_.2.2.2.2.2.2.2.2.2.2.2.2.2.1 x_.2.2.2.2.2.2.2.2.2.2.2.2.2.2, iq 0, iq 0, iq 0, iq 0] 98 true, .cells x_.2.1 [iq 4, iq 4, .slice (pB x_.2.2.1) x_.2.2.2.1 x_.2.2.2.1] 115 true, .gen (rowE (pB x_.2.2.1) x_.2.2.1 x_.2.2.2.1 x_.2.2.2.1 54 1 (ivals .u32 (List.replicate x_.2.2.2.1 0)) true), .cells x_.2.2.2.2.1 [iq 4, iq 4, .slice (pB x_.2.2.2.2.2.1) x_.2.2.2.2.2.2.1 x_.2.2.2.2.2.2.1] 115 true, .gen (rowE (pB x_.2.2.2.2.2.1) x_.2.2.2.2.2.1 x_.2.2.2.2.2.2.1 x_.2.2.2.2.2.2.1 54 1 (ivals .u32 (List.replicate x_.2.2.2.2.2.2.1 0)) true), .gen (rowE (x_.2.2.2.2.2.2.2.1) x_.2.2.2.2.2.2.2.2.1 x_.2.2.2.2.2.2.2.2.2.1 x_.2.2.2.2.2.2.2.2.2.2.1 28 4 (rvals (canR [(⟨0, 0, 4, 4⟩ : Rect)])) true), .gen (rowE (x_.2.2.2.2.2.2.2.2.2.2.2.1) x_.2.2.2.2.2.2.2.2.2.2.2.2.1 x_.2.2.2.2.2.2.2.2.2.2.2.2.2.1 x_.2.2.2.2.2.2.2.2.2.2.2.2.2.2 28 4 (rvals (canR [(⟨0, 0, 4, 4⟩ : Rect)])) true)]) (fun x_ => (x_.2.2.2.1 : Int) = 4 * 4 ∧ (x_.2.2.2.2.2.2.1 : Int) = 4 * 4) (by kernel_rfl) (fun w hT => (outNew 4 4 w (by decide)).mono fun e w' ⟨b1, m2, r3, n4, m15, r16, n17, A8, g9, k10, cp11, B12, gB13, kB14, cB15, he_, hf_, ht_⟩ => ⟨(b1, m2, r3, n4, m15, r16, n17, A8, g9, k10, cp11, B12, gB13, kB14, cB15), he_, hf_, hT.news ht_ rfl⟩) ?_
 rintro ⟨b1, m2, r3, n4, m15, r16, n17, A8, g9, k10, cp11, B12, gB13, kB14, cB15⟩ hf16_
 replace hf16_ : (n4 : Int) = 4 * 4 ∧ (n17 : Int) = 4 * 4 := hf16_
 refine cont_norm [(9, .tuple #[.pointer (pB b1), iq 0])] [.cells b1 [.pointer (pB m2), .pointer (pB m15), .slice A8 k10 cp11, .slice B12 kB14 cB15, iq 0, iq 0, iq 0, iq 0] 98 true, .cells m2 [iq 4, iq 4, .slice (pB r3) n4 n4] 115 true, .gen (rowE (pB r3) r3 n4 n4 54 1 (ivals .u32 (List.replicate n4 0)) true), .cells m15 [iq 4, iq 4, .slice (pB r16) n17 n17] 115 true, .gen (rowE (pB r16) r16 n17 n17 54 1 (ivals .u32 (List.replicate n17 0)) true), .gen (rowE (A8) g9 k10 cp11 28 4 (rvals (canR [(⟨0, 0, 4, 4⟩ : Rect)])) true), .gen (rowE (B12) gB13 kB14 cB15 28 4 (rvals (canR [(⟨0, 0, 4, 4⟩ : Rect)])) true)] (by kernel_rfl) rfl ?_
 obtain ⟨hf16_a, hf16_b⟩ := hf16_
 have hcl17_ := canR_small (l := [(⟨0, 0, 4, 4⟩ : Rect)]) (by simp)
 refine cont_fact (F := (0 < k10 → (A8 : Option Addr) = pB g9) ∧ (canR [(⟨0, 0, 4, 4⟩ : Rect)]).length = k10 ∧ k10 ≤ cp11 ∧ cp11 ≤ maxLen) (fun w hT => Row.factsR (hT.ok 5 _ rfl)) (fun hr18_ => ?_)
 obtain ⟨hr18_a, hr18_l, hr18_c, hr18_m⟩ := hr18_
 unfold maxLen at hr18_m
 refine cont_fact (F := (0 < kB14 → (B12 : Option Addr) = pB gB13) ∧ (canR [(⟨0, 0, 4, 4⟩ : Rect)]).length = kB14 ∧ kB14 ≤ cB15 ∧ cB15 ≤ maxLen) (fun w hT => Row.factsR (hT.ok 6 _ rfl)) (fun hr19_ => ?_)
 obtain ⟨hr19_a, hr19_l, hr19_c, hr19_m⟩ := hr19_
 unfold maxLen at hr19_m
 refine bS [0, 0, 0, 0, 0] 6 0 [(1, .pointer (pB b1)), (2, iq 0)] ?_
 refine cont_done ?_
 refine then_normal ?_
 refine cont_seq ?_
 refine cont_seq ?_
 refine cont_region 6 rfl ?_
 refine bS [0, 0, 0, 0, 0, 0] 6 0 [(1, .pointer (pB b1)), (17, .bool false)] ?_
 refine cont_done ?_
 refine then_normal ?_
 refine cont_false rfl ?_
 refine cont_skip ?_
 refine then_normal ?_
 refine cont_seq ?_
 refine cont_region 3 rfl ?_
 refine batch1 [0, 0, 0] 3 0 (fun b20 => [(1, .pointer (pB b1)), (3, .slice (pB b20) 1 1)]) (fun b20 => [.cells b20 [iq 0, iq 0, iq 4, iq 4] 28 true, .cells b1 [.pointer (pB m2), .pointer (pB m15), .slice A8 k10 cp11, .slice B12 kB14 cB15, iq 0, iq 0, iq 0, iq 0] 98 true, .cells m2 [iq 4, iq 4, .slice (pB r3) n4 n4] 115 true, .gen (rowE (pB r3) r3 n4 n4 54 1 (ivals .u32 (List.replicate n4 0)) true), .cells m15 [iq 4, iq 4, .slice (pB r16) n17 n17] 115 true, .gen (rowE (pB r16) r16 n17 n17 54 1 (ivals .u32 (List.replicate n17 0)) true), .gen (rowE (A8) g9 k10 cp11 28 4 (rvals (canR [(⟨0, 0, 4, 4⟩ : Rect)])) true), .gen (rowE (B12) gB13 kB14 cB15 28 4 (rvals (canR [(⟨0, 0, 4, 4⟩ : Rect)])) true)]) rfl rfl [1, 3] (fun _ => rfl) (fun b20 => by kernel_rfl) (fun b20 => by kernel_rfl) (fun b20 => ?_)
 refine cont_done ?_
 refine then_normal ?_
 refine cont_seq ?_
 refine cont_region 5 rfl ?_
 refine bS [0] 1 4 [(1, .pointer (pB b1)), (3, .slice (pB b20) 1 1), (20, .pointer (pB b1))] ?_
 refine pl_step 2 3 rfl rfl ?_
 refine call_gen (d := 21) (α := Option Addr × Nat × Nat × Nat) (fun x_ => .slice x_.1 x_.2.2.1 x_.2.2.2) (fun x_ => [.gen (rowE (x_.1) x_.2.1 x_.2.2.1 x_.2.2.2 28 4 (rvals (canR [(⟨0, 0, 4, 4⟩ : Rect)])) true), .cells b20 [iq 0, iq 0, iq 4, iq 4] 28 true, .cells b1 [.pointer (pB m2), .pointer (pB m15), .slice A8 k10 cp11, .slice B12 kB14 cB15, iq 0, iq 0, iq 0, iq 0] 98 true, .cells m2 [iq 4, iq 4, .slice (pB r3) n4 n4] 115 true, .gen (rowE (pB r3) r3 n4 n4 54 1 (ivals .u32 (List.replicate n4 0)) true), .cells m15 [iq 4, iq 4, .slice (pB r16) n17 n17] 115 true, .gen (rowE (pB r16) r16 n17 n17 54 1 (ivals .u32 (List.replicate n17 0)) true), .gen (rowE (A8) g9 k10 cp11 28 4 (rvals (canR [(⟨0, 0, 4, 4⟩ : Rect)])) true), .gen (rowE (B12) gB13 kB14 cB15 28 4 (rvals (canR [(⟨0, 0, 4, 4⟩ : Rect)])) true)]) (fun x_ => True) (by kernel_rfl) (fun w hT => (outStale0 b1 m2 m15 A8 B12 k10 cp11 kB14 cB15 0 0 0 g9 (canR [(⟨0, 0, 4, 4⟩ : Rect)]) w (hT.viewRo (.cons (i := 1) rfl Vw.roc (.cons (i := 6) rfl Vw.rowRd .nil)) rfl) (by omega)).mono fun e w' ⟨A21, g22, k23, cp24, he_, ht_⟩ => ⟨(A21, g22, k23, cp24), he_, trivial, hT.news ht_ rfl⟩) ?_
 rintro ⟨A21, g22, k23, cp24⟩ hf25_
 refine cont_norm [(1, .pointer (pB b1)), (3, .slice (pB b20) 1 1), (20, .pointer (pB b1)), (21, .slice A21 k23 cp24)] [.gen (rowE (A21) g22 k23 cp24 28 4 (rvals (canR [(⟨0, 0, 4, 4⟩ : Rect)])) true), .cells b20 [iq 0, iq 0, iq 4, iq 4] 28 true, .cells b1 [.pointer (pB m2), .pointer (pB m15), .slice A8 k10 cp11, .slice B12 kB14 cB15, iq 0, iq 0, iq 0, iq 0] 98 true, .cells m2 [iq 4, iq 4, .slice (pB r3) n4 n4] 115 true, .gen (rowE (pB r3) r3 n4 n4 54 1 (ivals .u32 (List.replicate n4 0)) true), .cells m15 [iq 4, iq 4, .slice (pB r16) n17 n17] 115 true, .gen (rowE (pB r16) r16 n17 n17 54 1 (ivals .u32 (List.replicate n17 0)) true), .gen (rowE (A8) g9 k10 cp11 28 4 (rvals (canR [(⟨0, 0, 4, 4⟩ : Rect)])) true), .gen (rowE (B12) gB13 kB14 cB15 28 4 (rvals (canR [(⟨0, 0, 4, 4⟩ : Rect)])) true)] (by kernel_rfl) rfl ?_
 refine cont_fact (F := (0 < k23 → (A21 : Option Addr) = pB g22) ∧ (canR [(⟨0, 0, 4, 4⟩ : Rect)]).length = k23 ∧ k23 ≤ cp24 ∧ cp24 ≤ maxLen) (fun w hT => Row.factsR (hT.ok 0 _ rfl)) (fun hr26_ => ?_)
 obtain ⟨hr26_a, hr26_l, hr26_c, hr26_m⟩ := hr26_
 unfold maxLen at hr26_m
 refine bS [0] 3 2 [(1, .pointer (pB b1)), (3, .slice (pB b20) 1 1), (21, .slice A21 k23 cp24), (22, .slice (pB b20) 1 1)] ?_
 refine pl_step 4 1 rfl rfl ?_
 refine cont_asRow 1 1 4 rfl (vals := rvals [(⟨0, 0, 4, 4⟩ : Rect)]) rfl rfl (by decide) ?_
 refine call_pure (d := 23) (.bool (decide ((canR [(⟨0, 0, 4, 4⟩ : Rect)]) = [(⟨0, 0, 4, 4⟩ : Rect)]))) (by kernel_rfl) (fun w hT => refSame A21 g22 0 k23 cp24 (canR [(⟨0, 0, 4, 4⟩ : Rect)]) (pB b20) b20 0 1 1 [(⟨0, 0, 4, 4⟩ : Rect)] w (hT.viewRo (.cons (i := 0) rfl Vw.rowRd (.cons (i := 1) rfl Vw.rowRd .nil)) rfl) (by omega)) ?_
 refine bS [0] 5 0 [(1, .pointer (pB b1)), (3, .slice (pB b20) 1 1), (4, .bool (decide ((canR [(⟨0, 0, 4, 4⟩ : Rect)]) = [(⟨0, 0, 4, 4⟩ : Rect)])))] ?_
 refine cont_done ?_
 refine then_normal ?_
 refine cont_seq ?_
 refine cont_region 3 rfl ?_
 refine bS [0] 1 2 [(1, .pointer (pB b1)), (3, .slice (pB b20) 1 1), (4, .bool (decide ((canR [(⟨0, 0, 4, 4⟩ : Rect)]) = [(⟨0, 0, 4, 4⟩ : Rect)]))), (24, .pointer (pB b1))] ?_
 refine pl_step 2 1 rfl rfl ?_
 refine call_gen (d := 25) (α := Unit) (fun _ => iq (0 + 1)) (fun _ => [.gen (rowE (A21) g22 k23 cp24 28 4 (rvals (canR [(⟨0, 0, 4, 4⟩ : Rect)])) true), .gen (rowE (pB b20) b20 1 1 28 4 (rvals [(⟨0, 0, 4, 4⟩ : Rect)]) true), .cells b1 [.pointer (pB m2), .pointer (pB m15), .slice none 0 0, .slice B12 kB14 cB15, iq (0 + 1), iq 0, iq (0 + 1), iq 1] 98 true, .cells m2 [iq 4, iq 4, .slice (pB r3) n4 n4] 115 true, .gen (rowE (pB r3) r3 n4 n4 54 1 (ivals .u32 (List.replicate n4 0)) true), .cells m15 [iq 4, iq 4, .slice (pB r16) n17 n17] 115 true, .gen (rowE (pB r16) r16 n17 n17 54 1 (ivals .u32 (List.replicate n17 0)) true), .gen (rowE (A8) g9 k10 cp11 28 4 (rvals (canR [(⟨0, 0, 4, 4⟩ : Rect)])) true), .gen (rowE (B12) gB13 kB14 cB15 28 4 (rvals (canR [(⟨0, 0, 4, 4⟩ : Rect)])) true)]) (fun _ => True) (by kernel_rfl) (fun w hT => (outFlip0 b1 m2 m15 A8 B12 k10 cp11 kB14 cB15 0 0 0 w (hT.view (.cons (i := 2) rfl Vw.rw .nil) (by decide)) (by omega)).mono fun e w' ⟨he_, ht_⟩ => ⟨(), he_, trivial, hT.merge (N := []) (s := [2]) ht_ (.cons (i := 2) rfl Mg.cells .nil) (by decide) (fun i e h => by simp at h)⟩) (fun _ _ => ?_)
 refine cont_norm [(1, .pointer (pB b1)), (3, .slice (pB b20) 1 1), (4, .bool (decide ((canR [(⟨0, 0, 4, 4⟩ : Rect)]) = [(⟨0, 0, 4, 4⟩ : Rect)]))), (24, .pointer (pB b1)), (25, iq (0 + 1))] [.gen (rowE (A21) g22 k23 cp24 28 4 (rvals (canR [(⟨0, 0, 4, 4⟩ : Rect)])) true), .gen (rowE (pB b20) b20 1 1 28 4 (rvals [(⟨0, 0, 4, 4⟩ : Rect)]) true), .cells b1 [.pointer (pB m2), .pointer (pB m15), .slice none 0 0, .slice B12 kB14 cB15, iq 1, iq 0, iq 1, iq 1] 98 true, .cells m2 [iq 4, iq 4, .slice (pB r3) n4 n4] 115 true, .gen (rowE (pB r3) r3 n4 n4 54 1 (ivals .u32 (List.replicate n4 0)) true), .cells m15 [iq 4, iq 4, .slice (pB r16) n17 n17] 115 true, .gen (rowE (pB r16) r16 n17 n17 54 1 (ivals .u32 (List.replicate n17 0)) true), .gen (rowE (A8) g9 k10 cp11 28 4 (rvals (canR [(⟨0, 0, 4, 4⟩ : Rect)])) true), .gen (rowE (B12) gB13 kB14 cB15 28 4 (rvals (canR [(⟨0, 0, 4, 4⟩ : Rect)])) true)] (by kernel_rfl) (congrArg (fun c_ : List Value => ([.gen (rowE (A21) g22 k23 cp24 28 4 (rvals (canR [(⟨0, 0, 4, 4⟩ : Rect)])) true), .gen (rowE (pB b20) b20 1 1 28 4 (rvals [(⟨0, 0, 4, 4⟩ : Rect)]) true), .cells b1 c_ 98 true, .cells m2 [iq 4, iq 4, .slice (pB r3) n4 n4] 115 true, .gen (rowE (pB r3) r3 n4 n4 54 1 (ivals .u32 (List.replicate n4 0)) true), .cells m15 [iq 4, iq 4, .slice (pB r16) n17 n17] 115 true, .gen (rowE (pB r16) r16 n17 n17 54 1 (ivals .u32 (List.replicate n17 0)) true), .gen (rowE (A8) g9 k10 cp11 28 4 (rvals (canR [(⟨0, 0, 4, 4⟩ : Rect)])) true), .gen (rowE (B12) gB13 kB14 cB15 28 4 (rvals (canR [(⟨0, 0, 4, 4⟩ : Rect)])) true)] : List Ent)) rfl) ?_
 refine cont_recast 25 (iq (0 + 1)) (iq 1) rfl (congrArg (Value.int .i64) rfl) ?_
 refine bS [0] 3 0 [(1, .pointer (pB b1)), (3, .slice (pB b20) 1 1), (4, .bool (decide ((canR [(⟨0, 0, 4, 4⟩ : Rect)]) = [(⟨0, 0, 4, 4⟩ : Rect)]))), (5, iq 1)] ?_
 refine cont_done ?_
 refine then_normal ?_
 refine cont_seq ?_
 refine cont_region 5 rfl ?_
 refine bS [0] 1 4 [(1, .pointer (pB b1)), (3, .slice (pB b20) 1 1), (4, .bool (decide ((canR [(⟨0, 0, 4, 4⟩ : Rect)]) = [(⟨0, 0, 4, 4⟩ : Rect)]))), (5, iq 1), (26, .pointer (pB b1))] ?_
 refine pl_step 2 3 rfl rfl ?_
 refine call_gen (d := 27) (α := Option Addr × Nat × Nat × Nat) (fun x_ => .slice x_.1 x_.2.2.1 x_.2.2.2) (fun x_ => [.gen (rowE (x_.1) x_.2.1 x_.2.2.1 x_.2.2.2 28 4 (rvals (canR [(⟨0, 0, 4, 4⟩ : Rect)])) true), .gen (rowE (A21) g22 k23 cp24 28 4 (rvals (canR [(⟨0, 0, 4, 4⟩ : Rect)])) true), .gen (rowE (pB b20) b20 1 1 28 4 (rvals [(⟨0, 0, 4, 4⟩ : Rect)]) true), .cells b1 [.pointer (pB m2), .pointer (pB m15), .slice none 0 0, .slice B12 kB14 cB15, iq 1, iq 0, iq 1, iq 1] 98 true, .cells m2 [iq 4, iq 4, .slice (pB r3) n4 n4] 115 true, .gen (rowE (pB r3) r3 n4 n4 54 1 (ivals .u32 (List.replicate n4 0)) true), .cells m15 [iq 4, iq 4, .slice (pB r16) n17 n17] 115 true, .gen (rowE (pB r16) r16 n17 n17 54 1 (ivals .u32 (List.replicate n17 0)) true), .gen (rowE (A8) g9 k10 cp11 28 4 (rvals (canR [(⟨0, 0, 4, 4⟩ : Rect)])) true), .gen (rowE (B12) gB13 kB14 cB15 28 4 (rvals (canR [(⟨0, 0, 4, 4⟩ : Rect)])) true)]) (fun x_ => True) (by kernel_rfl) (fun w hT => (outStale1 b1 m2 m15 none B12 0 0 kB14 cB15 1 0 1 gB13 (canR [(⟨0, 0, 4, 4⟩ : Rect)]) w (hT.viewRo (.cons (i := 2) rfl Vw.roc (.cons (i := 8) rfl Vw.rowRd .nil)) rfl) (by omega)).mono fun e w' ⟨A27, g28, k29, cp30, he_, ht_⟩ => ⟨(A27, g28, k29, cp30), he_, trivial, hT.news ht_ rfl⟩) ?_
 rintro ⟨A27, g28, k29, cp30⟩ hf31_
 refine cont_norm [(1, .pointer (pB b1)), (3, .slice (pB b20) 1 1), (4, .bool (decide ((canR [(⟨0, 0, 4, 4⟩ : Rect)]) = [(⟨0, 0, 4, 4⟩ : Rect)]))), (5, iq 1), (26, .pointer (pB b1)), (27, .slice A27 k29 cp30)] [.gen (rowE (A27) g28 k29 cp30 28 4 (rvals (canR [(⟨0, 0, 4, 4⟩ : Rect)])) true), .gen (rowE (A21) g22 k23 cp24 28 4 (rvals (canR [(⟨0, 0, 4, 4⟩ : Rect)])) true), .gen (rowE (pB b20) b20 1 1 28 4 (rvals [(⟨0, 0, 4, 4⟩ : Rect)]) true), .cells b1 [.pointer (pB m2), .pointer (pB m15), .slice none 0 0, .slice B12 kB14 cB15, iq 1, iq 0, iq 1, iq 1] 98 true, .cells m2 [iq 4, iq 4, .slice (pB r3) n4 n4] 115 true, .gen (rowE (pB r3) r3 n4 n4 54 1 (ivals .u32 (List.replicate n4 0)) true), .cells m15 [iq 4, iq 4, .slice (pB r16) n17 n17] 115 true, .gen (rowE (pB r16) r16 n17 n17 54 1 (ivals .u32 (List.replicate n17 0)) true), .gen (rowE (A8) g9 k10 cp11 28 4 (rvals (canR [(⟨0, 0, 4, 4⟩ : Rect)])) true), .gen (rowE (B12) gB13 kB14 cB15 28 4 (rvals (canR [(⟨0, 0, 4, 4⟩ : Rect)])) true)] (by kernel_rfl) rfl ?_
 refine cont_fact (F := (0 < k29 → (A27 : Option Addr) = pB g28) ∧ (canR [(⟨0, 0, 4, 4⟩ : Rect)]).length = k29 ∧ k29 ≤ cp30 ∧ cp30 ≤ maxLen) (fun w hT => Row.factsR (hT.ok 0 _ rfl)) (fun hr32_ => ?_)
 obtain ⟨hr32_a, hr32_l, hr32_c, hr32_m⟩ := hr32_
 unfold maxLen at hr32_m
 refine bS [0] 3 2 [(1, .pointer (pB b1)), (4, .bool (decide ((canR [(⟨0, 0, 4, 4⟩ : Rect)]) = [(⟨0, 0, 4, 4⟩ : Rect)]))), (5, iq 1), (27, .slice A27 k29 cp30), (28, .slice (pB b20) 1 1)] ?_
 refine pl_step 4 1 rfl rfl ?_
 refine call_pure (d := 29) (.bool (decide ((canR [(⟨0, 0, 4, 4⟩ : Rect)]) = [(⟨0, 0, 4, 4⟩ : Rect)]))) (by kernel_rfl) (fun w hT => refSame A27 g28 0 k29 cp30 (canR [(⟨0, 0, 4, 4⟩ : Rect)]) (pB b20) b20 0 1 1 [(⟨0, 0, 4, 4⟩ : Rect)] w (hT.viewRo (.cons (i := 0) rfl Vw.rowRd (.cons (i := 2) rfl Vw.rowRd .nil)) rfl) (by omega)) ?_
 refine bS [0] 5 0 [(1, .pointer (pB b1)), (4, .bool (decide ((canR [(⟨0, 0, 4, 4⟩ : Rect)]) = [(⟨0, 0, 4, 4⟩ : Rect)]))), (5, iq 1), (6, .bool (decide ((canR [(⟨0, 0, 4, 4⟩ : Rect)]) = [(⟨0, 0, 4, 4⟩ : Rect)])))] ?_
 refine cont_done ?_
 refine then_normal ?_
 refine cont_seq ?_
 refine cont_region 3 rfl ?_
 refine bS [0] 1 2 [(1, .pointer (pB b1)), (4, .bool (decide ((canR [(⟨0, 0, 4, 4⟩ : Rect)]) = [(⟨0, 0, 4, 4⟩ : Rect)]))), (5, iq 1), (6, .bool (decide ((canR [(⟨0, 0, 4, 4⟩ : Rect)]) = [(⟨0, 0, 4, 4⟩ : Rect)]))), (30, .pointer (pB b1))] ?_
 refine pl_step 2 1 rfl rfl ?_
 refine call_gen (d := 31) (α := Unit) (fun _ => iq (1 + 1)) (fun _ => [.gen (rowE (A27) g28 k29 cp30 28 4 (rvals (canR [(⟨0, 0, 4, 4⟩ : Rect)])) true), .gen (rowE (A21) g22 k23 cp24 28 4 (rvals (canR [(⟨0, 0, 4, 4⟩ : Rect)])) true), .gen (rowE (pB b20) b20 1 1 28 4 (rvals [(⟨0, 0, 4, 4⟩ : Rect)]) true), .cells b1 [.pointer (pB m2), .pointer (pB m15), .slice none 0 0, .slice none 0 0, iq 1, iq (1 + 1), iq (1 + 1), iq 0] 98 true, .cells m2 [iq 4, iq 4, .slice (pB r3) n4 n4] 115 true, .gen (rowE (pB r3) r3 n4 n4 54 1 (ivals .u32 (List.replicate n4 0)) true), .cells m15 [iq 4, iq 4, .slice (pB r16) n17 n17] 115 true, .gen (rowE (pB r16) r16 n17 n17 54 1 (ivals .u32 (List.replicate n17 0)) true), .gen (rowE (A8) g9 k10 cp11 28 4 (rvals (canR [(⟨0, 0, 4, 4⟩ : Rect)])) true), .gen (rowE (B12) gB13 kB14 cB15 28 4 (rvals (canR [(⟨0, 0, 4, 4⟩ : Rect)])) true)]) (fun _ => True) (by kernel_rfl) (fun w hT => (outFlip1 b1 m2 m15 none B12 0 0 kB14 cB15 1 0 1 w (hT.view (.cons (i := 3) rfl Vw.rw .nil) (by decide)) (by omega)).mono fun e w' ⟨he_, ht_⟩ => ⟨(), he_, trivial, hT.merge (N := []) (s := [3]) ht_ (.cons (i := 3) rfl Mg.cells .nil) (by decide) (fun i e h => by simp at h)⟩) (fun _ _ => ?_)
 refine cont_norm [(1, .pointer (pB b1)), (4, .bool (decide ((canR [(⟨0, 0, 4, 4⟩ : Rect)]) = [(⟨0, 0, 4, 4⟩ : Rect)]))), (5, iq 1), (6, .bool (decide ((canR [(⟨0, 0, 4, 4⟩ : Rect)]) = [(⟨0, 0, 4, 4⟩ : Rect)]))), (30, .pointer (pB b1)), (31, iq (1 + 1))] [.gen (rowE (A27) g28 k29 cp30 28 4 (rvals (canR [(⟨0, 0, 4, 4⟩ : Rect)])) true), .gen (rowE (A21) g22 k23 cp24 28 4 (rvals (canR [(⟨0, 0, 4, 4⟩ : Rect)])) true), .gen (rowE (pB b20) b20 1 1 28 4 (rvals [(⟨0, 0, 4, 4⟩ : Rect)]) true), .cells b1 [.pointer (pB m2), .pointer (pB m15), .slice none 0 0, .slice none 0 0, iq 1, iq 2, iq 2, iq 0] 98 true, .cells m2 [iq 4, iq 4, .slice (pB r3) n4 n4] 115 true, .gen (rowE (pB r3) r3 n4 n4 54 1 (ivals .u32 (List.replicate n4 0)) true), .cells m15 [iq 4, iq 4, .slice (pB r16) n17 n17] 115 true, .gen (rowE (pB r16) r16 n17 n17 54 1 (ivals .u32 (List.replicate n17 0)) true), .gen (rowE (A8) g9 k10 cp11 28 4 (rvals (canR [(⟨0, 0, 4, 4⟩ : Rect)])) true), .gen (rowE (B12) gB13 kB14 cB15 28 4 (rvals (canR [(⟨0, 0, 4, 4⟩ : Rect)])) true)] (by kernel_rfl) (congrArg (fun c_ : List Value => ([.gen (rowE (A27) g28 k29 cp30 28 4 (rvals (canR [(⟨0, 0, 4, 4⟩ : Rect)])) true), .gen (rowE (A21) g22 k23 cp24 28 4 (rvals (canR [(⟨0, 0, 4, 4⟩ : Rect)])) true), .gen (rowE (pB b20) b20 1 1 28 4 (rvals [(⟨0, 0, 4, 4⟩ : Rect)]) true), .cells b1 c_ 98 true, .cells m2 [iq 4, iq 4, .slice (pB r3) n4 n4] 115 true, .gen (rowE (pB r3) r3 n4 n4 54 1 (ivals .u32 (List.replicate n4 0)) true), .cells m15 [iq 4, iq 4, .slice (pB r16) n17 n17] 115 true, .gen (rowE (pB r16) r16 n17 n17 54 1 (ivals .u32 (List.replicate n17 0)) true), .gen (rowE (A8) g9 k10 cp11 28 4 (rvals (canR [(⟨0, 0, 4, 4⟩ : Rect)])) true), .gen (rowE (B12) gB13 kB14 cB15 28 4 (rvals (canR [(⟨0, 0, 4, 4⟩ : Rect)])) true)] : List Ent)) rfl) ?_
 refine cont_recast 31 (iq (1 + 1)) (iq 2) rfl (congrArg (Value.int .i64) rfl) ?_
 refine bS [0] 3 0 [(1, .pointer (pB b1)), (4, .bool (decide ((canR [(⟨0, 0, 4, 4⟩ : Rect)]) = [(⟨0, 0, 4, 4⟩ : Rect)]))), (5, iq 1), (6, .bool (decide ((canR [(⟨0, 0, 4, 4⟩ : Rect)]) = [(⟨0, 0, 4, 4⟩ : Rect)]))), (7, iq 2)] ?_
 refine cont_done ?_
 refine then_normal ?_
 refine cont_seq ?_
 refine cont_region 19 rfl ?_
 refine bS [0, 0] 2 17 [(1, .pointer (pB b1)), (5, iq 1), (6, .bool (decide ((canR [(⟨0, 0, 4, 4⟩ : Rect)]) = [(⟨0, 0, 4, 4⟩ : Rect)]))), (7, iq 2), (33, .bool (decide ((canR [(⟨0, 0, 4, 4⟩ : Rect)]) = [(⟨0, 0, 4, 4⟩ : Rect)])))] ?_
 refine cont_recast 33 (.bool (decide ((canR [(⟨0, 0, 4, 4⟩ : Rect)]) = [(⟨0, 0, 4, 4⟩ : Rect)]))) (.bool true) rfl (congrArg Value.bool (decide_eq_true (can_one rfl))) ?_
 refine cont_recast 6 (.bool (decide ((canR [(⟨0, 0, 4, 4⟩ : Rect)]) = [(⟨0, 0, 4, 4⟩ : Rect)]))) (.bool true) rfl (congrArg Value.bool (decide_eq_true (can_one rfl))) ?_
 refine bS [0, 0, 0, 0, 0, 0, 0, 0, 0, 0, 0, 0] 14 5 [(44, .bool true), (45, .pointer (pB b1))] ?_
 refine pl_step 15 4 rfl rfl ?_
 refine cont_nilrow 28 4 ?_
 refine cont_norm [(44, .bool true), (45, .pointer (pB b1))] [.gen (rowE (none) 0 0 0 28 4 (rvals []) true), .gen (rowE (A27) g28 k29 cp30 28 4 (rvals (canR [(⟨0, 0, 4, 4⟩ : Rect)])) true), .gen (rowE (A21) g22 k23 cp24 28 4 (rvals (canR [(⟨0, 0, 4, 4⟩ : Rect)])) true), .gen (rowE (pB b20) b20 1 1 28 4 (rvals [(⟨0, 0, 4, 4⟩ : Rect)]) true), .cells b1 [.pointer (pB m2), .pointer (pB m15), .slice none 0 0, .slice none 0 0, iq 1, iq 2, iq 2, iq 0] 98 true, .cells m2 [iq 4, iq 4, .slice (pB r3) n4 n4] 115 true, .gen (rowE (pB r3) r3 n4 n4 54 1 (ivals .u32 (List.replicate n4 0)) true), .cells m15 [iq 4, iq 4, .slice (pB r16) n17 n17] 115 true, .gen (rowE (pB r16) r16 n17 n17 54 1 (ivals .u32 (List.replicate n17 0)) true), .gen (rowE (A8) g9 k10 cp11 28 4 (rvals (canR [(⟨0, 0, 4, 4⟩ : Rect)])) true), .gen (rowE (B12) gB13 kB14 cB15 28 4 (rvals (canR [(⟨0, 0, 4, 4⟩ : Rect)])) true)] (by kernel_rfl) rfl ?_
 refine call_gen (d := 46) (α := Option Addr × Nat × Nat × Nat) (fun x_ => .slice x_.1 x_.2.2.1 x_.2.2.2) (fun x_ => [.gen (rowE (x_.1) x_.2.1 x_.2.2.1 x_.2.2.2 28 4 (rvals ([] : List Rect)) true), .gen (rowE (none) 0 0 0 28 4 (rvals ([] : List Rect)) true), .gen (rowE (A27) g28 k29 cp30 28 4 (rvals (canR [(⟨0, 0, 4, 4⟩ : Rect)])) true), .gen (rowE (A21) g22 k23 cp24 28 4 (rvals (canR [(⟨0, 0, 4, 4⟩ : Rect)])) true), .gen (rowE (pB b20) b20 1 1 28 4 (rvals [(⟨0, 0, 4, 4⟩ : Rect)]) true), .cells b1 [.pointer (pB m2), .pointer (pB m15), .slice none 0 0, .slice none 0 0, iq 1, iq 2, iq 2, iq 0] 98 true, .cells m2 [iq 4, iq 4, .slice (pB r3) n4 n4] 115 true, .gen (rowE (pB r3) r3 n4 n4 54 1 (ivals .u32 (List.replicate n4 0)) true), .cells m15 [iq 4, iq 4, .slice (pB r16) n17 n17] 115 true, .gen (rowE (pB r16) r16 n17 n17 54 1 (ivals .u32 (List.replicate n17 0)) true), .gen (rowE (A8) g9 k10 cp11 28 4 (rvals (canR [(⟨0, 0, 4, 4⟩ : Rect)])) true), .gen (rowE (B12) gB13 kB14 cB15 28 4 (rvals (canR [(⟨0, 0, 4, 4⟩ : Rect)])) true)]) (fun x_ => True) (by kernel_rfl) (fun w hT => (outStale0 b1 m2 m15 none none 0 0 0 0 1 2 2 0 ([] : List Rect) w (hT.viewRo (.cons (i := 4) rfl Vw.roc (.cons (i := 0) rfl Vw.rowRd .nil)) rfl) (by omega)).mono fun e w' ⟨A35, g36, k37, cp38, he_, ht_⟩ => ⟨(A35, g36, k37, cp38), he_, trivial, hT.news ht_ rfl⟩) ?_
 rintro ⟨A35, g36, k37, cp38⟩ hf39_
 refine cont_norm [(44, .bool true), (45, .pointer (pB b1)), (46, .slice A35 k37 cp38)] [.gen (rowE (A35) g36 k37 cp38 28 4 (rvals ([] : List Rect)) true), .gen (rowE (none) 0 0 0 28 4 (rvals ([] : List Rect)) true), .gen (rowE (A27) g28 k29 cp30 28 4 (rvals (canR [(⟨0, 0, 4, 4⟩ : Rect)])) true), .gen (rowE (A21) g22 k23 cp24 28 4 (rvals (canR [(⟨0, 0, 4, 4⟩ : Rect)])) true), .gen (rowE (pB b20) b20 1 1 28 4 (rvals [(⟨0, 0, 4, 4⟩ : Rect)]) true), .cells b1 [.pointer (pB m2), .pointer (pB m15), .slice none 0 0, .slice none 0 0, iq 1, iq 2, iq 2, iq 0] 98 true, .cells m2 [iq 4, iq 4, .slice (pB r3) n4 n4] 115 true, .gen (rowE (pB r3) r3 n4 n4 54 1 (ivals .u32 (List.replicate n4 0)) true), .cells m15 [iq 4, iq 4, .slice (pB r16) n17 n17] 115 true, .gen (rowE (pB r16) r16 n17 n17 54 1 (ivals .u32 (List.replicate n17 0)) true), .gen (rowE (A8) g9 k10 cp11 28 4 (rvals (canR [(⟨0, 0, 4, 4⟩ : Rect)])) true), .gen (rowE (B12) gB13 kB14 cB15 28 4 (rvals (canR [(⟨0, 0, 4, 4⟩ : Rect)])) true)] (by kernel_rfl) rfl ?_
 refine cont_fact (F := (0 < k37 → (A35 : Option Addr) = pB g36) ∧ ([] : List Rect).length = k37 ∧ k37 ≤ cp38 ∧ cp38 ≤ maxLen) (fun w hT => Row.factsR (hT.ok 0 _ rfl)) (fun hr40_ => ?_)
 obtain ⟨hr40_a, hr40_l, hr40_c, hr40_m⟩ := hr40_
 unfold maxLen at hr40_m
 refine bS [0, 0, 0, 0] 19 0 [(0, .bool ((k37 : Int) == 0))] ?_
 refine cont_forget 5 rfl ?_
 refine cont_forget 5 rfl ?_
 refine cont_forget 6 rfl ?_
 refine cont_done ?_
 refine then_normal ?_
 refine cont_ret ?_
 refine ret_one (.inl rfl) rfl 0 (.bool ((k37 : Int) == 0)) (by kernel_rfl) (by kernel_rfl) (fun w hT => ?_)
 exact ⟨ret_bool (by rw [show k37 = 0 from (‹([] : List Rect).length = k37›).symm]; rfl), hT.post rfl⟩

end Go.Proofs.Ytgmonhehilcegaa

