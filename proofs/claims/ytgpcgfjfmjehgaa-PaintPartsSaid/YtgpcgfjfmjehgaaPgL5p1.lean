/- Contracts of functions of the given program, printed by a program of this project. -/
import Derived.Test.YtgpcgfjfmjehgaaPgL4b
import Derived.Test.YtgpcgfjfmjehgaaPgPt
import Derived.Test.YtgpcgfjfmjehgaaProg
set_option linter.unusedVariables false
set_option linter.unusedSimpArgs false
namespace Go.Proofs.Ytgpcgfjfmjehgaa
open Go Go.RowKit
set_option maxRecDepth 100000
set_option maxHeartbeats 8000000

theorem colPart (p q : Int) (w : World) :
    Calls Try.prog 72 #[.int .i64 p, .int .i64 q] w fun e w' => e = .returned (.int .i64 (partI p q)) ∧ Below w.heap.size w w' := by
  have hcm := clip_mul p q
  refine enter 12 [(0, .int .i64 p), (1, .int .i64 q)] [] Try.func72 rfl Try.ntmps72 rfl (by kernel_rfl) (Tab.start w) ?_
  refine cont_seq ?_
  refine cont_region 1 rfl ?_
  refine bS [0] 1 0 [(0, .int .i64 p), (1, .int .i64 q)] ?_
  refine cont_done ?_
  refine then_normal ?_
  refine cont_seq ?_
  refine cont_region 8 rfl ?_
  refine bS [0] 1 7 [(1, .int .i64 q), (5, .int .i64 p)] ?_
  refine pl_step 2 6 rfl rfl ?_
  refine call_pure (d := 6) (.int .i64 (clip p)) (by kernel_rfl) (fun w hT => colorCut p w) ?_
  refine bS [0] 3 5 [(6, .int .i64 (clip p)), (7, .int .i64 q)] ?_
  refine pl_step 4 4 rfl rfl ?_
  refine call_pure (d := 8) (.int .i64 (clip q)) (by kernel_rfl) (fun w hT => colorCut q w) ?_
  refine bS [0] 5 3 [(9, .int .i64 (IntKind.i64.wrap ((clip p) * (clip q))))] ?_
  refine cont_recast 9 (.int .i64 (IntKind.i64.wrap ((clip p) * (clip q)))) (.int .i64 ((clip p) * (clip q))) rfl (wrapI (by omega) (by omega)) ?_
  refine bS [0] 6 2 [(10, .int .i64 (IntKind.i64.wrap (((clip p) * (clip q)) + 127)))] ?_
  refine cont_recast 10 (.int .i64 (IntKind.i64.wrap (((clip p) * (clip q)) + 127))) (.int .i64 (((clip p) * (clip q)) + 127)) rfl (wrapI (by omega) (by omega)) ?_
  refine bS [0] 7 1 [(11, .int .i64 (IntKind.i64.wrap ((((clip p) * (clip q)) + 127).tdiv 255)))] ?_
  refine cont_recast 11 (.int .i64 (IntKind.i64.wrap ((((clip p) * (clip q)) + 127).tdiv 255))) (.int .i64 ((((clip p) * (clip q)) + 127) / 255)) rfl (tdivI (by omega) (by omega) (by omega)) ?_
  refine bS [0] 8 0 [(4, .int .i64 ((((clip p) * (clip q)) + 127) / 255))] ?_
  refine cont_done ?_
  refine then_normal ?_
  refine cont_ret ?_
  refine ret_one (.inl rfl) rfl 0 (.int .i64 ((((clip p) * (clip q)) + 127) / 255)) (by kernel_rfl) (by kernel_rfl) (fun w hT => ?_)
  exact ⟨rfl, hT.post rfl⟩

theorem over0 (kb1 kb2 : Nat) (a r g b s n : Int) (w : World) (hT0 : Tab w w [.ro kb1 [.int .i64 a, .int .i64 r, .int .i64 g, .int .i64 b] 72, .ro kb2 [.int .i64 s] 3]) (h : 0 ≤ a ∧ a ≤ 255) :
    Calls Try.prog 71 #[.int .i64 0, .int .i64 n, .pointer (some ⟨kb1, 0, none⟩), .pointer (some ⟨kb2, 0, none⟩)] w fun e w' => e = .returned (.int .i64 (a + partI n s)) ∧ Below w.heap.size w w' := by
  have hpi := partI_range n s
  refine enter 14 [(0, .int .i64 0), (1, .int .i64 n), (2, .pointer (some ⟨kb1, 0, none⟩)), (3, .pointer (some ⟨kb2, 0, none⟩))] [.ro kb1 [.int .i64 a, .int .i64 r, .int .i64 g, .int .i64 b] 72, .ro kb2 [.int .i64 s] 3] Try.func71 rfl Try.ntmps71 rfl (by kernel_rfl) hT0 ?_
  refine cont_seq ?_
  refine cont_region 1 rfl ?_
  refine bS [0] 1 0 [(0, .int .i64 0), (1, .int .i64 n), (2, .pointer (some ⟨kb1, 0, none⟩)), (3, .pointer (some ⟨kb2, 0, none⟩))] ?_
  refine cont_done ?_
  refine then_normal ?_
  refine cont_seq ?_
  refine drawn_enter 8 [] rfl (by kernel_rfl) ?_
  refine takes 0 [] [(0, 0), (3, 0), (4, 1), (1, 0), (2, 0)] 3 [2, 1, 4, 3, 0] [(9, .int .i64 a), (10, .int .i64 n), (11, .int .i64 s)] (by kernel_rfl) (pok_then pok_body) (by kernel_rfl) rfl rfl (by kernel_rfl) (by kernel_rfl) ?_
  refine drawn_one 5 2 rfl (by kernel_rfl) ?_
  refine call_pure (d := 12) (.int .i64 (partI n s)) (by kernel_rfl) (fun w hT => colPart n s w) ?_
  refine drawn_next 0 [] (by kernel_rfl) ?_
  refine takes 0 [] [(6, 0)] 1 [6, 5, 2, 1, 4, 3, 0] [(13, .int .i64 (IntKind.i64.wrap (a + (partI n s))))] (by kernel_rfl) (pok_then pok_body) (by kernel_rfl) rfl rfl (by kernel_rfl) (by kernel_rfl) ?_
  refine cont_recast 13 (.int .i64 (IntKind.i64.wrap (a + (partI n s)))) (.int .i64 (a + (partI n s))) rfl (wrapI (by omega) (by omega)) ?_
  refine takes 0 [] [(7, 0)] 0 [7, 6, 5, 2, 1, 4, 3, 0] [(6, .int .i64 (a + (partI n s)))] (by kernel_rfl) (pok_then pok_body) (by kernel_rfl) rfl rfl (by kernel_rfl) (by kernel_rfl) ?_
  refine drawn_done (by kernel_rfl) ?_
  refine then_normal ?_
  refine cont_ret ?_
  refine ret_one (.inl rfl) rfl 0 (.int .i64 (a + (partI n s))) (by kernel_rfl) (by kernel_rfl) (fun w hT => ?_)
  exact ⟨rfl, hT.post rfl⟩

theorem over1 (kb1 kb2 : Nat) (a r g b s n : Int) (w : World) (hT0 : Tab w w [.ro kb1 [.int .i64 a, .int .i64 r, .int .i64 g, .int .i64 b] 72, .ro kb2 [.int .i64 s] 3]) (h : 0 ≤ r ∧ r ≤ 255) :
    Calls Try.prog 71 #[.int .i64 1, .int .i64 n, .pointer (some ⟨kb1, 0, none⟩), .pointer (some ⟨kb2, 0, none⟩)] w fun e w' => e = .returned (.int .i64 (r + partI n s)) ∧ Below w.heap.size w w' := by
  have hpi := partI_range n s
  refine enter 14 [(0, .int .i64 1), (1, .int .i64 n), (2, .pointer (some ⟨kb1, 0, none⟩)), (3, .pointer (some ⟨kb2, 0, none⟩))] [.ro kb1 [.int .i64 a, .int .i64 r, .int .i64 g, .int .i64 b] 72, .ro kb2 [.int .i64 s] 3] Try.func71 rfl Try.ntmps71 rfl (by kernel_rfl) hT0 ?_
  refine cont_seq ?_
  refine cont_region 1 rfl ?_
  refine bS [0] 1 0 [(0, .int .i64 1), (1, .int .i64 n), (2, .pointer (some ⟨kb1, 0, none⟩)), (3, .pointer (some ⟨kb2, 0, none⟩))] ?_
  refine cont_done ?_
  refine then_normal ?_
  refine cont_seq ?_
  refine drawn_enter 8 [] rfl (by kernel_rfl) ?_
  refine takes 0 [] [(0, 0), (3, 0), (4, 1), (1, 0), (2, 0)] 3 [2, 1, 4, 3, 0] [(9, .int .i64 r), (10, .int .i64 n), (11, .int .i64 s)] (by kernel_rfl) (pok_then pok_body) (by kernel_rfl) rfl rfl (by kernel_rfl) (by kernel_rfl) ?_
  refine drawn_one 5 2 rfl (by kernel_rfl) ?_
  refine call_pure (d := 12) (.int .i64 (partI n s)) (by kernel_rfl) (fun w hT => colPart n s w) ?_
  refine drawn_next 0 [] (by kernel_rfl) ?_
  refine takes 0 [] [(6, 0)] 1 [6, 5, 2, 1, 4, 3, 0] [(13, .int .i64 (IntKind.i64.wrap (r + (partI n s))))] (by kernel_rfl) (pok_then pok_body) (by kernel_rfl) rfl rfl (by kernel_rfl) (by kernel_rfl) ?_
  refine cont_recast 13 (.int .i64 (IntKind.i64.wrap (r + (partI n s)))) (.int .i64 (r + (partI n s))) rfl (wrapI (by omega) (by omega)) ?_
  refine takes 0 [] [(7, 0)] 0 [7, 6, 5, 2, 1, 4, 3, 0] [(6, .int .i64 (r + (partI n s)))] (by kernel_rfl) (pok_then pok_body) (by kernel_rfl) rfl rfl (by kernel_rfl) (by kernel_rfl) ?_
  refine drawn_done (by kernel_rfl) ?_
  refine then_normal ?_
  refine cont_ret ?_
  refine ret_one (.inl rfl) rfl 0 (.int .i64 (r + (partI n s))) (by kernel_rfl) (by kernel_rfl) (fun w hT => ?_)
  exact ⟨rfl, hT.post rfl⟩

theorem over2 (kb1 kb2 : Nat) (a r g b s n : Int) (w : World) (hT0 : Tab w w [.ro kb1 [.int .i64 a, .int .i64 r, .int .i64 g, .int .i64 b] 72, .ro kb2 [.int .i64 s] 3]) (h : 0 ≤ g ∧ g ≤ 255) :
    Calls Try.prog 71 #[.int .i64 2, .int .i64 n, .pointer (some ⟨kb1, 0, none⟩), .pointer (some ⟨kb2, 0, none⟩)] w fun e w' => e = .returned (.int .i64 (g + partI n s)) ∧ Below w.heap.size w w' := by
  have hpi := partI_range n s
  refine enter 14 [(0, .int .i64 2), (1, .int .i64 n), (2, .pointer (some ⟨kb1, 0, none⟩)), (3, .pointer (some ⟨kb2, 0, none⟩))] [.ro kb1 [.int .i64 a, .int .i64 r, .int .i64 g, .int .i64 b] 72, .ro kb2 [.int .i64 s] 3] Try.func71 rfl Try.ntmps71 rfl (by kernel_rfl) hT0 ?_
  refine cont_seq ?_
  refine cont_region 1 rfl ?_
  refine bS [0] 1 0 [(0, .int .i64 2), (1, .int .i64 n), (2, .pointer (some ⟨kb1, 0, none⟩)), (3, .pointer (some ⟨kb2, 0, none⟩))] ?_
  refine cont_done ?_
  refine then_normal ?_
  refine cont_seq ?_
  refine drawn_enter 8 [] rfl (by kernel_rfl) ?_
  refine takes 0 [] [(0, 0), (3, 0), (4, 1), (1, 0), (2, 0)] 3 [2, 1, 4, 3, 0] [(9, .int .i64 g), (10, .int .i64 n), (11, .int .i64 s)] (by kernel_rfl) (pok_then pok_body) (by kernel_rfl) rfl rfl (by kernel_rfl) (by kernel_rfl) ?_
  refine drawn_one 5 2 rfl (by kernel_rfl) ?_
  refine call_pure (d := 12) (.int .i64 (partI n s)) (by kernel_rfl) (fun w hT => colPart n s w) ?_
  refine drawn_next 0 [] (by kernel_rfl) ?_
  refine takes 0 [] [(6, 0)] 1 [6, 5, 2, 1, 4, 3, 0] [(13, .int .i64 (IntKind.i64.wrap (g + (partI n s))))] (by kernel_rfl) (pok_then pok_body) (by kernel_rfl) rfl rfl (by kernel_rfl) (by kernel_rfl) ?_
  refine cont_recast 13 (.int .i64 (IntKind.i64.wrap (g + (partI n s)))) (.int .i64 (g + (partI n s))) rfl (wrapI (by omega) (by omega)) ?_
  refine takes 0 [] [(7, 0)] 0 [7, 6, 5, 2, 1, 4, 3, 0] [(6, .int .i64 (g + (partI n s)))] (by kernel_rfl) (pok_then pok_body) (by kernel_rfl) rfl rfl (by kernel_rfl) (by kernel_rfl) ?_
  refine drawn_done (by kernel_rfl) ?_
  refine then_normal ?_
  refine cont_ret ?_
  refine ret_one (.inl rfl) rfl 0 (.int .i64 (g + (partI n s))) (by kernel_rfl) (by kernel_rfl) (fun w hT => ?_)
  exact ⟨rfl, hT.post rfl⟩

theorem over3 (kb1 kb2 : Nat) (a r g b s n : Int) (w : World) (hT0 : Tab w w [.ro kb1 [.int .i64 a, .int .i64 r, .int .i64 g, .int .i64 b] 72, .ro kb2 [.int .i64 s] 3]) (h : 0 ≤ b ∧ b ≤ 255) :
    Calls Try.prog 71 #[.int .i64 3, .int .i64 n, .pointer (some ⟨kb1, 0, none⟩), .pointer (some ⟨kb2, 0, none⟩)] w fun e w' => e = .returned (.int .i64 (b + partI n s)) ∧ Below w.heap.size w w' := by
  have hpi := partI_range n s
  refine enter 14 [(0, .int .i64 3), (1, .int .i64 n), (2, .pointer (some ⟨kb1, 0, none⟩)), (3, .pointer (some ⟨kb2, 0, none⟩))] [.ro kb1 [.int .i64 a, .int .i64 r, .int .i64 g, .int .i64 b] 72, .ro kb2 [.int .i64 s] 3] Try.func71 rfl Try.ntmps71 rfl (by kernel_rfl) hT0 ?_
  refine cont_seq ?_
  refine cont_region 1 rfl ?_
  refine bS [0] 1 0 [(0, .int .i64 3), (1, .int .i64 n), (2, .pointer (some ⟨kb1, 0, none⟩)), (3, .pointer (some ⟨kb2, 0, none⟩))] ?_
  refine cont_done ?_
  refine then_normal ?_
  refine cont_seq ?_
  refine drawn_enter 8 [] rfl (by kernel_rfl) ?_
  refine takes 0 [] [(0, 0), (3, 0), (4, 1), (1, 0), (2, 0)] 3 [2, 1, 4, 3, 0] [(9, .int .i64 b), (10, .int .i64 n), (11, .int .i64 s)] (by kernel_rfl) (pok_then pok_body) (by kernel_rfl) rfl rfl (by kernel_rfl) (by kernel_rfl) ?_
  refine drawn_one 5 2 rfl (by kernel_rfl) ?_
  refine call_pure (d := 12) (.int .i64 (partI n s)) (by kernel_rfl) (fun w hT => colPart n s w) ?_
  refine drawn_next 0 [] (by kernel_rfl) ?_
  refine takes 0 [] [(6, 0)] 1 [6, 5, 2, 1, 4, 3, 0] [(13, .int .i64 (IntKind.i64.wrap (b + (partI n s))))] (by kernel_rfl) (pok_then pok_body) (by kernel_rfl) rfl rfl (by kernel_rfl) (by kernel_rfl) ?_
  refine cont_recast 13 (.int .i64 (IntKind.i64.wrap (b + (partI n s)))) (.int .i64 (b + (partI n s))) rfl (wrapI (by omega) (by omega)) ?_
  refine takes 0 [] [(7, 0)] 0 [7, 6, 5, 2, 1, 4, 3, 0] [(6, .int .i64 (b + (partI n s)))] (by kernel_rfl) (pok_then pok_body) (by kernel_rfl) rfl rfl (by kernel_rfl) (by kernel_rfl) ?_
  refine drawn_done (by kernel_rfl) ?_
  refine then_normal ?_
  refine cont_ret ?_
  refine ret_one (.inl rfl) rfl 0 (.int .i64 (b + (partI n s))) (by kernel_rfl) (by kernel_rfl) (fun w hT => ?_)
  exact ⟨rfl, hT.post rfl⟩

theorem eachOver (kb1 kb2 : Nat) (a r g b s c : Int) (w : World) (hT0 : Tab w w [.ro kb1 [.int .i64 a, .int .i64 r, .int .i64 g, .int .i64 b] 72, .ro kb2 [.int .i64 s] 3]) (hr : (0 ≤ a ∧ a ≤ 255) ∧ (0 ≤ r ∧ r ≤ 255) ∧ (0 ≤ g ∧ g ≤ 255) ∧ (0 ≤ b ∧ b ≤ 255)) (h0 : 0 ≤ c) (h1 : c < 4294967296) :
    Calls Try.prog 70 #[.int .u32 c, .func (.func 71) #[] #[.pointer (some ⟨kb1, 0, none⟩), .pointer (some ⟨kb2, 0, none⟩)]] w fun e w' => e = .returned (.int .u32 (mkC (a + partI (pa c) s) (r + partI (pr c) s) (g + partI (pg c) s) (b + partI (pb c) s))) ∧ Below w.heap.size w w' := by
  refine enter 30 [(0, .int .u32 c), (1, .func (.func 71) #[] #[.pointer (some ⟨kb1, 0, none⟩), .pointer (some ⟨kb2, 0, none⟩)])] [.ro kb1 [.int .i64 a, .int .i64 r, .int .i64 g, .int .i64 b] 72, .ro kb2 [.int .i64 s] 3] Try.func70 rfl Try.ntmps70 rfl (by kernel_rfl) hT0 ?_
  refine cont_seq ?_
  refine cont_region 1 rfl ?_
  refine bS [0] 1 0 [(0, .int .u32 c), (1, .func (.func 71) #[] #[.pointer (some ⟨kb1, 0, none⟩), .pointer (some ⟨kb2, 0, none⟩)])] ?_
  refine cont_done ?_
  refine then_normal ?_
  refine cont_seq ?_
  refine cont_region 4 rfl ?_
  refine bS [0] 1 3 [(1, .func (.func 71) #[] #[.pointer (some ⟨kb1, 0, none⟩), .pointer (some ⟨kb2, 0, none⟩)]), (7, .int .u32 c)] ?_
  refine pl_step 2 2 rfl rfl ?_
  refine call_pure (d := 8) (.agg #[.int .i64 (pa c), .int .i64 (pr c), .int .i64 (pg c), .int .i64 (pb c)]) (by kernel_rfl) (fun w hT => colorParts c w (by omega) (by omega)) ?_
  refine batch1 [0, 0] 4 0 (fun b1 => [(1, .func (.func 71) #[] #[.pointer (some ⟨kb1, 0, none⟩), .pointer (some ⟨kb2, 0, none⟩)]), (5, .pointer (some ⟨b1, 0, none⟩))]) (fun b1 => [.cells b1 [.int .i64 (pa c), .int .i64 (pr c), .int .i64 (pg c), .int .i64 (pb c)] 72 true, .ro kb1 [.int .i64 a, .int .i64 r, .int .i64 g, .int .i64 b] 72, .ro kb2 [.int .i64 s] 3]) rfl rfl [1, 5] (fun _ => rfl) (fun b1 => by kernel_rfl) (fun b1 => by kernel_rfl) (fun b1 => ?_)
  refine cont_done ?_
  refine then_normal ?_
  refine cont_seq ?_
  refine cont_seq ?_
  refine cont_region 1 rfl ?_
  refine bS [0] 1 0 [(1, .func (.func 71) #[] #[.pointer (some ⟨kb1, 0, none⟩), .pointer (some ⟨kb2, 0, none⟩)]), (5, .pointer (some ⟨b1, 0, none⟩)), (9, .int .i64 0)] ?_
  refine cont_done ?_
  refine then_normal ?_
  refine cont_block ?_
  refine cont_rounds 5 ?_
  refine cont_round 5 4 rfl ?_
  refine cont_seq ?_
  refine cont_region 1 rfl ?_
  refine bS [0] 1 0 [(1, .func (.func 71) #[] #[.pointer (some ⟨kb1, 0, none⟩), .pointer (some ⟨kb2, 0, none⟩)]), (5, .pointer (some ⟨b1, 0, none⟩)), (9, .int .i64 0), (10, .bool true)] ?_
  refine cont_done ?_
  refine then_normal ?_
  refine cont_seq ?_
  refine cont_true rfl ?_
  refine cont_skip ?_
  refine then_normal ?_
  refine cont_seq ?_
  refine cont_block ?_
  refine cont_seq ?_
  refine cont_region 2 rfl ?_
  refine bS [0, 0] 2 0 [(1, .func (.func 71) #[] #[.pointer (some ⟨kb1, 0, none⟩), .pointer (some ⟨kb2, 0, none⟩)]), (5, .pointer (some ⟨b1, 0, none⟩)), (6, .int .i64 0), (9, .int .i64 0)] ?_
  refine cont_done ?_
  refine then_normal ?_
  refine cont_region 9 rfl ?_
  refine bS [0, 0, 0, 0, 0, 0] 6 3 [(1, .func (.func 71) #[] #[.pointer (some ⟨kb1, 0, none⟩), .pointer (some ⟨kb2, 0, none⟩)]), (5, .pointer (some ⟨b1, 0, none⟩)), (9, .int .i64 0), (12, .int .i64 0), (13, .func (.func 71) #[] #[.pointer (some ⟨kb1, 0, none⟩), .pointer (some ⟨kb2, 0, none⟩)]), (14, .int .i64 0), (17, .int .i64 (pa c))] ?_
  refine pl_step 7 2 rfl rfl ?_
  refine call_pure (d := 18) (.int .i64 (a + partI (pa c) s)) (by kernel_rfl) (fun w hT => over0 kb1 kb2 a r g b s (pa c) w (hT.viewRo (.cons (i := 1) rfl Vw.ro (.cons (i := 2) rfl Vw.ro .nil)) rfl) (by omega)) ?_
  refine batch0 [0, 0] 9 0 [(1, .func (.func 71) #[] #[.pointer (some ⟨kb1, 0, none⟩), .pointer (some ⟨kb2, 0, none⟩)]), (5, .pointer (some ⟨b1, 0, none⟩)), (9, .int .i64 0)] [.cells b1 [.int .i64 (a + partI (pa c) s), .int .i64 (pr c), .int .i64 (pg c), .int .i64 (pb c)] 72 true, .ro kb1 [.int .i64 a, .int .i64 r, .int .i64 g, .int .i64 b] 72, .ro kb2 [.int .i64 s] 3] rfl rfl (by kernel_rfl) (by kernel_rfl) ?_
  refine cont_done ?_
  refine blk_normal ?_
  refine then_normal ?_
  refine cont_region 2 rfl ?_
  refine bS [0, 0] 2 0 [(1, .func (.func 71) #[] #[.pointer (some ⟨kb1, 0, none⟩), .pointer (some ⟨kb2, 0, none⟩)]), (5, .pointer (some ⟨b1, 0, none⟩)), (9, .int .i64 1)] ?_
  refine cont_done ?_
  refine then_normal ?_
  refine cont_round 4 3 rfl ?_
  refine cont_seq ?_
  refine cont_region 1 rfl ?_
  refine bS [0] 1 0 [(1, .func (.func 71) #[] #[.pointer (some ⟨kb1, 0, none⟩), .pointer (some ⟨kb2, 0, none⟩)]), (5, .pointer (some ⟨b1, 0, none⟩)), (9, .int .i64 1), (10, .bool true)] ?_
  refine cont_done ?_
  refine then_normal ?_
  refine cont_seq ?_
  refine cont_true rfl ?_
  refine cont_skip ?_
  refine then_normal ?_
  refine cont_seq ?_
  refine cont_block ?_
  refine cont_seq ?_
  refine cont_region 2 rfl ?_
  refine bS [0, 0] 2 0 [(1, .func (.func 71) #[] #[.pointer (some ⟨kb1, 0, none⟩), .pointer (some ⟨kb2, 0, none⟩)]), (5, .pointer (some ⟨b1, 0, none⟩)), (6, .int .i64 1), (9, .int .i64 1)] ?_
  refine cont_done ?_
  refine then_normal ?_
  refine cont_region 9 rfl ?_
  refine bS [0, 0, 0, 0, 0, 0] 6 3 [(1, .func (.func 71) #[] #[.pointer (some ⟨kb1, 0, none⟩), .pointer (some ⟨kb2, 0, none⟩)]), (5, .pointer (some ⟨b1, 0, none⟩)), (9, .int .i64 1), (12, .int .i64 1), (13, .func (.func 71) #[] #[.pointer (some ⟨kb1, 0, none⟩), .pointer (some ⟨kb2, 0, none⟩)]), (14, .int .i64 1), (17, .int .i64 (pr c))] ?_
  refine pl_step 7 2 rfl rfl ?_
  refine call_pure (d := 18) (.int .i64 (r + partI (pr c) s)) (by kernel_rfl) (fun w hT => over1 kb1 kb2 a r g b s (pr c) w (hT.viewRo (.cons (i := 1) rfl Vw.ro (.cons (i := 2) rfl Vw.ro .nil)) rfl) (by omega)) ?_
  refine batch0 [0, 0] 9 0 [(1, .func (.func 71) #[] #[.pointer (some ⟨kb1, 0, none⟩), .pointer (some ⟨kb2, 0, none⟩)]), (5, .pointer (some ⟨b1, 0, none⟩)), (9, .int .i64 1)] [.cells b1 [.int .i64 (a + partI (pa c) s), .int .i64 (r + partI (pr c) s), .int .i64 (pg c), .int .i64 (pb c)] 72 true, .ro kb1 [.int .i64 a, .int .i64 r, .int .i64 g, .int .i64 b] 72, .ro kb2 [.int .i64 s] 3] rfl rfl (by kernel_rfl) (by kernel_rfl) ?_
  refine cont_done ?_
  refine blk_normal ?_
  refine then_normal ?_
  refine cont_region 2 rfl ?_
  refine bS [0, 0] 2 0 [(1, .func (.func 71) #[] #[.pointer (some ⟨kb1, 0, none⟩), .pointer (some ⟨kb2, 0, none⟩)]), (5, .pointer (some ⟨b1, 0, none⟩)), (9, .int .i64 2)] ?_
  refine cont_done ?_
  refine then_normal ?_
  refine cont_round 3 2 rfl ?_
  refine cont_seq ?_
  refine cont_region 1 rfl ?_
  refine bS [0] 1 0 [(1, .func (.func 71) #[] #[.pointer (some ⟨kb1, 0, none⟩), .pointer (some ⟨kb2, 0, none⟩)]), (5, .pointer (some ⟨b1, 0, none⟩)), (9, .int .i64 2), (10, .bool true)] ?_
  refine cont_done ?_
  refine then_normal ?_
  refine cont_seq ?_
  refine cont_true rfl ?_
  refine cont_skip ?_
  refine then_normal ?_
  refine cont_seq ?_
  refine cont_block ?_
  refine cont_seq ?_
  refine cont_region 2 rfl ?_
  refine bS [0, 0] 2 0 [(1, .func (.func 71) #[] #[.pointer (some ⟨kb1, 0, none⟩), .pointer (some ⟨kb2, 0, none⟩)]), (5, .pointer (some ⟨b1, 0, none⟩)), (6, .int .i64 2), (9, .int .i64 2)] ?_
  refine cont_done ?_
  refine then_normal ?_
  refine cont_region 9 rfl ?_
  refine bS [0, 0, 0, 0, 0, 0] 6 3 [(1, .func (.func 71) #[] #[.pointer (some ⟨kb1, 0, none⟩), .pointer (some ⟨kb2, 0, none⟩)]), (5, .pointer (some ⟨b1, 0, none⟩)), (9, .int .i64 2), (12, .int .i64 2), (13, .func (.func 71) #[] #[.pointer (some ⟨kb1, 0, none⟩), .pointer (some ⟨kb2, 0, none⟩)]), (14, .int .i64 2), (17, .int .i64 (pg c))] ?_
  refine pl_step 7 2 rfl rfl ?_
  refine call_pure (d := 18) (.int .i64 (g + partI (pg c) s)) (by kernel_rfl) (fun w hT => over2 kb1 kb2 a r g b s (pg c) w (hT.viewRo (.cons (i := 1) rfl Vw.ro (.cons (i := 2) rfl Vw.ro .nil)) rfl) (by omega)) ?_
  refine batch0 [0, 0] 9 0 [(1, .func (.func 71) #[] #[.pointer (some ⟨kb1, 0, none⟩), .pointer (some ⟨kb2, 0, none⟩)]), (5, .pointer (some ⟨b1, 0, none⟩)), (9, .int .i64 2)] [.cells b1 [.int .i64 (a + partI (pa c) s), .int .i64 (r + partI (pr c) s), .int .i64 (g + partI (pg c) s), .int .i64 (pb c)] 72 true, .ro kb1 [.int .i64 a, .int .i64 r, .int .i64 g, .int .i64 b] 72, .ro kb2 [.int .i64 s] 3] rfl rfl (by kernel_rfl) (by kernel_rfl) ?_
  refine cont_done ?_
  refine blk_normal ?_
  refine then_normal ?_
  refine cont_region 2 rfl ?_
  refine bS [0, 0] 2 0 [(1, .func (.func 71) #[] #[.pointer (some ⟨kb1, 0, none⟩), .pointer (some ⟨kb2, 0, none⟩)]), (5, .pointer (some ⟨b1, 0, none⟩)), (9, .int .i64 3)] ?_
  refine cont_done ?_
  refine then_normal ?_
  refine cont_round 2 1 rfl ?_
  refine cont_seq ?_
  refine cont_region 1 rfl ?_
  refine bS [0] 1 0 [(1, .func (.func 71) #[] #[.pointer (some ⟨kb1, 0, none⟩), .pointer (some ⟨kb2, 0, none⟩)]), (5, .pointer (some ⟨b1, 0, none⟩)), (9, .int .i64 3), (10, .bool true)] ?_
  refine cont_done ?_
  refine then_normal ?_
  refine cont_seq ?_
  refine cont_true rfl ?_
  refine cont_skip ?_
  refine then_normal ?_
  refine cont_seq ?_
  refine cont_block ?_
  refine cont_seq ?_
  refine cont_region 2 rfl ?_
  refine bS [0, 0] 2 0 [(1, .func (.func 71) #[] #[.pointer (some ⟨kb1, 0, none⟩), .pointer (some ⟨kb2, 0, none⟩)]), (5, .pointer (some ⟨b1, 0, none⟩)), (6, .int .i64 3), (9, .int .i64 3)] ?_
  refine cont_done ?_
  refine then_normal ?_
  refine cont_region 9 rfl ?_
  refine bS [0, 0, 0, 0, 0, 0] 6 3 [(1, .func (.func 71) #[] #[.pointer (some ⟨kb1, 0, none⟩), .pointer (some ⟨kb2, 0, none⟩)]), (5, .pointer (some ⟨b1, 0, none⟩)), (9, .int .i64 3), (12, .int .i64 3), (13, .func (.func 71) #[] #[.pointer (some ⟨kb1, 0, none⟩), .pointer (some ⟨kb2, 0, none⟩)]), (14, .int .i64 3), (17, .int .i64 (pb c))] ?_
  refine pl_step 7 2 rfl rfl ?_
  refine call_pure (d := 18) (.int .i64 (b + partI (pb c) s)) (by kernel_rfl) (fun w hT => over3 kb1 kb2 a r g b s (pb c) w (hT.viewRo (.cons (i := 1) rfl Vw.ro (.cons (i := 2) rfl Vw.ro .nil)) rfl) (by omega)) ?_
  refine batch0 [0, 0] 9 0 [(1, .func (.func 71) #[] #[.pointer (some ⟨kb1, 0, none⟩), .pointer (some ⟨kb2, 0, none⟩)]), (5, .pointer (some ⟨b1, 0, none⟩)), (9, .int .i64 3)] [.cells b1 [.int .i64 (a + partI (pa c) s), .int .i64 (r + partI (pr c) s), .int .i64 (g + partI (pg c) s), .int .i64 (b + partI (pb c) s)] 72 true, .ro kb1 [.int .i64 a, .int .i64 r, .int .i64 g, .int .i64 b] 72, .ro kb2 [.int .i64 s] 3] rfl rfl (by kernel_rfl) (by kernel_rfl) ?_
  refine cont_done ?_
  refine blk_normal ?_
  refine then_normal ?_
  refine cont_region 2 rfl ?_
  refine bS [0, 0] 2 0 [(1, .func (.func 71) #[] #[.pointer (some ⟨kb1, 0, none⟩), .pointer (some ⟨kb2, 0, none⟩)]), (5, .pointer (some ⟨b1, 0, none⟩)), (9, .int .i64 4)] ?_
  refine cont_done ?_
  refine then_normal ?_
  refine cont_round 1 0 rfl ?_
  refine cont_seq ?_
  refine cont_region 1 rfl ?_
  refine bS [0] 1 0 [(1, .func (.func 71) #[] #[.pointer (some ⟨kb1, 0, none⟩), .pointer (some ⟨kb2, 0, none⟩)]), (5, .pointer (some ⟨b1, 0, none⟩)), (9, .int .i64 4), (10, .bool false)] ?_
  refine cont_done ?_
  refine then_normal ?_
  refine cont_seq ?_
  refine cont_false rfl ?_
  refine cont_exit ?_
  refine then_exit ?_
  refine then_exit ?_
  refine blk_exit ?_
  refine then_normal ?_
  refine cont_seq ?_
  refine cont_region 10 rfl ?_
  refine bS [0, 0, 0, 0, 0, 0, 0, 0] 8 2 [(22, .int .i64 (a + partI (pa c) s)), (24, .int .i64 (r + partI (pr c) s)), (26, .int .i64 (g + partI (pg c) s)), (28, .int .i64 (b + partI (pb c) s))] ?_
  refine cont_forget 0 rfl ?_
  refine pl_step 9 1 rfl rfl ?_
  refine call_pure (d := 29) (.int .u32 (mkC (a + partI (pa c) s) (r + partI (pr c) s) (g + partI (pg c) s) (b + partI (pb c) s))) (by kernel_rfl) (fun w hT => colorMake (a + partI (pa c) s) (r + partI (pr c) s) (g + partI (pg c) s) (b + partI (pb c) s) w) ?_
  refine bS [0] 10 0 [(4, .int .u32 (mkC (a + partI (pa c) s) (r + partI (pr c) s) (g + partI (pg c) s) (b + partI (pb c) s)))] ?_
  refine cont_done ?_
  refine then_normal ?_
  refine cont_ret ?_
  refine ret_one (.inl rfl) rfl 0 (.int .u32 (mkC (a + partI (pa c) s) (r + partI (pr c) s) (g + partI (pg c) s) (b + partI (pb c) s))) (by kernel_rfl) (by kernel_rfl) (fun w hT => ?_)
  exact ⟨rfl, hT.post rfl⟩

theorem fade1 (kb1 : Nat) (al i n : Int) (w : World) (hT0 : Tab w w [.ro kb1 [.int .i64 al] 3]) :
    Calls Try.prog 73 #[.int .i64 i, .int .i64 n, .pointer (some ⟨kb1, 0, none⟩)] w fun e w' => e = .returned (.int .i64 (partI n al)) ∧ Below w.heap.size w w' := by
  refine enter 9 [(1, .int .i64 n), (2, .pointer (some ⟨kb1, 0, none⟩))] [.ro kb1 [.int .i64 al] 3] Try.func73 rfl Try.ntmps73 rfl (by kernel_rfl) hT0 ?_
  refine cont_seq ?_
  refine cont_region 1 rfl ?_
  refine bS [0] 1 0 [(1, .int .i64 n), (2, .pointer (some ⟨kb1, 0, none⟩))] ?_
  refine cont_done ?_
  refine then_normal ?_
  refine cont_seq ?_
  refine cont_region 4 rfl ?_
  refine bS [0, 0] 2 2 [(6, .int .i64 n), (7, .int .i64 al)] ?_
  refine pl_step 3 1 rfl rfl ?_
  refine call_pure (d := 8) (.int .i64 (partI n al)) (by kernel_rfl) (fun w hT => colPart n al w) ?_
  refine bS [0] 4 0 [(5, .int .i64 (partI n al))] ?_
  refine cont_done ?_
  refine then_normal ?_
  refine cont_ret ?_
  refine ret_one (.inl rfl) rfl 0 (.int .i64 (partI n al)) (by kernel_rfl) (by kernel_rfl) (fun w hT => ?_)
  exact ⟨rfl, hT.post rfl⟩

theorem eachFade (kb1 : Nat) (al c : Int) (w : World) (hT0 : Tab w w [.ro kb1 [.int .i64 al] 3]) (h0 : 0 ≤ c) (h1 : c < 4294967296) :
    Calls Try.prog 70 #[.int .u32 c, .func (.func 73) #[] #[.pointer (some ⟨kb1, 0, none⟩)]] w fun e w' => e = .returned (.int .u32 (fadeC c al)) ∧ Below w.heap.size w w' := by
  refine enter 30 [(0, .int .u32 c), (1, .func (.func 73) #[] #[.pointer (some ⟨kb1, 0, none⟩)])] [.ro kb1 [.int .i64 al] 3] Try.func70 rfl Try.ntmps70 rfl (by kernel_rfl) hT0 ?_
  refine cont_seq ?_
  refine cont_region 1 rfl ?_
  refine bS [0] 1 0 [(0, .int .u32 c), (1, .func (.func 73) #[] #[.pointer (some ⟨kb1, 0, none⟩)])] ?_
  refine cont_done ?_
  refine then_normal ?_
  refine cont_seq ?_
  refine cont_region 4 rfl ?_
  refine bS [0] 1 3 [(1, .func (.func 73) #[] #[.pointer (some ⟨kb1, 0, none⟩)]), (7, .int .u32 c)] ?_
  refine pl_step 2 2 rfl rfl ?_
  refine call_pure (d := 8) (.agg #[.int .i64 (pa c), .int .i64 (pr c), .int .i64 (pg c), .int .i64 (pb c)]) (by kernel_rfl) (fun w hT => colorParts c w (by omega) (by omega)) ?_
  refine batch1 [0, 0] 4 0 (fun b1 => [(1, .func (.func 73) #[] #[.pointer (some ⟨kb1, 0, none⟩)]), (5, .pointer (some ⟨b1, 0, none⟩))]) (fun b1 => [.cells b1 [.int .i64 (pa c), .int .i64 (pr c), .int .i64 (pg c), .int .i64 (pb c)] 72 true, .ro kb1 [.int .i64 al] 3]) rfl rfl [1, 5] (fun _ => rfl) (fun b1 => by kernel_rfl) (fun b1 => by kernel_rfl) (fun b1 => ?_)
  refine cont_done ?_
  refine then_normal ?_
  refine cont_seq ?_
  refine cont_seq ?_
  refine cont_region 1 rfl ?_
  refine bS [0] 1 0 [(1, .func (.func 73) #[] #[.pointer (some ⟨kb1, 0, none⟩)]), (5, .pointer (some ⟨b1, 0, none⟩)), (9, .int .i64 0)] ?_
  refine cont_done ?_
  refine then_normal ?_
  refine cont_block ?_
  refine cont_rounds 5 ?_
  refine cont_round 5 4 rfl ?_
  refine cont_seq ?_
  refine cont_region 1 rfl ?_
  refine bS [0] 1 0 [(1, .func (.func 73) #[] #[.pointer (some ⟨kb1, 0, none⟩)]), (5, .pointer (some ⟨b1, 0, none⟩)), (9, .int .i64 0), (10, .bool true)] ?_
  refine cont_done ?_
  refine then_normal ?_
  refine cont_seq ?_
  refine cont_true rfl ?_
  refine cont_skip ?_
  refine then_normal ?_
  refine cont_seq ?_
  refine cont_block ?_
  refine cont_seq ?_
  refine cont_region 2 rfl ?_
  refine bS [0, 0] 2 0 [(1, .func (.func 73) #[] #[.pointer (some ⟨kb1, 0, none⟩)]), (5, .pointer (some ⟨b1, 0, none⟩)), (6, .int .i64 0), (9, .int .i64 0)] ?_
  refine cont_done ?_
  refine then_normal ?_
  refine cont_region 9 rfl ?_
  refine bS [0, 0, 0, 0, 0, 0] 6 3 [(1, .func (.func 73) #[] #[.pointer (some ⟨kb1, 0, none⟩)]), (5, .pointer (some ⟨b1, 0, none⟩)), (9, .int .i64 0), (12, .int .i64 0), (13, .func (.func 73) #[] #[.pointer (some ⟨kb1, 0, none⟩)]), (14, .int .i64 0), (17, .int .i64 (pa c))] ?_
  refine pl_step 7 2 rfl rfl ?_
  refine call_pure (d := 18) (.int .i64 (partI (pa c) al)) (by kernel_rfl) (fun w hT => fade1 kb1 al 0 (pa c) w (hT.viewRo (.cons (i := 1) rfl Vw.ro .nil) rfl)) ?_
  refine batch0 [0, 0] 9 0 [(1, .func (.func 73) #[] #[.pointer (some ⟨kb1, 0, none⟩)]), (5, .pointer (some ⟨b1, 0, none⟩)), (9, .int .i64 0)] [.cells b1 [.int .i64 (partI (pa c) al), .int .i64 (pr c), .int .i64 (pg c), .int .i64 (pb c)] 72 true, .ro kb1 [.int .i64 al] 3] rfl rfl (by kernel_rfl) (by kernel_rfl) ?_
  refine cont_done ?_
  refine blk_normal ?_
  refine then_normal ?_
  refine cont_region 2 rfl ?_
  refine bS [0, 0] 2 0 [(1, .func (.func 73) #[] #[.pointer (some ⟨kb1, 0, none⟩)]), (5, .pointer (some ⟨b1, 0, none⟩)), (9, .int .i64 1)] ?_
  refine cont_done ?_
  refine then_normal ?_
  refine cont_round 4 3 rfl ?_
  refine cont_seq ?_
  refine cont_region 1 rfl ?_
  refine bS [0] 1 0 [(1, .func (.func 73) #[] #[.pointer (some ⟨kb1, 0, none⟩)]), (5, .pointer (some ⟨b1, 0, none⟩)), (9, .int .i64 1), (10, .bool true)] ?_
  refine cont_done ?_
  refine then_normal ?_
  refine cont_seq ?_
  refine cont_true rfl ?_
  refine cont_skip ?_
  refine then_normal ?_
  refine cont_seq ?_
  refine cont_block ?_
  refine cont_seq ?_
  refine cont_region 2 rfl ?_
  refine bS [0, 0] 2 0 [(1, .func (.func 73) #[] #[.pointer (some ⟨kb1, 0, none⟩)]), (5, .pointer (some ⟨b1, 0, none⟩)), (6, .int .i64 1), (9, .int .i64 1)] ?_
  refine cont_done ?_
  refine then_normal ?_
  refine cont_region 9 rfl ?_
  refine bS [0, 0, 0, 0, 0, 0] 6 3 [(1, .func (.func 73) #[] #[.pointer (some ⟨kb1, 0, none⟩)]), (5, .pointer (some ⟨b1, 0, none⟩)), (9, .int .i64 1), (12, .int .i64 1), (13, .func (.func 73) #[] #[.pointer (some ⟨kb1, 0, none⟩)]), (14, .int .i64 1), (17, .int .i64 (pr c))] ?_
  refine pl_step 7 2 rfl rfl ?_
  refine call_pure (d := 18) (.int .i64 (partI (pr c) al)) (by kernel_rfl) (fun w hT => fade1 kb1 al 1 (pr c) w (hT.viewRo (.cons (i := 1) rfl Vw.ro .nil) rfl)) ?_
  refine batch0 [0, 0] 9 0 [(1, .func (.func 73) #[] #[.pointer (some ⟨kb1, 0, none⟩)]), (5, .pointer (some ⟨b1, 0, none⟩)), (9, .int .i64 1)] [.cells b1 [.int .i64 (partI (pa c) al), .int .i64 (partI (pr c) al), .int .i64 (pg c), .int .i64 (pb c)] 72 true, .ro kb1 [.int .i64 al] 3] rfl rfl (by kernel_rfl) (by kernel_rfl) ?_
  refine cont_done ?_
  refine blk_normal ?_
  refine then_normal ?_
  refine cont_region 2 rfl ?_
  refine bS [0, 0] 2 0 [(1, .func (.func 73) #[] #[.pointer (some ⟨kb1, 0, none⟩)]), (5, .pointer (some ⟨b1, 0, none⟩)), (9, .int .i64 2)] ?_
  refine cont_done ?_
  refine then_normal ?_
  refine cont_round 3 2 rfl ?_
  refine cont_seq ?_
  refine cont_region 1 rfl ?_
  refine bS [0] 1 0 [(1, .func (.func 73) #[] #[.pointer (some ⟨kb1, 0, none⟩)]), (5, .pointer (some ⟨b1, 0, none⟩)), (9, .int .i64 2), (10, .bool true)] ?_
  refine cont_done ?_
  refine then_normal ?_
  refine cont_seq ?_
  refine cont_true rfl ?_
  refine cont_skip ?_
  refine then_normal ?_
  refine cont_seq ?_
  refine cont_block ?_
  refine cont_seq ?_
  refine cont_region 2 rfl ?_
  refine bS [0, 0] 2 0 [(1, .func (.func 73) #[] #[.pointer (some ⟨kb1, 0, none⟩)]), (5, .pointer (some ⟨b1, 0, none⟩)), (6, .int .i64 2), (9, .int .i64 2)] ?_
  refine cont_done ?_
  refine then_normal ?_
  refine cont_region 9 rfl ?_
  refine bS [0, 0, 0, 0, 0, 0] 6 3 [(1, .func (.func 73) #[] #[.pointer (some ⟨kb1, 0, none⟩)]), (5, .pointer (some ⟨b1, 0, none⟩)), (9, .int .i64 2), (12, .int .i64 2), (13, .func (.func 73) #[] #[.pointer (some ⟨kb1, 0, none⟩)]), (14, .int .i64 2), (17, .int .i64 (pg c))] ?_
  refine pl_step 7 2 rfl rfl ?_
  refine call_pure (d := 18) (.int .i64 (partI (pg c) al)) (by kernel_rfl) (fun w hT => fade1 kb1 al 2 (pg c) w (hT.viewRo (.cons (i := 1) rfl Vw.ro .nil) rfl)) ?_
  refine batch0 [0, 0] 9 0 [(1, .func (.func 73) #[] #[.pointer (some ⟨kb1, 0, none⟩)]), (5, .pointer (some ⟨b1, 0, none⟩)), (9, .int .i64 2)] [.cells b1 [.int .i64 (partI (pa c) al), .int .i64 (partI (pr c) al), .int .i64 (partI (pg c) al), .int .i64 (pb c)] 72 true, .ro kb1 [.int .i64 al] 3] rfl rfl (by kernel_rfl) (by kernel_rfl) ?_
  refine cont_done ?_
  refine blk_normal ?_
  refine then_normal ?_
  refine cont_region 2 rfl ?_
  refine bS [0, 0] 2 0 [(1, .func (.func 73) #[] #[.pointer (some ⟨kb1, 0, none⟩)]), (5, .pointer (some ⟨b1, 0, none⟩)), (9, .int .i64 3)] ?_
  refine cont_done ?_
  refine then_normal ?_
  refine cont_round 2 1 rfl ?_
  refine cont_seq ?_
  refine cont_region 1 rfl ?_
  refine bS [0] 1 0 [(1, .func (.func 73) #[] #[.pointer (some ⟨kb1, 0, none⟩)]), (5, .pointer (some ⟨b1, 0, none⟩)), (9, .int .i64 3), (10, .bool true)] ?_
  refine cont_done ?_
  refine then_normal ?_
  refine cont_seq ?_
  refine cont_true rfl ?_
  refine cont_skip ?_
  refine then_normal ?_
  refine cont_seq ?_
  refine cont_block ?_
  refine cont_seq ?_
  refine cont_region 2 rfl ?_
  refine bS [0, 0] 2 0 [(1, .func (.func 73) #[] #[.pointer (some ⟨kb1, 0, none⟩)]), (5, .pointer (some ⟨b1, 0, none⟩)), (6, .int .i64 3), (9, .int .i64 3)] ?_
  refine cont_done ?_
  refine then_normal ?_
  refine cont_region 9 rfl ?_
  refine bS [0, 0, 0, 0, 0, 0] 6 3 [(1, .func (.func 73) #[] #[.pointer (some ⟨kb1, 0, none⟩)]), (5, .pointer (some ⟨b1, 0, none⟩)), (9, .int .i64 3), (12, .int .i64 3), (13, .func (.func 73) #[] #[.pointer (some ⟨kb1, 0, none⟩)]), (14, .int .i64 3), (17, .int .i64 (pb c))] ?_
  refine pl_step 7 2 rfl rfl ?_
  refine call_pure (d := 18) (.int .i64 (partI (pb c) al)) (by kernel_rfl) (fun w hT => fade1 kb1 al 3 (pb c) w (hT.viewRo (.cons (i := 1) rfl Vw.ro .nil) rfl)) ?_
  refine batch0 [0, 0] 9 0 [(1, .func (.func 73) #[] #[.pointer (some ⟨kb1, 0, none⟩)]), (5, .pointer (some ⟨b1, 0, none⟩)), (9, .int .i64 3)] [.cells b1 [.int .i64 (partI (pa c) al), .int .i64 (partI (pr c) al), .int .i64 (partI (pg c) al), .int .i64 (partI (pb c) al)] 72 true, .ro kb1 [.int .i64 al] 3] rfl rfl (by kernel_rfl) (by kernel_rfl) ?_
  refine cont_done ?_
  refine blk_normal ?_
  refine then_normal ?_
  refine cont_region 2 rfl ?_
  refine bS [0, 0] 2 0 [(1, .func (.func 73) #[] #[.pointer (some ⟨kb1, 0, none⟩)]), (5, .pointer (some ⟨b1, 0, none⟩)), (9, .int .i64 4)] ?_
  refine cont_done ?_
  refine then_normal ?_
  refine cont_round 1 0 rfl ?_
  refine cont_seq ?_
  refine cont_region 1 rfl ?_
  refine bS [0] 1 0 [(1, .func (.func 73) #[] #[.pointer (some ⟨kb1, 0, none⟩)]), (5, .pointer (some ⟨b1, 0, none⟩)), (9, .int .i64 4), (10, .bool false)] ?_
  refine cont_done ?_
  refine then_normal ?_
  refine cont_seq ?_
  refine cont_false rfl ?_
  refine cont_exit ?_
  refine then_exit ?_
  refine then_exit ?_
  refine blk_exit ?_
  refine then_normal ?_
  refine cont_seq ?_
  refine cont_region 10 rfl ?_
  refine bS [0, 0, 0, 0, 0, 0, 0, 0] 8 2 [(22, .int .i64 (partI (pa c) al)), (24, .int .i64 (partI (pr c) al)), (26, .int .i64 (partI (pg c) al)), (28, .int .i64 (partI (pb c) al))] ?_
  refine cont_forget 0 rfl ?_
  refine pl_step 9 1 rfl rfl ?_
  refine call_pure (d := 29) (.int .u32 (mkC (partI (pa c) al) (partI (pr c) al) (partI (pg c) al) (partI (pb c) al))) (by kernel_rfl) (fun w hT => colorMake (partI (pa c) al) (partI (pr c) al) (partI (pg c) al) (partI (pb c) al) w) ?_
  refine bS [0] 10 0 [(4, .int .u32 (mkC (partI (pa c) al) (partI (pr c) al) (partI (pg c) al) (partI (pb c) al)))] ?_
  refine cont_done ?_
  refine then_normal ?_
  refine cont_ret ?_
  refine ret_one (.inl rfl) rfl 0 (.int .u32 (mkC (partI (pa c) al) (partI (pr c) al) (partI (pg c) al) (partI (pb c) al))) (by kernel_rfl) (by kernel_rfl) (fun w hT => ?_)
  exact ⟨rfl, hT.post rfl⟩

theorem colOver (c d : Int) (w : World) (hc0 : 0 ≤ c) (hc1 : c < 4294967296) (hd0 : 0 ≤ d) (hd1 : d < 4294967296) :
    Calls Try.prog 46 #[.int .u32 c, .int .u32 d] w fun e w' => e = .returned (.int .u32 (overC c d)) ∧ Below w.heap.size w w' := by
  obtain ⟨⟨hpa0, hpa1⟩, ⟨hpr0, hpr1⟩, ⟨hpg0, hpg1⟩, ⟨hpb0, hpb1⟩⟩ := parts_range (c := c) ⟨by omega, by omega⟩
  refine enter 16 [(0, .int .u32 c), (1, .int .u32 d)] [] Try.func46 rfl Try.ntmps46 rfl (by kernel_rfl) (Tab.start w) ?_
  refine cont_seq ?_
  refine cont_region 1 rfl ?_
  refine bS [0] 1 0 [(0, .int .u32 c), (1, .int .u32 d)] ?_
  refine cont_done ?_
  refine then_normal ?_
  refine cont_seq ?_
  refine cont_region 10 rfl ?_
  refine bS [0] 1 9 [(0, .int .u32 c), (1, .int .u32 d), (7, .int .u32 c)] ?_
  refine pl_step 2 8 rfl rfl ?_
  refine call_pure (d := 8) (.agg #[.int .i64 (pa c), .int .i64 (pr c), .int .i64 (pg c), .int .i64 (pb c)]) (by kernel_rfl) (fun w hT => colorParts c w (by omega) (by omega)) ?_
  refine bS [0] 3 7 [(1, .int .u32 d), (8, .agg #[.int .i64 (pa c), .int .i64 (pr c), .int .i64 (pg c), .int .i64 (pb c)]), (9, .int .u32 c)] ?_
  refine pl_step 4 6 rfl rfl ?_
  refine call_pure (d := 10) (.agg #[.int .i64 (pa c), .int .i64 (pr c), .int .i64 (pg c), .int .i64 (pb c)]) (by kernel_rfl) (fun w hT => colorParts c w (by omega) (by omega)) ?_
  refine bS [0, 0] 6 4 [(1, .int .u32 d), (8, .agg #[.int .i64 (pa c), .int .i64 (pr c), .int .i64 (pg c), .int .i64 (pb c)]), (12, .int .i64 (IntKind.i64.wrap (255 - (pa c))))] ?_
  refine cont_recast 12 (.int .i64 (IntKind.i64.wrap (255 - (pa c)))) (.int .i64 (255 - (pa c))) rfl (wrapI (by omega) (by omega)) ?_
  refine batch2 [0, 0, 1, 0] 10 0 (fun b2 b3 => [(1, .int .u32 d), (5, .pointer (some ⟨b2, 0, none⟩)), (6, .pointer (some ⟨b3, 0, none⟩))]) (fun b2 b3 => [.cells b3 [.int .i64 (255 - (pa c))] 3 true, .cells b2 [.int .i64 (pa c), .int .i64 (pr c), .int .i64 (pg c), .int .i64 (pb c)] 72 true]) rfl rfl [1, 5, 6] (fun _ _ => rfl) (fun b2 b3 => by kernel_rfl) (fun b2 b3 => by kernel_rfl) (fun b2 b3 => ?_)
  refine cont_done ?_
  refine then_normal ?_
  refine cont_seq ?_
  refine cont_region 4 rfl ?_
  refine bS [0, 0] 2 2 [(13, .int .u32 d), (14, .func (.func 71) #[] #[.pointer (some ⟨b2, 0, none⟩), .pointer (some ⟨b3, 0, none⟩)])] ?_
  refine pl_step 3 1 rfl rfl ?_
  refine call_pure (d := 15) (.int .u32 (mkC ((pa c) + partI (pa d) (255 - (pa c))) ((pr c) + partI (pr d) (255 - (pa c))) ((pg c) + partI (pg d) (255 - (pa c))) ((pb c) + partI (pb d) (255 - (pa c))))) (by kernel_rfl) (fun w hT => eachOver b2 b3 (pa c) (pr c) (pg c) (pb c) (255 - (pa c)) d w (hT.viewRo (.cons (i := 1) rfl Vw.roc (.cons (i := 0) rfl Vw.roc .nil)) rfl) ⟨by omega, by omega, by omega, by omega⟩ (by omega) (by omega)) ?_
  refine bS [0] 4 0 [(4, .int .u32 (mkC ((pa c) + partI (pa d) (255 - (pa c))) ((pr c) + partI (pr d) (255 - (pa c))) ((pg c) + partI (pg d) (255 - (pa c))) ((pb c) + partI (pb d) (255 - (pa c)))))] ?_
  refine cont_forget 0 rfl ?_
  refine cont_forget 0 rfl ?_
  refine cont_done ?_
  refine then_normal ?_
  refine cont_ret ?_
  refine ret_one (.inl rfl) rfl 0 (.int .u32 (mkC ((pa c) + partI (pa d) (255 - (pa c))) ((pr c) + partI (pr d) (255 - (pa c))) ((pg c) + partI (pg d) (255 - (pa c))) ((pb c) + partI (pb d) (255 - (pa c))))) (by kernel_rfl) (by kernel_rfl) (fun w hT => ?_)
  exact ⟨rfl, hT.post rfl⟩

theorem colFade (c al : Int) (w : World) (hc0 : 0 ≤ c) (hc1 : c < 4294967296) :
    Calls Try.prog 50 #[.int .u32 c, .int .i64 al] w fun e w' => e = .returned (.int .u32 (fadeC c al)) ∧ Below w.heap.size w w' := by
  refine enter 8 [(0, .int .u32 c), (1, .int .i64 al)] [] Try.func50 rfl Try.ntmps50 rfl (by kernel_rfl) (Tab.start w) ?_
  refine cont_seq ?_
  refine cont_region 2 rfl ?_
  refine batch1 [0, 0] 2 0 (fun b1 => [(0, .int .u32 c), (3, .pointer (some ⟨b1, 0, none⟩))]) (fun b1 => [.cells b1 [.int .i64 al] 3 true]) rfl rfl [0, 3] (fun _ => rfl) (fun b1 => by kernel_rfl) (fun b1 => by kernel_rfl) (fun b1 => ?_)
  refine cont_done ?_
  refine then_normal ?_
  refine cont_seq ?_
  refine cont_region 4 rfl ?_
  refine bS [0, 0] 2 2 [(5, .int .u32 c), (6, .func (.func 73) #[] #[.pointer (some ⟨b1, 0, none⟩)])] ?_
  refine pl_step 3 1 rfl rfl ?_
  refine call_pure (d := 7) (.int .u32 (fadeC c al)) (by kernel_rfl) (fun w hT => eachFade b1 al c w (hT.viewRo (.cons (i := 0) rfl Vw.roc .nil) rfl) (by omega) (by omega)) ?_
  refine bS [0] 4 0 [(4, .int .u32 (fadeC c al))] ?_
  refine cont_forget 0 rfl ?_
  refine cont_done ?_
  refine then_normal ?_
  refine cont_ret ?_
  refine ret_one (.inl rfl) rfl 0 (.int .u32 (fadeC c al)) (by kernel_rfl) (by kernel_rfl) (fun w hT => ?_)
  exact ⟨rfl, hT.post rfl⟩

theorem rectMay (a b c d : Int) (w : World) :
    Calls Try.prog 41 #[.agg #[.int .i64 a, .int .i64 b, .int .i64 c, .int .i64 d]] w fun e w' => e = .returned (.bool (mayR a b c d)) ∧ Below w.heap.size w w' := by
  refine enter 39 [(0, .agg #[.int .i64 a, .int .i64 b, .int .i64 c, .int .i64 d])] [] Try.func41 rfl Try.ntmps41 rfl (by kernel_rfl) (Tab.start w) ?_
  refine cont_seq ?_
  refine cont_region 2 rfl ?_
  refine batch1 [0, 0] 2 0 (fun b1 => [(1, .pointer (some ⟨b1, 0, none⟩))]) (fun b1 => [.cells b1 [.int .i64 a, .int .i64 b, .int .i64 c, .int .i64 d] 28 true]) rfl rfl [1] (fun _ => rfl) (fun b1 => by kernel_rfl) (fun b1 => by kernel_rfl) (fun b1 => ?_)
  refine cont_done ?_
  refine then_normal ?_
  refine cont_seq ?_
  refine cont_region 37 rfl ?_
  refine bS [0, 0, 0, 0, 0, 0, 0, 0, 0, 0, 0] 11 26 [(1, .pointer (some ⟨b1, 0, none⟩)), (13, .bool (decide ((mn (mn (mn a b) c) d) ≥ (-1048576))))] ?_
  refine cont_split 13 (decide ((mn (mn (mn a b) c) d) ≥ (-1048576))) rfl (fun c2_ => ?_) (fun c2_ => ?_)
  ·
    replace c2_ := of_decide_eq_true c2_
    refine bS [0, 0, 0, 0, 0, 0, 0, 0, 0, 0, 0, 0] 23 14 [(1, .pointer (some ⟨b1, 0, none⟩)), (25, .bool (decide ((mx (mx (mx a b) c) d) ≤ 1048576)))] ?_
    refine cont_split 25 (decide ((mx (mx (mx a b) c) d) ≤ 1048576)) rfl (fun c3_ => ?_) (fun c3_ => ?_)
    ·
      replace c3_ := of_decide_eq_true c3_
      refine bS [0, 0, 0, 0, 0, 0, 0] 30 7 [(1, .pointer (some ⟨b1, 0, none⟩)), (32, .bool (decide (a ≤ c)))] ?_
      refine cont_split 32 (decide (a ≤ c)) rfl (fun c4_ => ?_) (fun c4_ => ?_)
      ·
        replace c4_ := of_decide_eq_true c4_
        refine bS [0, 0, 0, 0, 0, 0, 0] 37 0 [(2, .bool (decide (b ≤ d)))] ?_
        refine cont_forget 0 rfl ?_
        refine cont_done ?_
        refine then_normal ?_
        refine cont_ret ?_
        refine ret_one (.inl rfl) rfl 0 (.bool (decide (b ≤ d))) (by kernel_rfl) (by kernel_rfl) (fun w hT => ?_)
        refine ⟨ret_bool ?_, hT.post rfl⟩
        rw [Bool.eq_iff_iff]
        simp only [mayR, decide_eq_true_eq, Bool.false_eq_true, true_iff, false_iff]
        try unfold mn at *
        try unfold mx at *
        omega
      replace c4_ := of_decide_eq_false c4_
      refine bS [0, 0, 0, 0, 0, 0, 0] 37 0 [(2, .bool false)] ?_
      refine cont_forget 0 rfl ?_
      refine cont_done ?_
      refine then_normal ?_
      refine cont_ret ?_
      refine ret_one (.inl rfl) rfl 0 (.bool false) (by kernel_rfl) (by kernel_rfl) (fun w hT => ?_)
      refine ⟨ret_bool ?_, hT.post rfl⟩
      rw [Bool.eq_iff_iff]
      simp only [mayR, decide_eq_true_eq, Bool.false_eq_true, true_iff, false_iff]
      try unfold mn at *
      try unfold mx at *
      omega
    replace c3_ := of_decide_eq_false c3_
    refine bS [0, 0, 0, 0, 0, 0, 0, 0, 0, 0, 0, 0, 0, 0] 37 0 [(2, .bool false)] ?_
    refine cont_forget 0 rfl ?_
    refine cont_done ?_
    refine then_normal ?_
    refine cont_ret ?_
    refine ret_one (.inl rfl) rfl 0 (.bool false) (by kernel_rfl) (by kernel_rfl) (fun w hT => ?_)
    refine ⟨ret_bool ?_, hT.post rfl⟩
    rw [Bool.eq_iff_iff]
    simp only [mayR, decide_eq_true_eq, Bool.false_eq_true, true_iff, false_iff]
    try unfold mn at *
    try unfold mx at *
    omega
  replace c2_ := of_decide_eq_false c2_
  refine bS [0, 0, 0, 0, 0, 0, 0, 0, 0, 0, 0, 0, 0, 0, 0, 0, 0, 0, 0, 0, 0, 0, 0, 0, 0, 0] 37 0 [(2, .bool false)] ?_
  refine cont_forget 0 rfl ?_
  refine cont_done ?_
  refine then_normal ?_
  refine cont_ret ?_
  refine ret_one (.inl rfl) rfl 0 (.bool false) (by kernel_rfl) (by kernel_rfl) (fun w hT => ?_)
  refine ⟨ret_bool ?_, hT.post rfl⟩
  rw [Bool.eq_iff_iff]
  simp only [mayR, decide_eq_true_eq, Bool.false_eq_true, true_iff, false_iff]
  try unfold mn at *
  try unfold mx at *
  omega

theorem rectChk (a b c d : Int) (w : World) :
    Calls Try.prog 84 #[.agg #[.int .i64 a, .int .i64 b, .int .i64 c, .int .i64 d]] w fun e w' => e = .returned (.tuple #[.agg #[.int .i64 ((chkR a b c d).x0), .int .i64 ((chkR a b c d).y0), .int .i64 ((chkR a b c d).x1), .int .i64 ((chkR a b c d).y1)], .int .i64 (chkE a b c d)]) ∧ Below w.heap.size w w' := by
  refine enter 9 [(0, .agg #[.int .i64 a, .int .i64 b, .int .i64 c, .int .i64 d])] [] Try.func84 rfl Try.ntmps84 rfl (by kernel_rfl) (Tab.start w) ?_
  refine cont_seq ?_
  refine cont_region 3 rfl ?_
  refine batch2 [0, 0, 0] 3 0 (fun b1 b2 => [(1, .pointer (some ⟨b1, 0, none⟩)), (2, .pointer (some ⟨b2, 0, none⟩))]) (fun b1 b2 => [.cells b2 [.int .i64 0, .int .i64 0, .int .i64 0, .int .i64 0] 28 true, .cells b1 [.int .i64 a, .int .i64 b, .int .i64 c, .int .i64 d] 28 true]) rfl rfl [1, 2] (fun _ _ => rfl) (fun b1 b2 => by kernel_rfl) (fun b1 b2 => by kernel_rfl) (fun b1 b2 => ?_)
  refine cont_done ?_
  refine then_normal ?_
  refine cont_seq ?_
  refine cont_seq ?_
  refine cont_region 3 rfl ?_
  refine bS [1] 1 2 [(1, .pointer (some ⟨b1, 0, none⟩)), (2, .pointer (some ⟨b2, 0, none⟩)), (4, .agg #[.int .i64 a, .int .i64 b, .int .i64 c, .int .i64 d])] ?_
  refine pl_step 2 1 rfl rfl ?_
  refine call_pure (d := 5) (.bool (mayR a b c d)) (by kernel_rfl) (fun w hT => rectMay a b c d w) ?_
  refine bS [0] 3 0 [(1, .pointer (some ⟨b1, 0, none⟩)), (2, .pointer (some ⟨b2, 0, none⟩)), (6, .bool (!(mayR a b c d)))] ?_
  refine cont_done ?_
  refine then_normal ?_
  refine cont_split 6 (!(mayR a b c d)) rfl (fun c3_ => ?_) (fun c3_ => ?_)
  ·
    replace c3_ : (mayR a b c d) = false := by simpa using c3_
    refine cont_true rfl ?_
    refine cont_seq ?_
    refine cont_region 3 rfl ?_
    refine bS [0, 0, 0] 3 0 [(2, .pointer (some ⟨b2, 0, none⟩)), (3, .int .i64 4)] ?_
    refine cont_forget 1 rfl ?_
    refine cont_done ?_
    refine then_normal ?_
    refine cont_ret ?_
    refine then_ret ?_
    refine ret_two (.inl rfl) rfl 0 0 (.agg #[.int .i64 0, .int .i64 0, .int .i64 0, .int .i64 0]) (.int .i64 4) (by kernel_rfl) (by kernel_rfl) (by kernel_rfl) (by kernel_rfl) (fun w hT => ?_)
    exact ⟨by simp [chkR, chkE, *], hT.post rfl⟩
  replace c3_ : (mayR a b c d) = true := by simpa using c3_
  refine cont_false rfl ?_
  refine cont_skip ?_
  refine then_normal ?_
  refine cont_seq ?_
  refine cont_region 3 rfl ?_
  refine batch0 [1, 0, 0] 3 0 [(2, .pointer (some ⟨b2, 0, none⟩)), (3, .int .i64 0)] [.cells b2 [.int .i64 a, .int .i64 b, .int .i64 c, .int .i64 d] 28 true, .cells b1 [.int .i64 a, .int .i64 b, .int .i64 c, .int .i64 d] 28 true] rfl rfl (by kernel_rfl) (by kernel_rfl) ?_
  refine cont_forget 1 rfl ?_
  refine cont_done ?_
  refine then_normal ?_
  refine cont_ret ?_
  refine ret_two (.inl rfl) rfl 0 0 (.agg #[.int .i64 a, .int .i64 b, .int .i64 c, .int .i64 d]) (.int .i64 0) (by kernel_rfl) (by kernel_rfl) (by kernel_rfl) (by kernel_rfl) (fun w hT => ?_)
  exact ⟨by simp [chkR, chkE, *], hT.post rfl⟩

theorem rectScl (a b c d s : Int) (w : World) :
    Calls Try.prog 67 #[.agg #[.int .i64 a, .int .i64 b, .int .i64 c, .int .i64 d], .int .i64 s] w fun e w' => e = .returned (.tuple #[.agg #[.int .i64 ((sclR a b c d s).x0), .int .i64 ((sclR a b c d s).y0), .int .i64 ((sclR a b c d s).x1), .int .i64 ((sclR a b c d s).y1)], .int .i64 (sclE a b c d s)]) ∧ Below w.heap.size w w' := by
  refine enter 39 [(0, .agg #[.int .i64 a, .int .i64 b, .int .i64 c, .int .i64 d]), (1, .int .i64 s)] [] Try.func67 rfl Try.ntmps67 rfl (by kernel_rfl) (Tab.start w) ?_
  refine cont_seq ?_
  refine cont_region 3 rfl ?_
  refine batch2 [0, 0, 0] 3 0 (fun b1 b2 => [(1, .int .i64 s), (2, .pointer (some ⟨b1, 0, none⟩)), (4, .pointer (some ⟨b2, 0, none⟩))]) (fun b1 b2 => [.cells b2 [.int .i64 0, .int .i64 0, .int .i64 0, .int .i64 0] 28 true, .cells b1 [.int .i64 a, .int .i64 b, .int .i64 c, .int .i64 d] 28 true]) rfl rfl [1, 2, 4] (fun _ _ => rfl) (fun b1 b2 => by kernel_rfl) (fun b1 b2 => by kernel_rfl) (fun b1 b2 => ?_)
  refine cont_done ?_
  refine then_normal ?_
  refine cont_seq ?_
  refine cont_block ?_
  refine cont_seq ?_
  refine cont_region 7 rfl ?_
  refine bS [0, 0, 0] 3 4 [(1, .int .i64 s), (2, .pointer (some ⟨b1, 0, none⟩)), (4, .pointer (some ⟨b2, 0, none⟩)), (9, .bool (decide (s < 1)))] ?_
  refine cont_split 9 (decide (s < 1)) rfl (fun c3_ => ?_) (fun c3_ => ?_)
  ·
    replace c3_ := of_decide_eq_true c3_
    refine bS [0, 0, 0, 0] 7 0 [(1, .int .i64 s), (2, .pointer (some ⟨b1, 0, none⟩)), (4, .pointer (some ⟨b2, 0, none⟩)), (6, .bool true)] ?_
    refine cont_done ?_
    refine then_normal ?_
    refine cont_true rfl ?_
    refine cont_seq ?_
    refine cont_region 3 rfl ?_
    refine bS [0, 0, 0] 3 0 [(4, .pointer (some ⟨b2, 0, none⟩)), (5, .int .i64 1)] ?_
    refine cont_forget 1 rfl ?_
    refine cont_done ?_
    refine then_normal ?_
    refine cont_ret ?_
    refine blk_ret ?_
    refine then_ret ?_
    refine ret_two (.inl rfl) rfl 0 0 (.agg #[.int .i64 0, .int .i64 0, .int .i64 0, .int .i64 0]) (.int .i64 1) (by kernel_rfl) (by kernel_rfl) (by kernel_rfl) (by kernel_rfl) (fun w hT => ?_)
    exact ⟨by simp [sclR, sclE, *] <;> omega, hT.post rfl⟩
  replace c3_ := of_decide_eq_false c3_
  refine bS [0, 0, 0, 0] 7 0 [(1, .int .i64 s), (2, .pointer (some ⟨b1, 0, none⟩)), (4, .pointer (some ⟨b2, 0, none⟩)), (6, .bool (decide (s > 8)))] ?_
  refine cont_done ?_
  refine then_normal ?_
  refine cont_split 6 (decide (s > 8)) rfl (fun c4_ => ?_) (fun c4_ => ?_)
  ·
    replace c4_ := of_decide_eq_true c4_
    refine cont_true rfl ?_
    refine cont_seq ?_
    refine cont_region 3 rfl ?_
    refine bS [0, 0, 0] 3 0 [(4, .pointer (some ⟨b2, 0, none⟩)), (5, .int .i64 1)] ?_
    refine cont_forget 1 rfl ?_
    refine cont_done ?_
    refine then_normal ?_
    refine cont_ret ?_
    refine blk_ret ?_
    refine then_ret ?_
    refine ret_two (.inl rfl) rfl 0 0 (.agg #[.int .i64 0, .int .i64 0, .int .i64 0, .int .i64 0]) (.int .i64 1) (by kernel_rfl) (by kernel_rfl) (by kernel_rfl) (by kernel_rfl) (fun w hT => ?_)
    exact ⟨by simp [sclR, sclE, *] <;> omega, hT.post rfl⟩
  replace c4_ := of_decide_eq_false c4_
  refine cont_false rfl ?_
  refine cont_seq ?_
  refine cont_region 4 rfl ?_
  refine bS [1] 1 3 [(1, .int .i64 s), (2, .pointer (some ⟨b1, 0, none⟩)), (4, .pointer (some ⟨b2, 0, none⟩)), (15, .agg #[.int .i64 a, .int .i64 b, .int .i64 c, .int .i64 d])] ?_
  refine pl_step 2 2 rfl rfl ?_
  refine call_pure (d := 16) (.bool (mayR a b c d)) (by kernel_rfl) (fun w hT => rectMay a b c d w) ?_
  refine bS [0, 0] 4 0 [(1, .int .i64 s), (2, .pointer (some ⟨b1, 0, none⟩)), (4, .pointer (some ⟨b2, 0, none⟩)), (14, .bool (!(mayR a b c d)))] ?_
  refine cont_done ?_
  refine then_normal ?_
  refine cont_split 14 (!(mayR a b c d)) rfl (fun c5_ => ?_) (fun c5_ => ?_)
  ·
    replace c5_ : (mayR a b c d) = false := by simpa using c5_
    refine cont_true rfl ?_
    refine cont_seq ?_
    refine cont_region 3 rfl ?_
    refine bS [0, 0, 0] 3 0 [(4, .pointer (some ⟨b2, 0, none⟩)), (5, .int .i64 4)] ?_
    refine cont_forget 1 rfl ?_
    refine cont_done ?_
    refine then_normal ?_
    refine cont_ret ?_
    refine blk_ret ?_
    refine then_ret ?_
    refine ret_two (.inl rfl) rfl 0 0 (.agg #[.int .i64 0, .int .i64 0, .int .i64 0, .int .i64 0]) (.int .i64 4) (by kernel_rfl) (by kernel_rfl) (by kernel_rfl) (by kernel_rfl) (fun w hT => ?_)
    exact ⟨by simp [sclR, sclE, *] <;> omega, hT.post rfl⟩
  replace c5_ : (mayR a b c d) = true := by simpa using c5_
  refine cont_false rfl ?_
  refine cont_skip ?_
  refine blk_normal ?_
  refine then_normal ?_
  refine cont_seq ?_
  refine cont_region 22 rfl ?_
  have hm_ := mayR_true.1 ‹_›
  have hsc : ∀ x : Int, -1048576 ≤ x → x ≤ 1048576 → -8388608 ≤ x * s ∧ x * s ≤ 8388608 := fun x h1 h2 => by
    have := Int.mul_le_mul_of_nonneg_right h1 (show 0 ≤ s by omega)
    have := Int.mul_le_mul_of_nonneg_right h2 (show 0 ≤ s by omega)
    omega
  have hs1 := hsc a (by omega) (by omega)
  have hs2 := hsc b (by omega) (by omega)
  have hs3 := hsc c (by omega) (by omega)
  have hs4 := hsc d (by omega) (by omega)
  refine bS [0, 1, 0, 0] 4 18 [(1, .int .i64 s), (2, .pointer (some ⟨b1, 0, none⟩)), (4, .pointer (some ⟨b2, 0, none⟩)), (22, .int .i64 (IntKind.i64.wrap (a * s)))] ?_
  refine cont_recast 22 (.int .i64 (IntKind.i64.wrap (a * s))) (.int .i64 (a * s)) rfl (wrapI (by omega) (by omega)) ?_
  refine bS [0, 1, 0, 0] 8 14 [(1, .int .i64 s), (2, .pointer (some ⟨b1, 0, none⟩)), (4, .pointer (some ⟨b2, 0, none⟩)), (22, .int .i64 (a * s)), (26, .int .i64 (IntKind.i64.wrap (b * s)))] ?_
  refine cont_recast 26 (.int .i64 (IntKind.i64.wrap (b * s))) (.int .i64 (b * s)) rfl (wrapI (by omega) (by omega)) ?_
  refine bS [0, 1, 0, 0] 12 10 [(1, .int .i64 s), (2, .pointer (some ⟨b1, 0, none⟩)), (4, .pointer (some ⟨b2, 0, none⟩)), (22, .int .i64 (a * s)), (26, .int .i64 (b * s)), (30, .int .i64 (IntKind.i64.wrap (c * s)))] ?_
  refine cont_recast 30 (.int .i64 (IntKind.i64.wrap (c * s))) (.int .i64 (c * s)) rfl (wrapI (by omega) (by omega)) ?_
  refine bS [0, 1, 0, 0] 16 6 [(4, .pointer (some ⟨b2, 0, none⟩)), (22, .int .i64 (a * s)), (26, .int .i64 (b * s)), (30, .int .i64 (c * s)), (34, .int .i64 (IntKind.i64.wrap (d * s)))] ?_
  refine cont_recast 34 (.int .i64 (IntKind.i64.wrap (d * s))) (.int .i64 (d * s)) rfl (wrapI (by omega) (by omega)) ?_
  refine cont_forget 1 rfl ?_
  refine bS [0] 17 5 [(4, .pointer (some ⟨b2, 0, none⟩)), (35, .agg #[.int .i64 (a * s), .int .i64 (b * s), .int .i64 (c * s), .int .i64 (d * s)])] ?_
  refine pl_step 18 4 rfl rfl ?_
  refine call_pure (d := 36) (.tuple #[.agg #[.int .i64 ((chkR (a * s) (b * s) (c * s) (d * s)).x0), .int .i64 ((chkR (a * s) (b * s) (c * s) (d * s)).y0), .int .i64 ((chkR (a * s) (b * s) (c * s) (d * s)).x1), .int .i64 ((chkR (a * s) (b * s) (c * s) (d * s)).y1)], .int .i64 (chkE (a * s) (b * s) (c * s) (d * s))]) (by kernel_rfl) (fun w hT => rectChk (a * s) (b * s) (c * s) (d * s) w) ?_
  refine batch0 [0, 0, 0, 0] 22 0 [(4, .pointer (some ⟨b2, 0, none⟩)), (5, .int .i64 (chkE (a * s) (b * s) (c * s) (d * s)))] [.cells b2 [.int .i64 ((chkR (a * s) (b * s) (c * s) (d * s)).x0), .int .i64 ((chkR (a * s) (b * s) (c * s) (d * s)).y0), .int .i64 ((chkR (a * s) (b * s) (c * s) (d * s)).x1), .int .i64 ((chkR (a * s) (b * s) (c * s) (d * s)).y1)] 28 true] rfl rfl (by kernel_rfl) (by kernel_rfl) ?_
  refine cont_done ?_
  refine then_normal ?_
  refine cont_ret ?_
  refine ret_two (.inl rfl) rfl 0 0 (.agg #[.int .i64 ((chkR (a * s) (b * s) (c * s) (d * s)).x0), .int .i64 ((chkR (a * s) (b * s) (c * s) (d * s)).y0), .int .i64 ((chkR (a * s) (b * s) (c * s) (d * s)).x1), .int .i64 ((chkR (a * s) (b * s) (c * s) (d * s)).y1)]) (.int .i64 (chkE (a * s) (b * s) (c * s) (d * s))) (by kernel_rfl) (by kernel_rfl) (by kernel_rfl) (by kernel_rfl) (fun w hT => ?_)
  exact ⟨by simp [sclR, sclE, *] <;> omega, hT.post rfl⟩

theorem movFar (n : Int) (w : World) :
    Calls Try.prog 85 #[.int .i64 n] w fun e w' => e = .returned (.int .i64 (farM n)) ∧ Below w.heap.size w w' := by
  refine enter 6 [(0, .int .i64 n)] [] Try.func85 rfl Try.ntmps85 rfl (by kernel_rfl) (Tab.start w) ?_
  refine cont_seq ?_
  refine cont_region 1 rfl ?_
  refine bS [0] 1 0 [(0, .int .i64 n)] ?_
  refine cont_done ?_
  refine then_normal ?_
  refine cont_seq ?_
  refine cont_region 4 rfl ?_
  refine bS [0, 0, 0, 0] 4 0 [(2, .int .i64 (mn (mx n (-4194304)) 4194304))] ?_
  refine cont_done ?_
  refine then_normal ?_
  refine cont_ret ?_
  refine ret_one (.inl rfl) rfl 0 (.int .i64 (mn (mx n (-4194304)) 4194304)) (by kernel_rfl) (by kernel_rfl) (fun w hT => ?_)
  exact ⟨rfl, hT.post rfl⟩

theorem rectMov (a b c d x y : Int) (w : World) (ha : -2097152 ≤ a ∧ a ≤ 2097152) (hb : -2097152 ≤ b ∧ b ≤ 2097152) (hc : -2097152 ≤ c ∧ c ≤ 2097152) (hd : -2097152 ≤ d ∧ d ≤ 2097152) :
    Calls Try.prog 68 #[.agg #[.int .i64 a, .int .i64 b, .int .i64 c, .int .i64 d], .int .i64 x, .int .i64 y] w fun e w' => e = .returned (.tuple #[.agg #[.int .i64 ((movR a b c d x y).x0), .int .i64 ((movR a b c d x y).y0), .int .i64 ((movR a b c d x y).x1), .int .i64 ((movR a b c d x y).y1)], .int .i64 (movE a b c d x y)]) ∧ Below w.heap.size w w' := by
  have hfx := farM_range x
  have hfy := farM_range y
  refine enter 35 [(0, .agg #[.int .i64 a, .int .i64 b, .int .i64 c, .int .i64 d]), (1, .int .i64 x), (2, .int .i64 y)] [] Try.func68 rfl Try.ntmps68 rfl (by kernel_rfl) (Tab.start w) ?_
  refine cont_seq ?_
  refine cont_region 3 rfl ?_
  refine batch2 [0, 0, 0] 3 0 (fun b1 b2 => [(1, .int .i64 x), (2, .int .i64 y), (3, .pointer (some ⟨b1, 0, none⟩)), (6, .pointer (some ⟨b2, 0, none⟩))]) (fun b1 b2 => [.cells b2 [.int .i64 0, .int .i64 0, .int .i64 0, .int .i64 0] 28 true, .cells b1 [.int .i64 a, .int .i64 b, .int .i64 c, .int .i64 d] 28 true]) rfl rfl [1, 2, 3, 6] (fun _ _ => rfl) (fun b1 b2 => by kernel_rfl) (fun b1 b2 => by kernel_rfl) (fun b1 b2 => ?_)
  refine cont_done ?_
  refine then_normal ?_
  refine cont_seq ?_
  refine cont_region 1 rfl ?_
  refine bS [0] 1 0 [(1, .int .i64 x), (2, .int .i64 y), (3, .pointer (some ⟨b1, 0, none⟩)), (6, .pointer (some ⟨b2, 0, none⟩)), (8, .func (.func 85) #[] #[])] ?_
  refine cont_done ?_
  refine then_normal ?_
  refine cont_seq ?_
  refine cont_region 8 rfl ?_
  refine bS [0, 0] 2 6 [(2, .int .i64 y), (3, .pointer (some ⟨b1, 0, none⟩)), (6, .pointer (some ⟨b2, 0, none⟩)), (8, .func (.func 85) #[] #[]), (9, .func (.func 85) #[] #[]), (10, .int .i64 x)] ?_
  refine pl_step 3 5 rfl rfl ?_
  refine call_pure (d := 11) (.int .i64 (farM x)) (by kernel_rfl) (fun w hT => movFar x w) ?_
  refine bS [0, 0] 5 3 [(3, .pointer (some ⟨b1, 0, none⟩)), (6, .pointer (some ⟨b2, 0, none⟩)), (11, .int .i64 (farM x)), (12, .func (.func 85) #[] #[]), (13, .int .i64 y)] ?_
  refine pl_step 6 2 rfl rfl ?_
  refine call_pure (d := 14) (.int .i64 (farM y)) (by kernel_rfl) (fun w hT => movFar y w) ?_
  refine bS [0, 0] 8 0 [(1, .int .i64 (farM x)), (2, .int .i64 (farM y)), (3, .pointer (some ⟨b1, 0, none⟩)), (6, .pointer (some ⟨b2, 0, none⟩))] ?_
  refine cont_done ?_
  refine then_normal ?_
  refine cont_seq ?_
  refine cont_region 22 rfl ?_
  refine bS [0, 1, 0, 0] 4 18 [(1, .int .i64 (farM x)), (2, .int .i64 (farM y)), (3, .pointer (some ⟨b1, 0, none⟩)), (6, .pointer (some ⟨b2, 0, none⟩)), (18, .int .i64 (IntKind.i64.wrap (a + (farM x))))] ?_
  refine cont_recast 18 (.int .i64 (IntKind.i64.wrap (a + (farM x)))) (.int .i64 (a + (farM x))) rfl (wrapI (by omega) (by omega)) ?_
  refine bS [0, 1, 0, 0] 8 14 [(1, .int .i64 (farM x)), (2, .int .i64 (farM y)), (3, .pointer (some ⟨b1, 0, none⟩)), (6, .pointer (some ⟨b2, 0, none⟩)), (18, .int .i64 (a + (farM x))), (22, .int .i64 (IntKind.i64.wrap (b + (farM y))))] ?_
  refine cont_recast 22 (.int .i64 (IntKind.i64.wrap (b + (farM y)))) (.int .i64 (b + (farM y))) rfl (wrapI (by omega) (by omega)) ?_
  refine bS [0, 1, 0, 0] 12 10 [(2, .int .i64 (farM y)), (3, .pointer (some ⟨b1, 0, none⟩)), (6, .pointer (some ⟨b2, 0, none⟩)), (18, .int .i64 (a + (farM x))), (22, .int .i64 (b + (farM y))), (26, .int .i64 (IntKind.i64.wrap (c + (farM x))))] ?_
  refine cont_recast 26 (.int .i64 (IntKind.i64.wrap (c + (farM x)))) (.int .i64 (c + (farM x))) rfl (wrapI (by omega) (by omega)) ?_
  refine bS [0, 1, 0, 0] 16 6 [(6, .pointer (some ⟨b2, 0, none⟩)), (18, .int .i64 (a + (farM x))), (22, .int .i64 (b + (farM y))), (26, .int .i64 (c + (farM x))), (30, .int .i64 (IntKind.i64.wrap (d + (farM y))))] ?_
  refine cont_recast 30 (.int .i64 (IntKind.i64.wrap (d + (farM y)))) (.int .i64 (d + (farM y))) rfl (wrapI (by omega) (by omega)) ?_
  refine cont_forget 1 rfl ?_
  refine bS [0] 17 5 [(6, .pointer (some ⟨b2, 0, none⟩)), (31, .agg #[.int .i64 (a + (farM x)), .int .i64 (b + (farM y)), .int .i64 (c + (farM x)), .int .i64 (d + (farM y))])] ?_
  refine pl_step 18 4 rfl rfl ?_
  refine call_pure (d := 32) (.tuple #[.agg #[.int .i64 ((chkR (a + (farM x)) (b + (farM y)) (c + (farM x)) (d + (farM y))).x0), .int .i64 ((chkR (a + (farM x)) (b + (farM y)) (c + (farM x)) (d + (farM y))).y0), .int .i64 ((chkR (a + (farM x)) (b + (farM y)) (c + (farM x)) (d + (farM y))).x1), .int .i64 ((chkR (a + (farM x)) (b + (farM y)) (c + (farM x)) (d + (farM y))).y1)], .int .i64 (chkE (a + (farM x)) (b + (farM y)) (c + (farM x)) (d + (farM y)))]) (by kernel_rfl) (fun w hT => rectChk (a + (farM x)) (b + (farM y)) (c + (farM x)) (d + (farM y)) w) ?_
  refine batch0 [0, 0, 0, 0] 22 0 [(6, .pointer (some ⟨b2, 0, none⟩)), (7, .int .i64 (chkE (a + (farM x)) (b + (farM y)) (c + (farM x)) (d + (farM y))))] [.cells b2 [.int .i64 ((chkR (a + (farM x)) (b + (farM y)) (c + (farM x)) (d + (farM y))).x0), .int .i64 ((chkR (a + (farM x)) (b + (farM y)) (c + (farM x)) (d + (farM y))).y0), .int .i64 ((chkR (a + (farM x)) (b + (farM y)) (c + (farM x)) (d + (farM y))).x1), .int .i64 ((chkR (a + (farM x)) (b + (farM y)) (c + (farM x)) (d + (farM y))).y1)] 28 true] rfl rfl (by kernel_rfl) (by kernel_rfl) ?_
  refine cont_done ?_
  refine then_normal ?_
  refine cont_ret ?_
  refine ret_two (.inl rfl) rfl 0 0 (.agg #[.int .i64 ((chkR (a + (farM x)) (b + (farM y)) (c + (farM x)) (d + (farM y))).x0), .int .i64 ((chkR (a + (farM x)) (b + (farM y)) (c + (farM x)) (d + (farM y))).y0), .int .i64 ((chkR (a + (farM x)) (b + (farM y)) (c + (farM x)) (d + (farM y))).x1), .int .i64 ((chkR (a + (farM x)) (b + (farM y)) (c + (farM x)) (d + (farM y))).y1)]) (.int .i64 (chkE (a + (farM x)) (b + (farM y)) (c + (farM x)) (d + (farM y)))) (by kernel_rfl) (by kernel_rfl) (by kernel_rfl) (by kernel_rfl) (fun w hT => ?_)
  exact ⟨rfl, hT.post rfl⟩

theorem layShown (m : Nat) (W H : Int) (r n cap : Nat) (px : List Int) (X Y s al ca cb cc cd : Int) (a b c d : Int) (w : World) (hI : ImgR 99 w m W H r n cap px) (hok : ImgOk W H n px) :
    Calls Try.prog 42 #[.agg #[.pointer (some ⟨m, 0, none⟩), .int .i64 X, .int .i64 Y, .int .i64 s, .int .i64 al, .int .i64 ca, .int .i64 cb, .int .i64 cc, .int .i64 cd], .agg #[.int .i64 a, .int .i64 b, .int .i64 c, .int .i64 d]] w fun e w' => e = .returned (.tuple #[.agg #[.int .i64 ((shwR W H X Y s a b c d).x0), .int .i64 ((shwR W H X Y s a b c d).y0), .int .i64 ((shwR W H X Y s a b c d).x1), .int .i64 ((shwR W H X Y s a b c d).y1)], .bool (shwB W H X Y s a b c d)]) ∧ Below w.heap.size w w' := by
  have hcap := hI.cap
  refine enter 39 [(0, .agg #[.pointer (some ⟨m, 0, none⟩), .int .i64 X, .int .i64 Y, .int .i64 s, .int .i64 al, .int .i64 ca, .int .i64 cb, .int .i64 cc, .int .i64 cd]), (1, .agg #[.int .i64 a, .int .i64 b, .int .i64 c, .int .i64 d])] [.ro m [.int .i64 W, .int .i64 H, .slice (some ⟨r, 0, none⟩) n cap] 99, .gen (rdE (some ⟨r, 0, none⟩) r 0 n 1 (ivals .u32 px))] Try.func42 rfl Try.ntmps42 rfl (by kernel_rfl) hI.tab ?_
  refine cont_seq ?_
  refine cont_region 4 rfl ?_
  refine batch3 [0, 0, 0, 0] 4 0 (fun b1 b2 b3 => [(2, .pointer (some ⟨b1, 0, none⟩)), (3, .pointer (some ⟨b2, 0, none⟩)), (4, .pointer (some ⟨b3, 0, none⟩))]) (fun b1 b2 b3 => [.cells b3 [.int .i64 0, .int .i64 0, .int .i64 0, .int .i64 0] 28 true, .cells b2 [.int .i64 a, .int .i64 b, .int .i64 c, .int .i64 d] 28 true, .cells b1 [.pointer (some ⟨m, 0, none⟩), .int .i64 X, .int .i64 Y, .int .i64 s, .int .i64 al, .int .i64 ca, .int .i64 cb, .int .i64 cc, .int .i64 cd] 37 true, .ro m [.int .i64 W, .int .i64 H, .slice (some ⟨r, 0, none⟩) n cap] 99, .gen (rdE (some ⟨r, 0, none⟩) r 0 n 1 (ivals .u32 px))]) rfl rfl [2, 3, 4] (fun _ _ _ => rfl) (fun b1 b2 b3 => by kernel_rfl) (fun b1 b2 b3 => by kernel_rfl) (fun b1 b2 b3 => ?_)
  refine cont_done ?_
  refine then_normal ?_
  refine cont_seq ?_
  refine drawn_enter 6 [1] rfl (by kernel_rfl) ?_
  refine takes 0 [1] [(1, 0), (2, 2)] 4 [2, 1] [(2, .pointer (some ⟨b1, 0, none⟩)), (3, .pointer (some ⟨b2, 0, none⟩)), (4, .pointer (some ⟨b3, 0, none⟩)), (9, .pointer (some ⟨m, 0, none⟩))] (by kernel_rfl) (pok_then pok_body) (by kernel_rfl) rfl rfl (by kernel_rfl) (by kernel_rfl) ?_
  refine drawn_two 0 3 3 rfl (by kernel_rfl) ?_ ?_
  ·
    refine one_step 1 [(2, .pointer (some ⟨b1, 0, none⟩)), (3, .pointer (some ⟨b2, 0, none⟩)), (4, .pointer (some ⟨b3, 0, none⟩)), (7, .agg #[.int .i64 a, .int .i64 b, .int .i64 c, .int .i64 d]), (9, .pointer (some ⟨m, 0, none⟩))] [.cells b3 [.int .i64 0, .int .i64 0, .int .i64 0, .int .i64 0] 28 true, .cells b2 [.int .i64 a, .int .i64 b, .int .i64 c, .int .i64 d] 28 true, .cells b1 [.pointer (some ⟨m, 0, none⟩), .int .i64 X, .int .i64 Y, .int .i64 s, .int .i64 al, .int .i64 ca, .int .i64 cb, .int .i64 cc, .int .i64 cd] 37 true, .ro m [.int .i64 W, .int .i64 H, .slice (some ⟨r, 0, none⟩) n cap] 99, .gen (rdE (some ⟨r, 0, none⟩) r 0 n 1 (ivals .u32 px))] (by kernel_rfl) (by kernel_rfl) ?_
    refine drawn_next 0 [1] (by kernel_rfl) ?_
    refine drawn_one 3 2 rfl (by kernel_rfl) ?_
    refine call_pure (d := 10) (.agg #[.int .i64 0, .int .i64 0, .int .i64 W, .int .i64 H]) (by kernel_rfl) (fun w hT => imgBox m W H r n cap px  w ⟨hT.ok 3 _ rfl, hT.ok 4 _ rfl, by omega⟩ hok) ?_
    refine drawn_next 0 [1] (by kernel_rfl) ?_
    refine drawn_one 4 1 rfl (by kernel_rfl) ?_
    refine call_pure (d := 11) (.agg #[.int .i64 ((cutR a b c d 0 0 W H).x0), .int .i64 ((cutR a b c d 0 0 W H).y0), .int .i64 ((cutR a b c d 0 0 W H).x1), .int .i64 ((cutR a b c d 0 0 W H).y1)]) (by kernel_rfl) (fun w hT => rectCut a b c d 0 0 W H w) ?_
    refine drawn_next 0 [1] (by kernel_rfl) ?_
    refine drawn_one 5 0 rfl (by kernel_rfl) ?_
    refine one_step 1 [(2, .pointer (some ⟨b1, 0, none⟩)), (3, .pointer (some ⟨b2, 0, none⟩)), (4, .pointer (some ⟨b3, 0, none⟩))] [.cells b3 [.int .i64 0, .int .i64 0, .int .i64 0, .int .i64 0] 28 true, .cells b2 [.int .i64 ((cutR a b c d 0 0 W H).x0), .int .i64 ((cutR a b c d 0 0 W H).y0), .int .i64 ((cutR a b c d 0 0 W H).x1), .int .i64 ((cutR a b c d 0 0 W H).y1)] 28 true, .cells b1 [.pointer (some ⟨m, 0, none⟩), .int .i64 X, .int .i64 Y, .int .i64 s, .int .i64 al, .int .i64 ca, .int .i64 cb, .int .i64 cc, .int .i64 cd] 37 true, .ro m [.int .i64 W, .int .i64 H, .slice (some ⟨r, 0, none⟩) n cap] 99, .gen (rdE (some ⟨r, 0, none⟩) r 0 n 1 (ivals .u32 px))] (by kernel_rfl) (by kernel_rfl) ?_
    refine drawn_next 0 [1] (by kernel_rfl) ?_
    refine drawn_done (by kernel_rfl) ?_
    refine then_normal ?_
    refine cont_seq ?_
    refine cont_seq ?_
    refine cont_region 2 rfl ?_
    refine bS [1] 1 1 [(2, .pointer (some ⟨b1, 0, none⟩)), (3, .pointer (some ⟨b2, 0, none⟩)), (4, .pointer (some ⟨b3, 0, none⟩)), (12, .agg #[.int .i64 ((cutR a b c d 0 0 W H).x0), .int .i64 ((cutR a b c d 0 0 W H).y0), .int .i64 ((cutR a b c d 0 0 W H).x1), .int .i64 ((cutR a b c d 0 0 W H).y1)])] ?_
    refine pl_step 2 0 rfl rfl ?_
    refine call_pure (d := 13) (.bool (emptyB ((cutR a b c d 0 0 W H).x0) ((cutR a b c d 0 0 W H).y0) ((cutR a b c d 0 0 W H).x1) ((cutR a b c d 0 0 W H).y1))) (by kernel_rfl) (fun w hT => rectEmpty ((cutR a b c d 0 0 W H).x0) ((cutR a b c d 0 0 W H).y0) ((cutR a b c d 0 0 W H).x1) ((cutR a b c d 0 0 W H).y1) w) ?_
    refine cont_done ?_
    refine then_normal ?_
    refine cont_split 13 (emptyB ((cutR a b c d 0 0 W H).x0) ((cutR a b c d 0 0 W H).y0) ((cutR a b c d 0 0 W H).x1) ((cutR a b c d 0 0 W H).y1)) rfl (fun c4_ => ?_) (fun c4_ => ?_)
    ·
      refine cont_true rfl ?_
      refine cont_seq ?_
      refine cont_region 3 rfl ?_
      refine bS [0, 0, 0] 3 0 [(4, .pointer (some ⟨b3, 0, none⟩)), (5, .bool true)] ?_
      refine cont_forget 1 rfl ?_
      refine cont_forget 1 rfl ?_
      refine cont_done ?_
      refine then_normal ?_
      refine cont_ret ?_
      refine then_ret ?_
      refine ret_two (.inl rfl) rfl 0 0 (.agg #[.int .i64 0, .int .i64 0, .int .i64 0, .int .i64 0]) (.bool true) (by kernel_rfl) (by kernel_rfl) (by kernel_rfl) (by kernel_rfl) (fun w hT => ?_)
      exact ⟨by simp [shwR, shwB, *], hT.post rfl⟩
    refine cont_false rfl ?_
    refine cont_skip ?_
    refine then_normal ?_
    refine cont_seq ?_
    refine cont_region 9 rfl ?_
    refine bS [1, 0, 2] 3 6 [(2, .pointer (some ⟨b1, 0, none⟩)), (3, .pointer (some ⟨b2, 0, none⟩)), (4, .pointer (some ⟨b3, 0, none⟩)), (16, .agg #[.int .i64 ((cutR a b c d 0 0 W H).x0), .int .i64 ((cutR a b c d 0 0 W H).y0), .int .i64 ((cutR a b c d 0 0 W H).x1), .int .i64 ((cutR a b c d 0 0 W H).y1)]), (18, .int .i64 s)] ?_
    refine pl_step 4 5 rfl rfl ?_
    refine call_pure (d := 19) (.tuple #[.agg #[.int .i64 ((sclR ((cutR a b c d 0 0 W H).x0) ((cutR a b c d 0 0 W H).y0) ((cutR a b c d 0 0 W H).x1) ((cutR a b c d 0 0 W H).y1) s).x0), .int .i64 ((sclR ((cutR a b c d 0 0 W H).x0) ((cutR a b c d 0 0 W H).y0) ((cutR a b c d 0 0 W H).x1) ((cutR a b c d 0 0 W H).y1) s).y0), .int .i64 ((sclR ((cutR a b c d 0 0 W H).x0) ((cutR a b c d 0 0 W H).y0) ((cutR a b c d 0 0 W H).x1) ((cutR a b c d 0 0 W H).y1) s).x1), .int .i64 ((sclR ((cutR a b c d 0 0 W H).x0) ((cutR a b c d 0 0 W H).y0) ((cutR a b c d 0 0 W H).x1) ((cutR a b c d 0 0 W H).y1) s).y1)], .int .i64 (sclE ((cutR a b c d 0 0 W H).x0) ((cutR a b c d 0 0 W H).y0) ((cutR a b c d 0 0 W H).x1) ((cutR a b c d 0 0 W H).y1) s)]) (by kernel_rfl) (fun w hT => rectScl ((cutR a b c d 0 0 W H).x0) ((cutR a b c d 0 0 W H).y0) ((cutR a b c d 0 0 W H).x1) ((cutR a b c d 0 0 W H).y1) s w) ?_
    refine batch0 [0, 0, 0, 1, 0] 9 0 [(2, .pointer (some ⟨b1, 0, none⟩)), (3, .pointer (some ⟨b2, 0, none⟩)), (4, .pointer (some ⟨b3, 0, none⟩)), (6, .int .i64 (sclE ((cutR a b c d 0 0 W H).x0) ((cutR a b c d 0 0 W H).y0) ((cutR a b c d 0 0 W H).x1) ((cutR a b c d 0 0 W H).y1) s))] [.cells b3 [.int .i64 0, .int .i64 0, .int .i64 0, .int .i64 0] 28 true, .cells b2 [.int .i64 ((sclR ((cutR a b c d 0 0 W H).x0) ((cutR a b c d 0 0 W H).y0) ((cutR a b c d 0 0 W H).x1) ((cutR a b c d 0 0 W H).y1) s).x0), .int .i64 ((sclR ((cutR a b c d 0 0 W H).x0) ((cutR a b c d 0 0 W H).y0) ((cutR a b c d 0 0 W H).x1) ((cutR a b c d 0 0 W H).y1) s).y0), .int .i64 ((sclR ((cutR a b c d 0 0 W H).x0) ((cutR a b c d 0 0 W H).y0) ((cutR a b c d 0 0 W H).x1) ((cutR a b c d 0 0 W H).y1) s).x1), .int .i64 ((sclR ((cutR a b c d 0 0 W H).x0) ((cutR a b c d 0 0 W H).y0) ((cutR a b c d 0 0 W H).x1) ((cutR a b c d 0 0 W H).y1) s).y1)] 28 true, .cells b1 [.pointer (some ⟨m, 0, none⟩), .int .i64 X, .int .i64 Y, .int .i64 s, .int .i64 al, .int .i64 ca, .int .i64 cb, .int .i64 cc, .int .i64 cd] 37 true, .ro m [.int .i64 W, .int .i64 H, .slice (some ⟨r, 0, none⟩) n cap] 99, .gen (rdE (some ⟨r, 0, none⟩) r 0 n 1 (ivals .u32 px))] rfl rfl (by kernel_rfl) (by kernel_rfl) ?_
    refine cont_done ?_
    refine then_normal ?_
    refine cont_seq ?_
    refine cont_seq ?_
    refine cont_region 2 rfl ?_
    refine bS [0, 0] 2 0 [(2, .pointer (some ⟨b1, 0, none⟩)), (3, .pointer (some ⟨b2, 0, none⟩)), (4, .pointer (some ⟨b3, 0, none⟩)), (23, .bool ((sclE ((cutR a b c d 0 0 W H).x0) ((cutR a b c d 0 0 W H).y0) ((cutR a b c d 0 0 W H).x1) ((cutR a b c d 0 0 W H).y1) s) != 0))] ?_
    refine cont_done ?_
    refine then_normal ?_
    refine cont_split 23 ((sclE ((cutR a b c d 0 0 W H).x0) ((cutR a b c d 0 0 W H).y0) ((cutR a b c d 0 0 W H).x1) ((cutR a b c d 0 0 W H).y1) s) != 0) rfl (fun c5_ => ?_) (fun c5_ => ?_)
    ·
      replace c5_ := ne_of_bne c5_
      refine cont_true rfl ?_
      refine cont_seq ?_
      refine cont_region 3 rfl ?_
      refine bS [0, 0, 0] 3 0 [(4, .pointer (some ⟨b3, 0, none⟩)), (5, .bool false)] ?_
      refine cont_forget 1 rfl ?_
      refine cont_forget 1 rfl ?_
      refine cont_done ?_
      refine then_normal ?_
      refine cont_ret ?_
      refine then_ret ?_
      refine ret_two (.inl rfl) rfl 0 0 (.agg #[.int .i64 0, .int .i64 0, .int .i64 0, .int .i64 0]) (.bool false) (by kernel_rfl) (by kernel_rfl) (by kernel_rfl) (by kernel_rfl) (fun w hT => ?_)
      exact ⟨by simp [shwR, shwB, *], hT.post rfl⟩
    replace c5_ := eq_of_bne_false c5_
    refine cont_false rfl ?_
    refine cont_skip ?_
    refine then_normal ?_
    refine cont_seq ?_
    refine cont_region 13 rfl ?_
    have hsr := sclR_range (cutR a b c d 0 0 W H).x0 (cutR a b c d 0 0 W H).y0 (cutR a b c d 0 0 W H).x1 (cutR a b c d 0 0 W H).y1 s
    refine bS [1, 0, 0, 2, 0, 0, 2] 7 6 [(3, .pointer (some ⟨b2, 0, none⟩)), (4, .pointer (some ⟨b3, 0, none⟩)), (26, .agg #[.int .i64 ((sclR ((cutR a b c d 0 0 W H).x0) ((cutR a b c d 0 0 W H).y0) ((cutR a b c d 0 0 W H).x1) ((cutR a b c d 0 0 W H).y1) s).x0), .int .i64 ((sclR ((cutR a b c d 0 0 W H).x0) ((cutR a b c d 0 0 W H).y0) ((cutR a b c d 0 0 W H).x1) ((cutR a b c d 0 0 W H).y1) s).y0), .int .i64 ((sclR ((cutR a b c d 0 0 W H).x0) ((cutR a b c d 0 0 W H).y0) ((cutR a b c d 0 0 W H).x1) ((cutR a b c d 0 0 W H).y1) s).x1), .int .i64 ((sclR ((cutR a b c d 0 0 W H).x0) ((cutR a b c d 0 0 W H).y0) ((cutR a b c d 0 0 W H).x1) ((cutR a b c d 0 0 W H).y1) s).y1)]), (29, .int .i64 X), (32, .int .i64 Y)] ?_
    refine cont_forget 2 rfl ?_
    refine pl_step 8 5 rfl rfl ?_
    refine call_pure (d := 33) (.tuple #[.agg #[.int .i64 ((movR ((sclR ((cutR a b c d 0 0 W H).x0) ((cutR a b c d 0 0 W H).y0) ((cutR a b c d 0 0 W H).x1) ((cutR a b c d 0 0 W H).y1) s).x0) ((sclR ((cutR a b c d 0 0 W H).x0) ((cutR a b c d 0 0 W H).y0) ((cutR a b c d 0 0 W H).x1) ((cutR a b c d 0 0 W H).y1) s).y0) ((sclR ((cutR a b c d 0 0 W H).x0) ((cutR a b c d 0 0 W H).y0) ((cutR a b c d 0 0 W H).x1) ((cutR a b c d 0 0 W H).y1) s).x1) ((sclR ((cutR a b c d 0 0 W H).x0) ((cutR a b c d 0 0 W H).y0) ((cutR a b c d 0 0 W H).x1) ((cutR a b c d 0 0 W H).y1) s).y1) X Y).x0), .int .i64 ((movR ((sclR ((cutR a b c d 0 0 W H).x0) ((cutR a b c d 0 0 W H).y0) ((cutR a b c d 0 0 W H).x1) ((cutR a b c d 0 0 W H).y1) s).x0) ((sclR ((cutR a b c d 0 0 W H).x0) ((cutR a b c d 0 0 W H).y0) ((cutR a b c d 0 0 W H).x1) ((cutR a b c d 0 0 W H).y1) s).y0) ((sclR ((cutR a b c d 0 0 W H).x0) ((cutR a b c d 0 0 W H).y0) ((cutR a b c d 0 0 W H).x1) ((cutR a b c d 0 0 W H).y1) s).x1) ((sclR ((cutR a b c d 0 0 W H).x0) ((cutR a b c d 0 0 W H).y0) ((cutR a b c d 0 0 W H).x1) ((cutR a b c d 0 0 W H).y1) s).y1) X Y).y0), .int .i64 ((movR ((sclR ((cutR a b c d 0 0 W H).x0) ((cutR a b c d 0 0 W H).y0) ((cutR a b c d 0 0 W H).x1) ((cutR a b c d 0 0 W H).y1) s).x0) ((sclR ((cutR a b c d 0 0 W H).x0) ((cutR a b c d 0 0 W H).y0) ((cutR a b c d 0 0 W H).x1) ((cutR a b c d 0 0 W H).y1) s).y0) ((sclR ((cutR a b c d 0 0 W H).x0) ((cutR a b c d 0 0 W H).y0) ((cutR a b c d 0 0 W H).x1) ((cutR a b c d 0 0 W H).y1) s).x1) ((sclR ((cutR a b c d 0 0 W H).x0) ((cutR a b c d 0 0 W H).y0) ((cutR a b c d 0 0 W H).x1) ((cutR a b c d 0 0 W H).y1) s).y1) X Y).x1), .int .i64 ((movR ((sclR ((cutR a b c d 0 0 W H).x0) ((cutR a b c d 0 0 W H).y0) ((cutR a b c d 0 0 W H).x1) ((cutR a b c d 0 0 W H).y1) s).x0) ((sclR ((cutR a b c d 0 0 W H).x0) ((cutR a b c d 0 0 W H).y0) ((cutR a b c d 0 0 W H).x1) ((cutR a b c d 0 0 W H).y1) s).y0) ((sclR ((cutR a b c d 0 0 W H).x0) ((cutR a b c d 0 0 W H).y0) ((cutR a b c d 0 0 W H).x1) ((cutR a b c d 0 0 W H).y1) s).x1) ((sclR ((cutR a b c d 0 0 W H).x0) ((cutR a b c d 0 0 W H).y0) ((cutR a b c d 0 0 W H).x1) ((cutR a b c d 0 0 W H).y1) s).y1) X Y).y1)], .int .i64 (movE ((sclR ((cutR a b c d 0 0 W H).x0) ((cutR a b c d 0 0 W H).y0) ((cutR a b c d 0 0 W H).x1) ((cutR a b c d 0 0 W H).y1) s).x0) ((sclR ((cutR a b c d 0 0 W H).x0) ((cutR a b c d 0 0 W H).y0) ((cutR a b c d 0 0 W H).x1) ((cutR a b c d 0 0 W H).y1) s).y0) ((sclR ((cutR a b c d 0 0 W H).x0) ((cutR a b c d 0 0 W H).y0) ((cutR a b c d 0 0 W H).x1) ((cutR a b c d 0 0 W H).y1) s).x1) ((sclR ((cutR a b c d 0 0 W H).x0) ((cutR a b c d 0 0 W H).y0) ((cutR a b c d 0 0 W H).x1) ((cutR a b c d 0 0 W H).y1) s).y1) X Y)]) (by kernel_rfl) (fun w hT => rectMov ((sclR ((cutR a b c d 0 0 W H).x0) ((cutR a b c d 0 0 W H).y0) ((cutR a b c d 0 0 W H).x1) ((cutR a b c d 0 0 W H).y1) s).x0) ((sclR ((cutR a b c d 0 0 W H).x0) ((cutR a b c d 0 0 W H).y0) ((cutR a b c d 0 0 W H).x1) ((cutR a b c d 0 0 W H).y1) s).y0) ((sclR ((cutR a b c d 0 0 W H).x0) ((cutR a b c d 0 0 W H).y0) ((cutR a b c d 0 0 W H).x1) ((cutR a b c d 0 0 W H).y1) s).x1) ((sclR ((cutR a b c d 0 0 W H).x0) ((cutR a b c d 0 0 W H).y0) ((cutR a b c d 0 0 W H).x1) ((cutR a b c d 0 0 W H).y1) s).y1) X Y w (by omega) (by omega) (by omega) (by omega)) ?_
    refine batch0 [0, 0, 0, 1, 0] 13 0 [(3, .pointer (some ⟨b2, 0, none⟩)), (4, .pointer (some ⟨b3, 0, none⟩)), (6, .int .i64 (movE ((sclR ((cutR a b c d 0 0 W H).x0) ((cutR a b c d 0 0 W H).y0) ((cutR a b c d 0 0 W H).x1) ((cutR a b c d 0 0 W H).y1) s).x0) ((sclR ((cutR a b c d 0 0 W H).x0) ((cutR a b c d 0 0 W H).y0) ((cutR a b c d 0 0 W H).x1) ((cutR a b c d 0 0 W H).y1) s).y0) ((sclR ((cutR a b c d 0 0 W H).x0) ((cutR a b c d 0 0 W H).y0) ((cutR a b c d 0 0 W H).x1) ((cutR a b c d 0 0 W H).y1) s).x1) ((sclR ((cutR a b c d 0 0 W H).x0) ((cutR a b c d 0 0 W H).y0) ((cutR a b c d 0 0 W H).x1) ((cutR a b c d 0 0 W H).y1) s).y1) X Y))] [.cells b3 [.int .i64 0, .int .i64 0, .int .i64 0, .int .i64 0] 28 true, .cells b2 [.int .i64 ((movR ((sclR ((cutR a b c d 0 0 W H).x0) ((cutR a b c d 0 0 W H).y0) ((cutR a b c d 0 0 W H).x1) ((cutR a b c d 0 0 W H).y1) s).x0) ((sclR ((cutR a b c d 0 0 W H).x0) ((cutR a b c d 0 0 W H).y0) ((cutR a b c d 0 0 W H).x1) ((cutR a b c d 0 0 W H).y1) s).y0) ((sclR ((cutR a b c d 0 0 W H).x0) ((cutR a b c d 0 0 W H).y0) ((cutR a b c d 0 0 W H).x1) ((cutR a b c d 0 0 W H).y1) s).x1) ((sclR ((cutR a b c d 0 0 W H).x0) ((cutR a b c d 0 0 W H).y0) ((cutR a b c d 0 0 W H).x1) ((cutR a b c d 0 0 W H).y1) s).y1) X Y).x0), .int .i64 ((movR ((sclR ((cutR a b c d 0 0 W H).x0) ((cutR a b c d 0 0 W H).y0) ((cutR a b c d 0 0 W H).x1) ((cutR a b c d 0 0 W H).y1) s).x0) ((sclR ((cutR a b c d 0 0 W H).x0) ((cutR a b c d 0 0 W H).y0) ((cutR a b c d 0 0 W H).x1) ((cutR a b c d 0 0 W H).y1) s).y0) ((sclR ((cutR a b c d 0 0 W H).x0) ((cutR a b c d 0 0 W H).y0) ((cutR a b c d 0 0 W H).x1) ((cutR a b c d 0 0 W H).y1) s).x1) ((sclR ((cutR a b c d 0 0 W H).x0) ((cutR a b c d 0 0 W H).y0) ((cutR a b c d 0 0 W H).x1) ((cutR a b c d 0 0 W H).y1) s).y1) X Y).y0), .int .i64 ((movR ((sclR ((cutR a b c d 0 0 W H).x0) ((cutR a b c d 0 0 W H).y0) ((cutR a b c d 0 0 W H).x1) ((cutR a b c d 0 0 W H).y1) s).x0) ((sclR ((cutR a b c d 0 0 W H).x0) ((cutR a b c d 0 0 W H).y0) ((cutR a b c d 0 0 W H).x1) ((cutR a b c d 0 0 W H).y1) s).y0) ((sclR ((cutR a b c d 0 0 W H).x0) ((cutR a b c d 0 0 W H).y0) ((cutR a b c d 0 0 W H).x1) ((cutR a b c d 0 0 W H).y1) s).x1) ((sclR ((cutR a b c d 0 0 W H).x0) ((cutR a b c d 0 0 W H).y0) ((cutR a b c d 0 0 W H).x1) ((cutR a b c d 0 0 W H).y1) s).y1) X Y).x1), .int .i64 ((movR ((sclR ((cutR a b c d 0 0 W H).x0) ((cutR a b c d 0 0 W H).y0) ((cutR a b c d 0 0 W H).x1) ((cutR a b c d 0 0 W H).y1) s).x0) ((sclR ((cutR a b c d 0 0 W H).x0) ((cutR a b c d 0 0 W H).y0) ((cutR a b c d 0 0 W H).x1) ((cutR a b c d 0 0 W H).y1) s).y0) ((sclR ((cutR a b c d 0 0 W H).x0) ((cutR a b c d 0 0 W H).y0) ((cutR a b c d 0 0 W H).x1) ((cutR a b c d 0 0 W H).y1) s).x1) ((sclR ((cutR a b c d 0 0 W H).x0) ((cutR a b c d 0 0 W H).y0) ((cutR a b c d 0 0 W H).x1) ((cutR a b c d 0 0 W H).y1) s).y1) X Y).y1)] 28 true, .ro m [.int .i64 W, .int .i64 H, .slice (some ⟨r, 0, none⟩) n cap] 99, .gen (rdE (some ⟨r, 0, none⟩) r 0 n 1 (ivals .u32 px))] rfl rfl (by kernel_rfl) (by kernel_rfl) ?_
    refine cont_done ?_
    refine then_normal ?_
    refine cont_seq ?_
    refine cont_region 5 rfl ?_
    refine batch0 [1, 0, 0, 0, 0] 5 0 [(4, .pointer (some ⟨b3, 0, none⟩)), (5, .bool ((movE ((sclR ((cutR a b c d 0 0 W H).x0) ((cutR a b c d 0 0 W H).y0) ((cutR a b c d 0 0 W H).x1) ((cutR a b c d 0 0 W H).y1) s).x0) ((sclR ((cutR a b c d 0 0 W H).x0) ((cutR a b c d 0 0 W H).y0) ((cutR a b c d 0 0 W H).x1) ((cutR a b c d 0 0 W H).y1) s).y0) ((sclR ((cutR a b c d 0 0 W H).x0) ((cutR a b c d 0 0 W H).y0) ((cutR a b c d 0 0 W H).x1) ((cutR a b c d 0 0 W H).y1) s).x1) ((sclR ((cutR a b c d 0 0 W H).x0) ((cutR a b c d 0 0 W H).y0) ((cutR a b c d 0 0 W H).x1) ((cutR a b c d 0 0 W H).y1) s).y1) X Y) == 0))] [.cells b3 [.int .i64 ((movR ((sclR ((cutR a b c d 0 0 W H).x0) ((cutR a b c d 0 0 W H).y0) ((cutR a b c d 0 0 W H).x1) ((cutR a b c d 0 0 W H).y1) s).x0) ((sclR ((cutR a b c d 0 0 W H).x0) ((cutR a b c d 0 0 W H).y0) ((cutR a b c d 0 0 W H).x1) ((cutR a b c d 0 0 W H).y1) s).y0) ((sclR ((cutR a b c d 0 0 W H).x0) ((cutR a b c d 0 0 W H).y0) ((cutR a b c d 0 0 W H).x1) ((cutR a b c d 0 0 W H).y1) s).x1) ((sclR ((cutR a b c d 0 0 W H).x0) ((cutR a b c d 0 0 W H).y0) ((cutR a b c d 0 0 W H).x1) ((cutR a b c d 0 0 W H).y1) s).y1) X Y).x0), .int .i64 ((movR ((sclR ((cutR a b c d 0 0 W H).x0) ((cutR a b c d 0 0 W H).y0) ((cutR a b c d 0 0 W H).x1) ((cutR a b c d 0 0 W H).y1) s).x0) ((sclR ((cutR a b c d 0 0 W H).x0) ((cutR a b c d 0 0 W H).y0) ((cutR a b c d 0 0 W H).x1) ((cutR a b c d 0 0 W H).y1) s).y0) ((sclR ((cutR a b c d 0 0 W H).x0) ((cutR a b c d 0 0 W H).y0) ((cutR a b c d 0 0 W H).x1) ((cutR a b c d 0 0 W H).y1) s).x1) ((sclR ((cutR a b c d 0 0 W H).x0) ((cutR a b c d 0 0 W H).y0) ((cutR a b c d 0 0 W H).x1) ((cutR a b c d 0 0 W H).y1) s).y1) X Y).y0), .int .i64 ((movR ((sclR ((cutR a b c d 0 0 W H).x0) ((cutR a b c d 0 0 W H).y0) ((cutR a b c d 0 0 W H).x1) ((cutR a b c d 0 0 W H).y1) s).x0) ((sclR ((cutR a b c d 0 0 W H).x0) ((cutR a b c d 0 0 W H).y0) ((cutR a b c d 0 0 W H).x1) ((cutR a b c d 0 0 W H).y1) s).y0) ((sclR ((cutR a b c d 0 0 W H).x0) ((cutR a b c d 0 0 W H).y0) ((cutR a b c d 0 0 W H).x1) ((cutR a b c d 0 0 W H).y1) s).x1) ((sclR ((cutR a b c d 0 0 W H).x0) ((cutR a b c d 0 0 W H).y0) ((cutR a b c d 0 0 W H).x1) ((cutR a b c d 0 0 W H).y1) s).y1) X Y).x1), .int .i64 ((movR ((sclR ((cutR a b c d 0 0 W H).x0) ((cutR a b c d 0 0 W H).y0) ((cutR a b c d 0 0 W H).x1) ((cutR a b c d 0 0 W H).y1) s).x0) ((sclR ((cutR a b c d 0 0 W H).x0) ((cutR a b c d 0 0 W H).y0) ((cutR a b c d 0 0 W H).x1) ((cutR a b c d 0 0 W H).y1) s).y0) ((sclR ((cutR a b c d 0 0 W H).x0) ((cutR a b c d 0 0 W H).y0) ((cutR a b c d 0 0 W H).x1) ((cutR a b c d 0 0 W H).y1) s).x1) ((sclR ((cutR a b c d 0 0 W H).x0) ((cutR a b c d 0 0 W H).y0) ((cutR a b c d 0 0 W H).x1) ((cutR a b c d 0 0 W H).y1) s).y1) X Y).y1)] 28 true, .cells b2 [.int .i64 ((movR ((sclR ((cutR a b c d 0 0 W H).x0) ((cutR a b c d 0 0 W H).y0) ((cutR a b c d 0 0 W H).x1) ((cutR a b c d 0 0 W H).y1) s).x0) ((sclR ((cutR a b c d 0 0 W H).x0) ((cutR a b c d 0 0 W H).y0) ((cutR a b c d 0 0 W H).x1) ((cutR a b c d 0 0 W H).y1) s).y0) ((sclR ((cutR a b c d 0 0 W H).x0) ((cutR a b c d 0 0 W H).y0) ((cutR a b c d 0 0 W H).x1) ((cutR a b c d 0 0 W H).y1) s).x1) ((sclR ((cutR a b c d 0 0 W H).x0) ((cutR a b c d 0 0 W H).y0) ((cutR a b c d 0 0 W H).x1) ((cutR a b c d 0 0 W H).y1) s).y1) X Y).x0), .int .i64 ((movR ((sclR ((cutR a b c d 0 0 W H).x0) ((cutR a b c d 0 0 W H).y0) ((cutR a b c d 0 0 W H).x1) ((cutR a b c d 0 0 W H).y1) s).x0) ((sclR ((cutR a b c d 0 0 W H).x0) ((cutR a b c d 0 0 W H).y0) ((cutR a b c d 0 0 W H).x1) ((cutR a b c d 0 0 W H).y1) s).y0) ((sclR ((cutR a b c d 0 0 W H).x0) ((cutR a b c d 0 0 W H).y0) ((cutR a b c d 0 0 W H).x1) ((cutR a b c d 0 0 W H).y1) s).x1) ((sclR ((cutR a b c d 0 0 W H).x0) ((cutR a b c d 0 0 W H).y0) ((cutR a b c d 0 0 W H).x1) ((cutR a b c d 0 0 W H).y1) s).y1) X Y).y0), .int .i64 ((movR ((sclR ((cutR a b c d 0 0 W H).x0) ((cutR a b c d 0 0 W H).y0) ((cutR a b c d 0 0 W H).x1) ((cutR a b c d 0 0 W H).y1) s).x0) ((sclR ((cutR a b c d 0 0 W H).x0) ((cutR a b c d 0 0 W H).y0) ((cutR a b c d 0 0 W H).x1) ((cutR a b c d 0 0 W H).y1) s).y0) ((sclR ((cutR a b c d 0 0 W H).x0) ((cutR a b c d 0 0 W H).y0) ((cutR a b c d 0 0 W H).x1) ((cutR a b c d 0 0 W H).y1) s).x1) ((sclR ((cutR a b c d 0 0 W H).x0) ((cutR a b c d 0 0 W H).y0) ((cutR a b c d 0 0 W H).x1) ((cutR a b c d 0 0 W H).y1) s).y1) X Y).x1), .int .i64 ((movR ((sclR ((cutR a b c d 0 0 W H).x0) ((cutR a b c d 0 0 W H).y0) ((cutR a b c d 0 0 W H).x1) ((cutR a b c d 0 0 W H).y1) s).x0) ((sclR ((cutR a b c d 0 0 W H).x0) ((cutR a b c d 0 0 W H).y0) ((cutR a b c d 0 0 W H).x1) ((cutR a b c d 0 0 W H).y1) s).y0) ((sclR ((cutR a b c d 0 0 W H).x0) ((cutR a b c d 0 0 W H).y0) ((cutR a b c d 0 0 W H).x1) ((cutR a b c d 0 0 W H).y1) s).x1) ((sclR ((cutR a b c d 0 0 W H).x0) ((cutR a b c d 0 0 W H).y0) ((cutR a b c d 0 0 W H).x1) ((cutR a b c d 0 0 W H).y1) s).y1) X Y).y1)] 28 true, .ro m [.int .i64 W, .int .i64 H, .slice (some ⟨r, 0, none⟩) n cap] 99, .gen (rdE (some ⟨r, 0, none⟩) r 0 n 1 (ivals .u32 px))] rfl rfl (by kernel_rfl) (by kernel_rfl) ?_
    refine cont_forget 1 rfl ?_
    refine cont_done ?_
    refine then_normal ?_
    refine cont_ret ?_
    refine ret_two (.inl rfl) rfl 0 0 (.agg #[.int .i64 ((movR ((sclR ((cutR a b c d 0 0 W H).x0) ((cutR a b c d 0 0 W H).y0) ((cutR a b c d 0 0 W H).x1) ((cutR a b c d 0 0 W H).y1) s).x0) ((sclR ((cutR a b c d 0 0 W H).x0) ((cutR a b c d 0 0 W H).y0) ((cutR a b c d 0 0 W H).x1) ((cutR a b c d 0 0 W H).y1) s).y0) ((sclR ((cutR a b c d 0 0 W H).x0) ((cutR a b c d 0 0 W H).y0) ((cutR a b c d 0 0 W H).x1) ((cutR a b c d 0 0 W H).y1) s).x1) ((sclR ((cutR a b c d 0 0 W H).x0) ((cutR a b c d 0 0 W H).y0) ((cutR a b c d 0 0 W H).x1) ((cutR a b c d 0 0 W H).y1) s).y1) X Y).x0), .int .i64 ((movR ((sclR ((cutR a b c d 0 0 W H).x0) ((cutR a b c d 0 0 W H).y0) ((cutR a b c d 0 0 W H).x1) ((cutR a b c d 0 0 W H).y1) s).x0) ((sclR ((cutR a b c d 0 0 W H).x0) ((cutR a b c d 0 0 W H).y0) ((cutR a b c d 0 0 W H).x1) ((cutR a b c d 0 0 W H).y1) s).y0) ((sclR ((cutR a b c d 0 0 W H).x0) ((cutR a b c d 0 0 W H).y0) ((cutR a b c d 0 0 W H).x1) ((cutR a b c d 0 0 W H).y1) s).x1) ((sclR ((cutR a b c d 0 0 W H).x0) ((cutR a b c d 0 0 W H).y0) ((cutR a b c d 0 0 W H).x1) ((cutR a b c d 0 0 W H).y1) s).y1) X Y).y0), .int .i64 ((movR ((sclR ((cutR a b c d 0 0 W H).x0) ((cutR a b c d 0 0 W H).y0) ((cutR a b c d 0 0 W H).x1) ((cutR a b c d 0 0 W H).y1) s).x0) ((sclR ((cutR a b c d 0 0 W H).x0) ((cutR a b c d 0 0 W H).y0) ((cutR a b c d 0 0 W H).x1) ((cutR a b c d 0 0 W H).y1) s).y0) ((sclR ((cutR a b c d 0 0 W H).x0) ((cutR a b c d 0 0 W H).y0) ((cutR a b c d 0 0 W H).x1) ((cutR a b c d 0 0 W H).y1) s).x1) ((sclR ((cutR a b c d 0 0 W H).x0) ((cutR a b c d 0 0 W H).y0) ((cutR a b c d 0 0 W H).x1) ((cutR a b c d 0 0 W H).y1) s).y1) X Y).x1), .int .i64 ((movR ((sclR ((cutR a b c d 0 0 W H).x0) ((cutR a b c d 0 0 W H).y0) ((cutR a b c d 0 0 W H).x1) ((cutR a b c d 0 0 W H).y1) s).x0) ((sclR ((cutR a b c d 0 0 W H).x0) ((cutR a b c d 0 0 W H).y0) ((cutR a b c d 0 0 W H).x1) ((cutR a b c d 0 0 W H).y1) s).y0) ((sclR ((cutR a b c d 0 0 W H).x0) ((cutR a b c d 0 0 W H).y0) ((cutR a b c d 0 0 W H).x1) ((cutR a b c d 0 0 W H).y1) s).x1) ((sclR ((cutR a b c d 0 0 W H).x0) ((cutR a b c d 0 0 W H).y0) ((cutR a b c d 0 0 W H).x1) ((cutR a b c d 0 0 W H).y1) s).y1) X Y).y1)]) (.bool ((movE ((sclR ((cutR a b c d 0 0 W H).x0) ((cutR a b c d 0 0 W H).y0) ((cutR a b c d 0 0 W H).x1) ((cutR a b c d 0 0 W H).y1) s).x0) ((sclR ((cutR a b c d 0 0 W H).x0) ((cutR a b c d 0 0 W H).y0) ((cutR a b c d 0 0 W H).x1) ((cutR a b c d 0 0 W H).y1) s).y0) ((sclR ((cutR a b c d 0 0 W H).x0) ((cutR a b c d 0 0 W H).y0) ((cutR a b c d 0 0 W H).x1) ((cutR a b c d 0 0 W H).y1) s).x1) ((sclR ((cutR a b c d 0 0 W H).x0) ((cutR a b c d 0 0 W H).y0) ((cutR a b c d 0 0 W H).x1) ((cutR a b c d 0 0 W H).y1) s).y1) X Y) == 0)) (by kernel_rfl) (by kernel_rfl) (by kernel_rfl) (by kernel_rfl) (fun w hT => ?_)
    exact ⟨by simp [shwR, shwB, *], hT.post rfl⟩
  refine call_pure (d := 10) (.agg #[.int .i64 0, .int .i64 0, .int .i64 W, .int .i64 H]) (by kernel_rfl) (fun w hT => imgBox m W H r n cap px  w ⟨hT.ok 3 _ rfl, hT.ok 4 _ rfl, by omega⟩ hok) ?_
  refine drawn_next 0 [1] (by kernel_rfl) ?_
  refine drawn_one 0 2 rfl (by kernel_rfl) ?_
  refine one_step 1 [(2, .pointer (some ⟨b1, 0, none⟩)), (3, .pointer (some ⟨b2, 0, none⟩)), (4, .pointer (some ⟨b3, 0, none⟩)), (7, .agg #[.int .i64 a, .int .i64 b, .int .i64 c, .int .i64 d]), (10, .agg #[.int .i64 0, .int .i64 0, .int .i64 W, .int .i64 H])] [.cells b3 [.int .i64 0, .int .i64 0, .int .i64 0, .int .i64 0] 28 true, .cells b2 [.int .i64 a, .int .i64 b, .int .i64 c, .int .i64 d] 28 true, .cells b1 [.pointer (some ⟨m, 0, none⟩), .int .i64 X, .int .i64 Y, .int .i64 s, .int .i64 al, .int .i64 ca, .int .i64 cb, .int .i64 cc, .int .i64 cd] 37 true, .ro m [.int .i64 W, .int .i64 H, .slice (some ⟨r, 0, none⟩) n cap] 99, .gen (rdE (some ⟨r, 0, none⟩) r 0 n 1 (ivals .u32 px))] (by kernel_rfl) (by kernel_rfl) ?_
  refine drawn_next 0 [1] (by kernel_rfl) ?_
  refine drawn_one 4 1 rfl (by kernel_rfl) ?_
  refine call_pure (d := 11) (.agg #[.int .i64 ((cutR a b c d 0 0 W H).x0), .int .i64 ((cutR a b c d 0 0 W H).y0), .int .i64 ((cutR a b c d 0 0 W H).x1), .int .i64 ((cutR a b c d 0 0 W H).y1)]) (by kernel_rfl) (fun w hT => rectCut a b c d 0 0 W H w) ?_
  refine drawn_next 0 [1] (by kernel_rfl) ?_
  refine drawn_one 5 0 rfl (by kernel_rfl) ?_
  refine one_step 1 [(2, .pointer (some ⟨b1, 0, none⟩)), (3, .pointer (some ⟨b2, 0, none⟩)), (4, .pointer (some ⟨b3, 0, none⟩))] [.cells b3 [.int .i64 0, .int .i64 0, .int .i64 0, .int .i64 0] 28 true, .cells b2 [.int .i64 ((cutR a b c d 0 0 W H).x0), .int .i64 ((cutR a b c d 0 0 W H).y0), .int .i64 ((cutR a b c d 0 0 W H).x1), .int .i64 ((cutR a b c d 0 0 W H).y1)] 28 true, .cells b1 [.pointer (some ⟨m, 0, none⟩), .int .i64 X, .int .i64 Y, .int .i64 s, .int .i64 al, .int .i64 ca, .int .i64 cb, .int .i64 cc, .int .i64 cd] 37 true, .ro m [.int .i64 W, .int .i64 H, .slice (some ⟨r, 0, none⟩) n cap] 99, .gen (rdE (some ⟨r, 0, none⟩) r 0 n 1 (ivals .u32 px))] (by kernel_rfl) (by kernel_rfl) ?_
  refine drawn_next 0 [1] (by kernel_rfl) ?_
  refine drawn_done (by kernel_rfl) ?_
  refine then_normal ?_
  refine cont_seq ?_
  refine cont_seq ?_
  refine cont_region 2 rfl ?_
  refine bS [1] 1 1 [(2, .pointer (some ⟨b1, 0, none⟩)), (3, .pointer (some ⟨b2, 0, none⟩)), (4, .pointer (some ⟨b3, 0, none⟩)), (12, .agg #[.int .i64 ((cutR a b c d 0 0 W H).x0), .int .i64 ((cutR a b c d 0 0 W H).y0), .int .i64 ((cutR a b c d 0 0 W H).x1), .int .i64 ((cutR a b c d 0 0 W H).y1)])] ?_
  refine pl_step 2 0 rfl rfl ?_
  refine call_pure (d := 13) (.bool (emptyB ((cutR a b c d 0 0 W H).x0) ((cutR a b c d 0 0 W H).y0) ((cutR a b c d 0 0 W H).x1) ((cutR a b c d 0 0 W H).y1))) (by kernel_rfl) (fun w hT => rectEmpty ((cutR a b c d 0 0 W H).x0) ((cutR a b c d 0 0 W H).y0) ((cutR a b c d 0 0 W H).x1) ((cutR a b c d 0 0 W H).y1) w) ?_
  refine cont_done ?_
  refine then_normal ?_
  refine cont_split 13 (emptyB ((cutR a b c d 0 0 W H).x0) ((cutR a b c d 0 0 W H).y0) ((cutR a b c d 0 0 W H).x1) ((cutR a b c d 0 0 W H).y1)) rfl (fun c6_ => ?_) (fun c6_ => ?_)
  ·
    refine cont_true rfl ?_
    refine cont_seq ?_
    refine cont_region 3 rfl ?_
    refine bS [0, 0, 0] 3 0 [(4, .pointer (some ⟨b3, 0, none⟩)), (5, .bool true)] ?_
    refine cont_forget 1 rfl ?_
    refine cont_forget 1 rfl ?_
    refine cont_done ?_
    refine then_normal ?_
    refine cont_ret ?_
    refine then_ret ?_
    refine ret_two (.inl rfl) rfl 0 0 (.agg #[.int .i64 0, .int .i64 0, .int .i64 0, .int .i64 0]) (.bool true) (by kernel_rfl) (by kernel_rfl) (by kernel_rfl) (by kernel_rfl) (fun w hT => ?_)
    exact ⟨by simp [shwR, shwB, *], hT.post rfl⟩
  refine cont_false rfl ?_
  refine cont_skip ?_
  refine then_normal ?_
  refine cont_seq ?_
  refine cont_region 9 rfl ?_
  refine bS [1, 0, 2] 3 6 [(2, .pointer (some ⟨b1, 0, none⟩)), (3, .pointer (some ⟨b2, 0, none⟩)), (4, .pointer (some ⟨b3, 0, none⟩)), (16, .agg #[.int .i64 ((cutR a b c d 0 0 W H).x0), .int .i64 ((cutR a b c d 0 0 W H).y0), .int .i64 ((cutR a b c d 0 0 W H).x1), .int .i64 ((cutR a b c d 0 0 W H).y1)]), (18, .int .i64 s)] ?_
  refine pl_step 4 5 rfl rfl ?_
  refine call_pure (d := 19) (.tuple #[.agg #[.int .i64 ((sclR ((cutR a b c d 0 0 W H).x0) ((cutR a b c d 0 0 W H).y0) ((cutR a b c d 0 0 W H).x1) ((cutR a b c d 0 0 W H).y1) s).x0), .int .i64 ((sclR ((cutR a b c d 0 0 W H).x0) ((cutR a b c d 0 0 W H).y0) ((cutR a b c d 0 0 W H).x1) ((cutR a b c d 0 0 W H).y1) s).y0), .int .i64 ((sclR ((cutR a b c d 0 0 W H).x0) ((cutR a b c d 0 0 W H).y0) ((cutR a b c d 0 0 W H).x1) ((cutR a b c d 0 0 W H).y1) s).x1), .int .i64 ((sclR ((cutR a b c d 0 0 W H).x0) ((cutR a b c d 0 0 W H).y0) ((cutR a b c d 0 0 W H).x1) ((cutR a b c d 0 0 W H).y1) s).y1)], .int .i64 (sclE ((cutR a b c d 0 0 W H).x0) ((cutR a b c d 0 0 W H).y0) ((cutR a b c d 0 0 W H).x1) ((cutR a b c d 0 0 W H).y1) s)]) (by kernel_rfl) (fun w hT => rectScl ((cutR a b c d 0 0 W H).x0) ((cutR a b c d 0 0 W H).y0) ((cutR a b c d 0 0 W H).x1) ((cutR a b c d 0 0 W H).y1) s w) ?_
  refine batch0 [0, 0, 0, 1, 0] 9 0 [(2, .pointer (some ⟨b1, 0, none⟩)), (3, .pointer (some ⟨b2, 0, none⟩)), (4, .pointer (some ⟨b3, 0, none⟩)), (6, .int .i64 (sclE ((cutR a b c d 0 0 W H).x0) ((cutR a b c d 0 0 W H).y0) ((cutR a b c d 0 0 W H).x1) ((cutR a b c d 0 0 W H).y1) s))] [.cells b3 [.int .i64 0, .int .i64 0, .int .i64 0, .int .i64 0] 28 true, .cells b2 [.int .i64 ((sclR ((cutR a b c d 0 0 W H).x0) ((cutR a b c d 0 0 W H).y0) ((cutR a b c d 0 0 W H).x1) ((cutR a b c d 0 0 W H).y1) s).x0), .int .i64 ((sclR ((cutR a b c d 0 0 W H).x0) ((cutR a b c d 0 0 W H).y0) ((cutR a b c d 0 0 W H).x1) ((cutR a b c d 0 0 W H).y1) s).y0), .int .i64 ((sclR ((cutR a b c d 0 0 W H).x0) ((cutR a b c d 0 0 W H).y0) ((cutR a b c d 0 0 W H).x1) ((cutR a b c d 0 0 W H).y1) s).x1), .int .i64 ((sclR ((cutR a b c d 0 0 W H).x0) ((cutR a b c d 0 0 W H).y0) ((cutR a b c d 0 0 W H).x1) ((cutR a b c d 0 0 W H).y1) s).y1)] 28 true, .cells b1 [.pointer (some ⟨m, 0, none⟩), .int .i64 X, .int .i64 Y, .int .i64 s, .int .i64 al, .int .i64 ca, .int .i64 cb, .int .i64 cc, .int .i64 cd] 37 true, .ro m [.int .i64 W, .int .i64 H, .slice (some ⟨r, 0, none⟩) n cap] 99, .gen (rdE (some ⟨r, 0, none⟩) r 0 n 1 (ivals .u32 px))] rfl rfl (by kernel_rfl) (by kernel_rfl) ?_
  refine cont_done ?_
  refine then_normal ?_
  refine cont_seq ?_
  refine cont_seq ?_
  refine cont_region 2 rfl ?_
  refine bS [0, 0] 2 0 [(2, .pointer (some ⟨b1, 0, none⟩)), (3, .pointer (some ⟨b2, 0, none⟩)), (4, .pointer (some ⟨b3, 0, none⟩)), (23, .bool ((sclE ((cutR a b c d 0 0 W H).x0) ((cutR a b c d 0 0 W H).y0) ((cutR a b c d 0 0 W H).x1) ((cutR a b c d 0 0 W H).y1) s) != 0))] ?_
  refine cont_done ?_
  refine then_normal ?_
  refine cont_split 23 ((sclE ((cutR a b c d 0 0 W H).x0) ((cutR a b c d 0 0 W H).y0) ((cutR a b c d 0 0 W H).x1) ((cutR a b c d 0 0 W H).y1) s) != 0) rfl (fun c7_ => ?_) (fun c7_ => ?_)
  ·
    replace c7_ := ne_of_bne c7_
    refine cont_true rfl ?_
    refine cont_seq ?_
    refine cont_region 3 rfl ?_
    refine bS [0, 0, 0] 3 0 [(4, .pointer (some ⟨b3, 0, none⟩)), (5, .bool false)] ?_
    refine cont_forget 1 rfl ?_
    refine cont_forget 1 rfl ?_
    refine cont_done ?_
    refine then_normal ?_
    refine cont_ret ?_
    refine then_ret ?_
    refine ret_two (.inl rfl) rfl 0 0 (.agg #[.int .i64 0, .int .i64 0, .int .i64 0, .int .i64 0]) (.bool false) (by kernel_rfl) (by kernel_rfl) (by kernel_rfl) (by kernel_rfl) (fun w hT => ?_)
    exact ⟨by simp [shwR, shwB, *], hT.post rfl⟩
  replace c7_ := eq_of_bne_false c7_
  refine cont_false rfl ?_
  refine cont_skip ?_
  refine then_normal ?_
  refine cont_seq ?_
  refine cont_region 13 rfl ?_
  have hsr := sclR_range (cutR a b c d 0 0 W H).x0 (cutR a b c d 0 0 W H).y0 (cutR a b c d 0 0 W H).x1 (cutR a b c d 0 0 W H).y1 s
  refine bS [1, 0, 0, 2, 0, 0, 2] 7 6 [(3, .pointer (some ⟨b2, 0, none⟩)), (4, .pointer (some ⟨b3, 0, none⟩)), (26, .agg #[.int .i64 ((sclR ((cutR a b c d 0 0 W H).x0) ((cutR a b c d 0 0 W H).y0) ((cutR a b c d 0 0 W H).x1) ((cutR a b c d 0 0 W H).y1) s).x0), .int .i64 ((sclR ((cutR a b c d 0 0 W H).x0) ((cutR a b c d 0 0 W H).y0) ((cutR a b c d 0 0 W H).x1) ((cutR a b c d 0 0 W H).y1) s).y0), .int .i64 ((sclR ((cutR a b c d 0 0 W H).x0) ((cutR a b c d 0 0 W H).y0) ((cutR a b c d 0 0 W H).x1) ((cutR a b c d 0 0 W H).y1) s).x1), .int .i64 ((sclR ((cutR a b c d 0 0 W H).x0) ((cutR a b c d 0 0 W H).y0) ((cutR a b c d 0 0 W H).x1) ((cutR a b c d 0 0 W H).y1) s).y1)]), (29, .int .i64 X), (32, .int .i64 Y)] ?_
  refine cont_forget 2 rfl ?_
  refine pl_step 8 5 rfl rfl ?_
  refine call_pure (d := 33) (.tuple #[.agg #[.int .i64 ((movR ((sclR ((cutR a b c d 0 0 W H).x0) ((cutR a b c d 0 0 W H).y0) ((cutR a b c d 0 0 W H).x1) ((cutR a b c d 0 0 W H).y1) s).x0) ((sclR ((cutR a b c d 0 0 W H).x0) ((cutR a b c d 0 0 W H).y0) ((cutR a b c d 0 0 W H).x1) ((cutR a b c d 0 0 W H).y1) s).y0) ((sclR ((cutR a b c d 0 0 W H).x0) ((cutR a b c d 0 0 W H).y0) ((cutR a b c d 0 0 W H).x1) ((cutR a b c d 0 0 W H).y1) s).x1) ((sclR ((cutR a b c d 0 0 W H).x0) ((cutR a b c d 0 0 W H).y0) ((cutR a b c d 0 0 W H).x1) ((cutR a b c d 0 0 W H).y1) s).y1) X Y).x0), .int .i64 ((movR ((sclR ((cutR a b c d 0 0 W H).x0) ((cutR a b c d 0 0 W H).y0) ((cutR a b c d 0 0 W H).x1) ((cutR a b c d 0 0 W H).y1) s).x0) ((sclR ((cutR a b c d 0 0 W H).x0) ((cutR a b c d 0 0 W H).y0) ((cutR a b c d 0 0 W H).x1) ((cutR a b c d 0 0 W H).y1) s).y0) ((sclR ((cutR a b c d 0 0 W H).x0) ((cutR a b c d 0 0 W H).y0) ((cutR a b c d 0 0 W H).x1) ((cutR a b c d 0 0 W H).y1) s).x1) ((sclR ((cutR a b c d 0 0 W H).x0) ((cutR a b c d 0 0 W H).y0) ((cutR a b c d 0 0 W H).x1) ((cutR a b c d 0 0 W H).y1) s).y1) X Y).y0), .int .i64 ((movR ((sclR ((cutR a b c d 0 0 W H).x0) ((cutR a b c d 0 0 W H).y0) ((cutR a b c d 0 0 W H).x1) ((cutR a b c d 0 0 W H).y1) s).x0) ((sclR ((cutR a b c d 0 0 W H).x0) ((cutR a b c d 0 0 W H).y0) ((cutR a b c d 0 0 W H).x1) ((cutR a b c d 0 0 W H).y1) s).y0) ((sclR ((cutR a b c d 0 0 W H).x0) ((cutR a b c d 0 0 W H).y0) ((cutR a b c d 0 0 W H).x1) ((cutR a b c d 0 0 W H).y1) s).x1) ((sclR ((cutR a b c d 0 0 W H).x0) ((cutR a b c d 0 0 W H).y0) ((cutR a b c d 0 0 W H).x1) ((cutR a b c d 0 0 W H).y1) s).y1) X Y).x1), .int .i64 ((movR ((sclR ((cutR a b c d 0 0 W H).x0) ((cutR a b c d 0 0 W H).y0) ((cutR a b c d 0 0 W H).x1) ((cutR a b c d 0 0 W H).y1) s).x0) ((sclR ((cutR a b c d 0 0 W H).x0) ((cutR a b c d 0 0 W H).y0) ((cutR a b c d 0 0 W H).x1) ((cutR a b c d 0 0 W H).y1) s).y0) ((sclR ((cutR a b c d 0 0 W H).x0) ((cutR a b c d 0 0 W H).y0) ((cutR a b c d 0 0 W H).x1) ((cutR a b c d 0 0 W H).y1) s).x1) ((sclR ((cutR a b c d 0 0 W H).x0) ((cutR a b c d 0 0 W H).y0) ((cutR a b c d 0 0 W H).x1) ((cutR a b c d 0 0 W H).y1) s).y1) X Y).y1)], .int .i64 (movE ((sclR ((cutR a b c d 0 0 W H).x0) ((cutR a b c d 0 0 W H).y0) ((cutR a b c d 0 0 W H).x1) ((cutR a b c d 0 0 W H).y1) s).x0) ((sclR ((cutR a b c d 0 0 W H).x0) ((cutR a b c d 0 0 W H).y0) ((cutR a b c d 0 0 W H).x1) ((cutR a b c d 0 0 W H).y1) s).y0) ((sclR ((cutR a b c d 0 0 W H).x0) ((cutR a b c d 0 0 W H).y0) ((cutR a b c d 0 0 W H).x1) ((cutR a b c d 0 0 W H).y1) s).x1) ((sclR ((cutR a b c d 0 0 W H).x0) ((cutR a b c d 0 0 W H).y0) ((cutR a b c d 0 0 W H).x1) ((cutR a b c d 0 0 W H).y1) s).y1) X Y)]) (by kernel_rfl) (fun w hT => rectMov ((sclR ((cutR a b c d 0 0 W H).x0) ((cutR a b c d 0 0 W H).y0) ((cutR a b c d 0 0 W H).x1) ((cutR a b c d 0 0 W H).y1) s).x0) ((sclR ((cutR a b c d 0 0 W H).x0) ((cutR a b c d 0 0 W H).y0) ((cutR a b c d 0 0 W H).x1) ((cutR a b c d 0 0 W H).y1) s).y0) ((sclR ((cutR a b c d 0 0 W H).x0) ((cutR a b c d 0 0 W H).y0) ((cutR a b c d 0 0 W H).x1) ((cutR a b c d 0 0 W H).y1) s).x1) ((sclR ((cutR a b c d 0 0 W H).x0) ((cutR a b c d 0 0 W H).y0) ((cutR a b c d 0 0 W H).x1) ((cutR a b c d 0 0 W H).y1) s).y1) X Y w (by omega) (by omega) (by omega) (by omega)) ?_
  refine batch0 [0, 0, 0, 1, 0] 13 0 [(3, .pointer (some ⟨b2, 0, none⟩)), (4, .pointer (some ⟨b3, 0, none⟩)), (6, .int .i64 (movE ((sclR ((cutR a b c d 0 0 W H).x0) ((cutR a b c d 0 0 W H).y0) ((cutR a b c d 0 0 W H).x1) ((cutR a b c d 0 0 W H).y1) s).x0) ((sclR ((cutR a b c d 0 0 W H).x0) ((cutR a b c d 0 0 W H).y0) ((cutR a b c d 0 0 W H).x1) ((cutR a b c d 0 0 W H).y1) s).y0) ((sclR ((cutR a b c d 0 0 W H).x0) ((cutR a b c d 0 0 W H).y0) ((cutR a b c d 0 0 W H).x1) ((cutR a b c d 0 0 W H).y1) s).x1) ((sclR ((cutR a b c d 0 0 W H).x0) ((cutR a b c d 0 0 W H).y0) ((cutR a b c d 0 0 W H).x1) ((cutR a b c d 0 0 W H).y1) s).y1) X Y))] [.cells b3 [.int .i64 0, .int .i64 0, .int .i64 0, .int .i64 0] 28 true, .cells b2 [.int .i64 ((movR ((sclR ((cutR a b c d 0 0 W H).x0) ((cutR a b c d 0 0 W H).y0) ((cutR a b c d 0 0 W H).x1) ((cutR a b c d 0 0 W H).y1) s).x0) ((sclR ((cutR a b c d 0 0 W H).x0) ((cutR a b c d 0 0 W H).y0) ((cutR a b c d 0 0 W H).x1) ((cutR a b c d 0 0 W H).y1) s).y0) ((sclR ((cutR a b c d 0 0 W H).x0) ((cutR a b c d 0 0 W H).y0) ((cutR a b c d 0 0 W H).x1) ((cutR a b c d 0 0 W H).y1) s).x1) ((sclR ((cutR a b c d 0 0 W H).x0) ((cutR a b c d 0 0 W H).y0) ((cutR a b c d 0 0 W H).x1) ((cutR a b c d 0 0 W H).y1) s).y1) X Y).x0), .int .i64 ((movR ((sclR ((cutR a b c d 0 0 W H).x0) ((cutR a b c d 0 0 W H).y0) ((cutR a b c d 0 0 W H).x1) ((cutR a b c d 0 0 W H).y1) s).x0) ((sclR ((cutR a b c d 0 0 W H).x0) ((cutR a b c d 0 0 W H).y0) ((cutR a b c d 0 0 W H).x1) ((cutR a b c d 0 0 W H).y1) s).y0) ((sclR ((cutR a b c d 0 0 W H).x0) ((cutR a b c d 0 0 W H).y0) ((cutR a b c d 0 0 W H).x1) ((cutR a b c d 0 0 W H).y1) s).x1) ((sclR ((cutR a b c d 0 0 W H).x0) ((cutR a b c d 0 0 W H).y0) ((cutR a b c d 0 0 W H).x1) ((cutR a b c d 0 0 W H).y1) s).y1) X Y).y0), .int .i64 ((movR ((sclR ((cutR a b c d 0 0 W H).x0) ((cutR a b c d 0 0 W H).y0) ((cutR a b c d 0 0 W H).x1) ((cutR a b c d 0 0 W H).y1) s).x0) ((sclR ((cutR a b c d 0 0 W H).x0) ((cutR a b c d 0 0 W H).y0) ((cutR a b c d 0 0 W H).x1) ((cutR a b c d 0 0 W H).y1) s).y0) ((sclR ((cutR a b c d 0 0 W H).x0) ((cutR a b c d 0 0 W H).y0) ((cutR a b c d 0 0 W H).x1) ((cutR a b c d 0 0 W H).y1) s).x1) ((sclR ((cutR a b c d 0 0 W H).x0) ((cutR a b c d 0 0 W H).y0) ((cutR a b c d 0 0 W H).x1) ((cutR a b c d 0 0 W H).y1) s).y1) X Y).x1), .int .i64 ((movR ((sclR ((cutR a b c d 0 0 W H).x0) ((cutR a b c d 0 0 W H).y0) ((cutR a b c d 0 0 W H).x1) ((cutR a b c d 0 0 W H).y1) s).x0) ((sclR ((cutR a b c d 0 0 W H).x0) ((cutR a b c d 0 0 W H).y0) ((cutR a b c d 0 0 W H).x1) ((cutR a b c d 0 0 W H).y1) s).y0) ((sclR ((cutR a b c d 0 0 W H).x0) ((cutR a b c d 0 0 W H).y0) ((cutR a b c d 0 0 W H).x1) ((cutR a b c d 0 0 W H).y1) s).x1) ((sclR ((cutR a b c d 0 0 W H).x0) ((cutR a b c d 0 0 W H).y0) ((cutR a b c d 0 0 W H).x1) ((cutR a b c d 0 0 W H).y1) s).y1) X Y).y1)] 28 true, .ro m [.int .i64 W, .int .i64 H, .slice (some ⟨r, 0, none⟩) n cap] 99, .gen (rdE (some ⟨r, 0, none⟩) r 0 n 1 (ivals .u32 px))] rfl rfl (by kernel_rfl) (by kernel_rfl) ?_
  refine cont_done ?_
  refine then_normal ?_
  refine cont_seq ?_
  refine cont_region 5 rfl ?_
  refine batch0 [1, 0, 0, 0, 0] 5 0 [(4, .pointer (some ⟨b3, 0, none⟩)), (5, .bool ((movE ((sclR ((cutR a b c d 0 0 W H).x0) ((cutR a b c d 0 0 W H).y0) ((cutR a b c d 0 0 W H).x1) ((cutR a b c d 0 0 W H).y1) s).x0) ((sclR ((cutR a b c d 0 0 W H).x0) ((cutR a b c d 0 0 W H).y0) ((cutR a b c d 0 0 W H).x1) ((cutR a b c d 0 0 W H).y1) s).y0) ((sclR ((cutR a b c d 0 0 W H).x0) ((cutR a b c d 0 0 W H).y0) ((cutR a b c d 0 0 W H).x1) ((cutR a b c d 0 0 W H).y1) s).x1) ((sclR ((cutR a b c d 0 0 W H).x0) ((cutR a b c d 0 0 W H).y0) ((cutR a b c d 0 0 W H).x1) ((cutR a b c d 0 0 W H).y1) s).y1) X Y) == 0))] [.cells b3 [.int .i64 ((movR ((sclR ((cutR a b c d 0 0 W H).x0) ((cutR a b c d 0 0 W H).y0) ((cutR a b c d 0 0 W H).x1) ((cutR a b c d 0 0 W H).y1) s).x0) ((sclR ((cutR a b c d 0 0 W H).x0) ((cutR a b c d 0 0 W H).y0) ((cutR a b c d 0 0 W H).x1) ((cutR a b c d 0 0 W H).y1) s).y0) ((sclR ((cutR a b c d 0 0 W H).x0) ((cutR a b c d 0 0 W H).y0) ((cutR a b c d 0 0 W H).x1) ((cutR a b c d 0 0 W H).y1) s).x1) ((sclR ((cutR a b c d 0 0 W H).x0) ((cutR a b c d 0 0 W H).y0) ((cutR a b c d 0 0 W H).x1) ((cutR a b c d 0 0 W H).y1) s).y1) X Y).x0), .int .i64 ((movR ((sclR ((cutR a b c d 0 0 W H).x0) ((cutR a b c d 0 0 W H).y0) ((cutR a b c d 0 0 W H).x1) ((cutR a b c d 0 0 W H).y1) s).x0) ((sclR ((cutR a b c d 0 0 W H).x0) ((cutR a b c d 0 0 W H).y0) ((cutR a b c d 0 0 W H).x1) ((cutR a b c d 0 0 W H).y1) s).y0) ((sclR ((cutR a b c d 0 0 W H).x0) ((cutR a b c d 0 0 W H).y0) ((cutR a b c d 0 0 W H).x1) ((cutR a b c d 0 0 W H).y1) s).x1) ((sclR ((cutR a b c d 0 0 W H).x0) ((cutR a b c d 0 0 W H).y0) ((cutR a b c d 0 0 W H).x1) ((cutR a b c d 0 0 W H).y1) s).y1) X Y).y0), .int .i64 ((movR ((sclR ((cutR a b c d 0 0 W H).x0) ((cutR a b c d 0 0 W H).y0) ((cutR a b c d 0 0 W H).x1) ((cutR a b c d 0 0 W H).y1) s).x0) ((sclR ((cutR a b c d 0 0 W H).x0) ((cutR a b c d 0 0 W H).y0) ((cutR a b c d 0 0 W H).x1) ((cutR a b c d 0 0 W H).y1) s).y0) ((sclR ((cutR a b c d 0 0 W H).x0) ((cutR a b c d 0 0 W H).y0) ((cutR a b c d 0 0 W H).x1) ((cutR a b c d 0 0 W H).y1) s).x1) ((sclR ((cutR a b c d 0 0 W H).x0) ((cutR a b c d 0 0 W H).y0) ((cutR a b c d 0 0 W H).x1) ((cutR a b c d 0 0 W H).y1) s).y1) X Y).x1), .int .i64 ((movR ((sclR ((cutR a b c d 0 0 W H).x0) ((cutR a b c d 0 0 W H).y0) ((cutR a b c d 0 0 W H).x1) ((cutR a b c d 0 0 W H).y1) s).x0) ((sclR ((cutR a b c d 0 0 W H).x0) ((cutR a b c d 0 0 W H).y0) ((cutR a b c d 0 0 W H).x1) ((cutR a b c d 0 0 W H).y1) s).y0) ((sclR ((cutR a b c d 0 0 W H).x0) ((cutR a b c d 0 0 W H).y0) ((cutR a b c d 0 0 W H).x1) ((cutR a b c d 0 0 W H).y1) s).x1) ((sclR ((cutR a b c d 0 0 W H).x0) ((cutR a b c d 0 0 W H).y0) ((cutR a b c d 0 0 W H).x1) ((cutR a b c d 0 0 W H).y1) s).y1) X Y).y1)] 28 true, .cells b2 [.int .i64 ((movR ((sclR ((cutR a b c d 0 0 W H).x0) ((cutR a b c d 0 0 W H).y0) ((cutR a b c d 0 0 W H).x1) ((cutR a b c d 0 0 W H).y1) s).x0) ((sclR ((cutR a b c d 0 0 W H).x0) ((cutR a b c d 0 0 W H).y0) ((cutR a b c d 0 0 W H).x1) ((cutR a b c d 0 0 W H).y1) s).y0) ((sclR ((cutR a b c d 0 0 W H).x0) ((cutR a b c d 0 0 W H).y0) ((cutR a b c d 0 0 W H).x1) ((cutR a b c d 0 0 W H).y1) s).x1) ((sclR ((cutR a b c d 0 0 W H).x0) ((cutR a b c d 0 0 W H).y0) ((cutR a b c d 0 0 W H).x1) ((cutR a b c d 0 0 W H).y1) s).y1) X Y).x0), .int .i64 ((movR ((sclR ((cutR a b c d 0 0 W H).x0) ((cutR a b c d 0 0 W H).y0) ((cutR a b c d 0 0 W H).x1) ((cutR a b c d 0 0 W H).y1) s).x0) ((sclR ((cutR a b c d 0 0 W H).x0) ((cutR a b c d 0 0 W H).y0) ((cutR a b c d 0 0 W H).x1) ((cutR a b c d 0 0 W H).y1) s).y0) ((sclR ((cutR a b c d 0 0 W H).x0) ((cutR a b c d 0 0 W H).y0) ((cutR a b c d 0 0 W H).x1) ((cutR a b c d 0 0 W H).y1) s).x1) ((sclR ((cutR a b c d 0 0 W H).x0) ((cutR a b c d 0 0 W H).y0) ((cutR a b c d 0 0 W H).x1) ((cutR a b c d 0 0 W H).y1) s).y1) X Y).y0), .int .i64 ((movR ((sclR ((cutR a b c d 0 0 W H).x0) ((cutR a b c d 0 0 W H).y0) ((cutR a b c d 0 0 W H).x1) ((cutR a b c d 0 0 W H).y1) s).x0) ((sclR ((cutR a b c d 0 0 W H).x0) ((cutR a b c d 0 0 W H).y0) ((cutR a b c d 0 0 W H).x1) ((cutR a b c d 0 0 W H).y1) s).y0) ((sclR ((cutR a b c d 0 0 W H).x0) ((cutR a b c d 0 0 W H).y0) ((cutR a b c d 0 0 W H).x1) ((cutR a b c d 0 0 W H).y1) s).x1) ((sclR ((cutR a b c d 0 0 W H).x0) ((cutR a b c d 0 0 W H).y0) ((cutR a b c d 0 0 W H).x1) ((cutR a b c d 0 0 W H).y1) s).y1) X Y).x1), .int .i64 ((movR ((sclR ((cutR a b c d 0 0 W H).x0) ((cutR a b c d 0 0 W H).y0) ((cutR a b c d 0 0 W H).x1) ((cutR a b c d 0 0 W H).y1) s).x0) ((sclR ((cutR a b c d 0 0 W H).x0) ((cutR a b c d 0 0 W H).y0) ((cutR a b c d 0 0 W H).x1) ((cutR a b c d 0 0 W H).y1) s).y0) ((sclR ((cutR a b c d 0 0 W H).x0) ((cutR a b c d 0 0 W H).y0) ((cutR a b c d 0 0 W H).x1) ((cutR a b c d 0 0 W H).y1) s).x1) ((sclR ((cutR a b c d 0 0 W H).x0) ((cutR a b c d 0 0 W H).y0) ((cutR a b c d 0 0 W H).x1) ((cutR a b c d 0 0 W H).y1) s).y1) X Y).y1)] 28 true, .ro m [.int .i64 W, .int .i64 H, .slice (some ⟨r, 0, none⟩) n cap] 99, .gen (rdE (some ⟨r, 0, none⟩) r 0 n 1 (ivals .u32 px))] rfl rfl (by kernel_rfl) (by kernel_rfl) ?_
  refine cont_forget 1 rfl ?_
  refine cont_done ?_
  refine then_normal ?_
  refine cont_ret ?_
  refine ret_two (.inl rfl) rfl 0 0 (.agg #[.int .i64 ((movR ((sclR ((cutR a b c d 0 0 W H).x0) ((cutR a b c d 0 0 W H).y0) ((cutR a b c d 0 0 W H).x1) ((cutR a b c d 0 0 W H).y1) s).x0) ((sclR ((cutR a b c d 0 0 W H).x0) ((cutR a b c d 0 0 W H).y0) ((cutR a b c d 0 0 W H).x1) ((cutR a b c d 0 0 W H).y1) s).y0) ((sclR ((cutR a b c d 0 0 W H).x0) ((cutR a b c d 0 0 W H).y0) ((cutR a b c d 0 0 W H).x1) ((cutR a b c d 0 0 W H).y1) s).x1) ((sclR ((cutR a b c d 0 0 W H).x0) ((cutR a b c d 0 0 W H).y0) ((cutR a b c d 0 0 W H).x1) ((cutR a b c d 0 0 W H).y1) s).y1) X Y).x0), .int .i64 ((movR ((sclR ((cutR a b c d 0 0 W H).x0) ((cutR a b c d 0 0 W H).y0) ((cutR a b c d 0 0 W H).x1) ((cutR a b c d 0 0 W H).y1) s).x0) ((sclR ((cutR a b c d 0 0 W H).x0) ((cutR a b c d 0 0 W H).y0) ((cutR a b c d 0 0 W H).x1) ((cutR a b c d 0 0 W H).y1) s).y0) ((sclR ((cutR a b c d 0 0 W H).x0) ((cutR a b c d 0 0 W H).y0) ((cutR a b c d 0 0 W H).x1) ((cutR a b c d 0 0 W H).y1) s).x1) ((sclR ((cutR a b c d 0 0 W H).x0) ((cutR a b c d 0 0 W H).y0) ((cutR a b c d 0 0 W H).x1) ((cutR a b c d 0 0 W H).y1) s).y1) X Y).y0), .int .i64 ((movR ((sclR ((cutR a b c d 0 0 W H).x0) ((cutR a b c d 0 0 W H).y0) ((cutR a b c d 0 0 W H).x1) ((cutR a b c d 0 0 W H).y1) s).x0) ((sclR ((cutR a b c d 0 0 W H).x0) ((cutR a b c d 0 0 W H).y0) ((cutR a b c d 0 0 W H).x1) ((cutR a b c d 0 0 W H).y1) s).y0) ((sclR ((cutR a b c d 0 0 W H).x0) ((cutR a b c d 0 0 W H).y0) ((cutR a b c d 0 0 W H).x1) ((cutR a b c d 0 0 W H).y1) s).x1) ((sclR ((cutR a b c d 0 0 W H).x0) ((cutR a b c d 0 0 W H).y0) ((cutR a b c d 0 0 W H).x1) ((cutR a b c d 0 0 W H).y1) s).y1) X Y).x1), .int .i64 ((movR ((sclR ((cutR a b c d 0 0 W H).x0) ((cutR a b c d 0 0 W H).y0) ((cutR a b c d 0 0 W H).x1) ((cutR a b c d 0 0 W H).y1) s).x0) ((sclR ((cutR a b c d 0 0 W H).x0) ((cutR a b c d 0 0 W H).y0) ((cutR a b c d 0 0 W H).x1) ((cutR a b c d 0 0 W H).y1) s).y0) ((sclR ((cutR a b c d 0 0 W H).x0) ((cutR a b c d 0 0 W H).y0) ((cutR a b c d 0 0 W H).x1) ((cutR a b c d 0 0 W H).y1) s).x1) ((sclR ((cutR a b c d 0 0 W H).x0) ((cutR a b c d 0 0 W H).y0) ((cutR a b c d 0 0 W H).x1) ((cutR a b c d 0 0 W H).y1) s).y1) X Y).y1)]) (.bool ((movE ((sclR ((cutR a b c d 0 0 W H).x0) ((cutR a b c d 0 0 W H).y0) ((cutR a b c d 0 0 W H).x1) ((cutR a b c d 0 0 W H).y1) s).x0) ((sclR ((cutR a b c d 0 0 W H).x0) ((cutR a b c d 0 0 W H).y0) ((cutR a b c d 0 0 W H).x1) ((cutR a b c d 0 0 W H).y1) s).y0) ((sclR ((cutR a b c d 0 0 W H).x0) ((cutR a b c d 0 0 W H).y0) ((cutR a b c d 0 0 W H).x1) ((cutR a b c d 0 0 W H).y1) s).x1) ((sclR ((cutR a b c d 0 0 W H).x0) ((cutR a b c d 0 0 W H).y0) ((cutR a b c d 0 0 W H).x1) ((cutR a b c d 0 0 W H).y1) s).y1) X Y) == 0)) (by kernel_rfl) (by kernel_rfl) (by kernel_rfl) (by kernel_rfl) (fun w hT => ?_)
  exact ⟨by simp [shwR, shwB, *], hT.post rfl⟩

theorem layBox (m : Nat) (W H : Int) (r n cap : Nat) (px : List Int) (X Y s al ca cb cc cd : Int) (w : World) (hI : ImgR 99 w m W H r n cap px) (hok : ImgOk W H n px) :
    Calls Try.prog 14 #[.agg #[.pointer (some ⟨m, 0, none⟩), .int .i64 X, .int .i64 Y, .int .i64 s, .int .i64 al, .int .i64 ca, .int .i64 cb, .int .i64 cc, .int .i64 cd]] w fun e w' => e = .returned (.agg #[.int .i64 ((shwR W H X Y s ca cb cc cd).x0), .int .i64 ((shwR W H X Y s ca cb cc cd).y0), .int .i64 ((shwR W H X Y s ca cb cc cd).x1), .int .i64 ((shwR W H X Y s ca cb cc cd).y1)]) ∧ Below w.heap.size w w' := by
  have hcap := hI.cap
  refine enter 13 [(0, .agg #[.pointer (some ⟨m, 0, none⟩), .int .i64 X, .int .i64 Y, .int .i64 s, .int .i64 al, .int .i64 ca, .int .i64 cb, .int .i64 cc, .int .i64 cd])] [.ro m [.int .i64 W, .int .i64 H, .slice (some ⟨r, 0, none⟩) n cap] 99, .gen (rdE (some ⟨r, 0, none⟩) r 0 n 1 (ivals .u32 px))] Try.func14 rfl Try.ntmps14 rfl (by kernel_rfl) hI.tab ?_
  refine cont_seq ?_
  refine cont_region 2 rfl ?_
  refine batch2 [0, 0] 2 0 (fun b1 b2 => [(1, .pointer (some ⟨b1, 0, none⟩)), (2, .pointer (some ⟨b2, 0, none⟩))]) (fun b1 b2 => [.cells b2 [.int .i64 0, .int .i64 0, .int .i64 0, .int .i64 0] 28 true, .cells b1 [.pointer (some ⟨m, 0, none⟩), .int .i64 X, .int .i64 Y, .int .i64 s, .int .i64 al, .int .i64 ca, .int .i64 cb, .int .i64 cc, .int .i64 cd] 37 true, .ro m [.int .i64 W, .int .i64 H, .slice (some ⟨r, 0, none⟩) n cap] 99, .gen (rdE (some ⟨r, 0, none⟩) r 0 n 1 (ivals .u32 px))]) rfl rfl [1, 2] (fun _ _ => rfl) (fun b1 b2 => by kernel_rfl) (fun b1 b2 => by kernel_rfl) (fun b1 b2 => ?_)
  refine cont_done ?_
  refine then_normal ?_
  refine cont_seq ?_
  refine cont_region 10 rfl ?_
  refine bS [1, 0, 1] 3 7 [(2, .pointer (some ⟨b2, 0, none⟩)), (6, .agg #[.pointer (some ⟨m, 0, none⟩), .int .i64 X, .int .i64 Y, .int .i64 s, .int .i64 al, .int .i64 ca, .int .i64 cb, .int .i64 cc, .int .i64 cd]), (8, .agg #[.int .i64 ca, .int .i64 cb, .int .i64 cc, .int .i64 cd])] ?_
  refine cont_forget 1 rfl ?_
  refine pl_step 4 6 rfl rfl ?_
  refine call_pure (d := 9) (.tuple #[.agg #[.int .i64 ((shwR W H X Y s ca cb cc cd).x0), .int .i64 ((shwR W H X Y s ca cb cc cd).y0), .int .i64 ((shwR W H X Y s ca cb cc cd).x1), .int .i64 ((shwR W H X Y s ca cb cc cd).y1)], .bool (shwB W H X Y s ca cb cc cd)]) (by kernel_rfl) (fun w hT => layShown m W H r n cap px X Y s al ca cb cc cd ca cb cc cd w ⟨hT.ok 1 _ rfl, hT.ok 2 _ rfl, by omega⟩ hok) ?_
  refine batch1 [0, 0, 0, 0, 0, 0] 10 0 (fun b3 => [(2, .pointer (some ⟨b2, 0, none⟩)), (3, .pointer (some ⟨b3, 0, none⟩))]) (fun b3 => [.cells b3 [.int .i64 ((shwR W H X Y s ca cb cc cd).x0), .int .i64 ((shwR W H X Y s ca cb cc cd).y0), .int .i64 ((shwR W H X Y s ca cb cc cd).x1), .int .i64 ((shwR W H X Y s ca cb cc cd).y1)] 28 true, .cells b2 [.int .i64 0, .int .i64 0, .int .i64 0, .int .i64 0] 28 true, .ro m [.int .i64 W, .int .i64 H, .slice (some ⟨r, 0, none⟩) n cap] 99, .gen (rdE (some ⟨r, 0, none⟩) r 0 n 1 (ivals .u32 px))]) rfl rfl [2, 3] (fun _ => rfl) (fun b3 => by kernel_rfl) (fun b3 => by kernel_rfl) (fun b3 => ?_)
  refine cont_done ?_
  refine then_normal ?_
  refine cont_seq ?_
  refine cont_region 2 rfl ?_
  refine batch0 [0, 1] 2 0 [(2, .pointer (some ⟨b2, 0, none⟩))] [.cells b3 [.int .i64 ((shwR W H X Y s ca cb cc cd).x0), .int .i64 ((shwR W H X Y s ca cb cc cd).y0), .int .i64 ((shwR W H X Y s ca cb cc cd).x1), .int .i64 ((shwR W H X Y s ca cb cc cd).y1)] 28 true, .cells b2 [.int .i64 ((shwR W H X Y s ca cb cc cd).x0), .int .i64 ((shwR W H X Y s ca cb cc cd).y0), .int .i64 ((shwR W H X Y s ca cb cc cd).x1), .int .i64 ((shwR W H X Y s ca cb cc cd).y1)] 28 true, .ro m [.int .i64 W, .int .i64 H, .slice (some ⟨r, 0, none⟩) n cap] 99, .gen (rdE (some ⟨r, 0, none⟩) r 0 n 1 (ivals .u32 px))] rfl rfl (by kernel_rfl) (by kernel_rfl) ?_
  refine cont_forget 0 rfl ?_
  refine cont_done ?_
  refine then_normal ?_
  refine cont_ret ?_
  refine ret_one (.inl rfl) rfl 0 (.agg #[.int .i64 ((shwR W H X Y s ca cb cc cd).x0), .int .i64 ((shwR W H X Y s ca cb cc cd).y0), .int .i64 ((shwR W H X Y s ca cb cc cd).x1), .int .i64 ((shwR W H X Y s ca cb cc cd).y1)]) (by kernel_rfl) (by kernel_rfl) (fun w hT => ?_)
  exact ⟨rfl, hT.post rfl⟩

theorem refEmpty (a b c d : Int) (w : World) :
    Calls Try.prog 44 #[.agg #[.int .i64 a, .int .i64 b, .int .i64 c, .int .i64 d]] w fun e w' => e = .returned (.bool (emptyB a b c d)) ∧ Below w.heap.size w w' := by
  refine enter 15 [(0, .agg #[.int .i64 a, .int .i64 b, .int .i64 c, .int .i64 d])] [] Try.func44 rfl Try.ntmps44 rfl (by kernel_rfl) (Tab.start w) ?_
  refine cont_seq ?_
  refine cont_region 2 rfl ?_
  refine batch1 [0, 0] 2 0 (fun b1 => [(1, .pointer (some ⟨b1, 0, none⟩))]) (fun b1 => [.cells b1 [.int .i64 a, .int .i64 b, .int .i64 c, .int .i64 d] 28 true]) rfl rfl [1] (fun _ => rfl) (fun b1 => by kernel_rfl) (fun b1 => by kernel_rfl) (fun b1 => ?_)
  refine cont_done ?_
  refine then_normal ?_
  refine cont_seq ?_
  refine cont_region 13 rfl ?_
  refine bS [0, 0, 0, 0, 0, 0] 6 7 [(1, .pointer (some ⟨b1, 0, none⟩)), (8, .bool (decide (a ≥ c)))] ?_
  refine cont_split 8 (decide (a ≥ c)) rfl (fun c2_ => ?_) (fun c2_ => ?_)
  ·
    replace c2_ := of_decide_eq_true c2_
    refine bS [0, 0, 0, 0, 0, 0, 0] 13 0 [(2, .bool true)] ?_
    refine cont_forget 0 rfl ?_
    refine cont_done ?_
    refine then_normal ?_
    refine cont_ret ?_
    refine ret_one (.inl rfl) rfl 0 (.bool true) (by kernel_rfl) (by kernel_rfl) (fun w hT => ?_)
    exact ⟨ret_bool (by simp [emptyB, *] <;> omega), hT.post rfl⟩
  replace c2_ := of_decide_eq_false c2_
  refine bS [0, 0, 0, 0, 0, 0, 0] 13 0 [(2, .bool (decide (b ≥ d)))] ?_
  refine cont_forget 0 rfl ?_
  refine cont_done ?_
  refine then_normal ?_
  refine cont_ret ?_
  refine ret_one (.inl rfl) rfl 0 (.bool (decide (b ≥ d))) (by kernel_rfl) (by kernel_rfl) (fun w hT => ?_)
  exact ⟨ret_bool (by simp [emptyB, *] <;> omega), hT.post rfl⟩

theorem layT (W H : Int) (r n cap : Nat) (px : List Int) (X Y s al ca cb cc cd : Int) (w : World) (hT0 : Tab w w [.gen (rdE (some ⟨r, 0, none⟩) r 0 n 1 (ivals .u32 px))]) (hok : ImgOk W H n px) (hmay : AllMay px) :
    Calls Try.prog 12 #[.agg #[.bool true, .int .i64 W, .int .i64 H, .slice (some ⟨r, 0, none⟩) n cap, .int .i64 X, .int .i64 Y, .int .i64 s, .int .i64 al, .int .i64 ca, .int .i64 cb, .int .i64 cc, .int .i64 cd]] w fun e w' => ∃ b q : Nat, e = .returned (.agg #[.pointer (some ⟨b, 0, none⟩), .int .i64 X, .int .i64 Y, .int .i64 s, .int .i64 al, .int .i64 ca, .int .i64 cb, .int .i64 cc, .int .i64 cd]) ∧ NewImg 99 45 w w' b W H q n n px := by
  refine enter 20 [(0, .agg #[.bool true, .int .i64 W, .int .i64 H, .slice (some ⟨r, 0, none⟩) n cap, .int .i64 X, .int .i64 Y, .int .i64 s, .int .i64 al, .int .i64 ca, .int .i64 cb, .int .i64 cc, .int .i64 cd])] [.gen (rdE (some ⟨r, 0, none⟩) r 0 n 1 (ivals .u32 px))] Try.func12 rfl Try.ntmps12 rfl (by kernel_rfl) hT0 ?_
  refine cont_seq ?_
  refine cont_region 2 rfl ?_
  refine batch2 [0, 0] 2 0 (fun b1 b2 => [(1, .pointer (some ⟨b1, 0, none⟩)), (2, .pointer (some ⟨b2, 0, none⟩))]) (fun b1 b2 => [.cells b2 [.pointer none, .int .i64 0, .int .i64 0, .int .i64 0, .int .i64 0, .int .i64 0, .int .i64 0, .int .i64 0, .int .i64 0] 37 true, .cells b1 [.bool true, .int .i64 W, .int .i64 H, .slice (some ⟨r, 0, none⟩) n cap, .int .i64 X, .int .i64 Y, .int .i64 s, .int .i64 al, .int .i64 ca, .int .i64 cb, .int .i64 cc, .int .i64 cd] 30 true, .gen (rdE (some ⟨r, 0, none⟩) r 0 n 1 (ivals .u32 px))]) rfl rfl [1, 2] (fun _ _ => rfl) (fun b1 b2 => by kernel_rfl) (fun b1 b2 => by kernel_rfl) (fun b1 b2 => ?_)
  refine cont_done ?_
  refine then_normal ?_
  refine cont_seq ?_
  refine cont_region 11 rfl ?_
  refine batch1 [0, 1, 0, 1, 0, 1, 0, 1, 0, 0, 0] 11 0 (fun b3 => [(1, .pointer (some ⟨b1, 0, none⟩)), (2, .pointer (some ⟨b2, 0, none⟩)), (3, .pointer (some ⟨b3, 0, none⟩))]) (fun b3 => [.cells b3 [.pointer none, .int .i64 X, .int .i64 Y, .int .i64 s, .int .i64 al, .int .i64 ca, .int .i64 cb, .int .i64 cc, .int .i64 cd] 37 true, .cells b2 [.pointer none, .int .i64 0, .int .i64 0, .int .i64 0, .int .i64 0, .int .i64 0, .int .i64 0, .int .i64 0, .int .i64 0] 37 true, .cells b1 [.bool true, .int .i64 W, .int .i64 H, .slice (some ⟨r, 0, none⟩) n cap, .int .i64 X, .int .i64 Y, .int .i64 s, .int .i64 al, .int .i64 ca, .int .i64 cb, .int .i64 cc, .int .i64 cd] 30 true, .gen (rdE (some ⟨r, 0, none⟩) r 0 n 1 (ivals .u32 px))]) rfl rfl [1, 2, 3] (fun _ => rfl) (fun b3 => by kernel_rfl) (fun b3 => by kernel_rfl) (fun b3 => ?_)
  refine cont_done ?_
  refine then_normal ?_
  refine cont_seq ?_
  refine cont_seq ?_
  refine cont_region 2 rfl ?_
  refine bS [0, 2] 2 0 [(1, .pointer (some ⟨b1, 0, none⟩)), (2, .pointer (some ⟨b2, 0, none⟩)), (3, .pointer (some ⟨b3, 0, none⟩)), (14, .bool true)] ?_
  refine cont_done ?_
  refine then_normal ?_
  refine cont_true rfl ?_
  refine cont_region 5 rfl ?_
  refine bS [0, 2] 2 3 [(2, .pointer (some ⟨b2, 0, none⟩)), (3, .pointer (some ⟨b3, 0, none⟩)), (16, .agg #[.int .i64 W, .int .i64 H, .slice (some ⟨r, 0, none⟩) n cap])] ?_
  refine cont_forget 2 rfl ?_
  refine pl_step 3 2 rfl rfl ?_
  refine call_gen (d := 17) (α := Nat × Nat) (fun x_ => .pointer (some ⟨x_.1, 0, none⟩)) (fun x_ => [.cells x_.1 [.int .i64 W, .int .i64 H, .slice (some ⟨x_.2, 0, none⟩) n n] 99 true, .gen (rowE (some ⟨x_.2, 0, none⟩) x_.2 n n 45 1 (ivals .u32 px) true), .cells b3 [.pointer none, .int .i64 X, .int .i64 Y, .int .i64 s, .int .i64 al, .int .i64 ca, .int .i64 cb, .int .i64 cc, .int .i64 cd] 37 true, .cells b2 [.pointer none, .int .i64 0, .int .i64 0, .int .i64 0, .int .i64 0, .int .i64 0, .int .i64 0, .int .i64 0, .int .i64 0] 37 true, .gen (rdE (some ⟨r, 0, none⟩) r 0 n 1 (ivals .u32 px))]) (fun _ => True) (by kernel_rfl) (fun w hT => (bld W H r n cap px w (hT.view (.cons (i := 2) rfl Vw.rd .nil) (by decide)) hok hmay).mono fun e w' ⟨b_, q_, he_, hi_⟩ => ⟨(b_, q_), he_, trivial, hT.addImg hi_⟩) ?_
  rintro ⟨bl4, bq4⟩ -
  refine cont_norm [(2, .pointer (some ⟨b2, 0, none⟩)), (3, .pointer (some ⟨b3, 0, none⟩)), (16, .agg #[.int .i64 W, .int .i64 H, .slice (some ⟨r, 0, none⟩) n cap]), (17, .pointer (some ⟨bl4, 0, none⟩))] [.cells bl4 [.int .i64 W, .int .i64 H, .slice (some ⟨bq4, 0, none⟩) n n] 99 true, .gen (rowE (some ⟨bq4, 0, none⟩) bq4 n n 45 1 (ivals .u32 px) true), .cells b3 [.pointer none, .int .i64 X, .int .i64 Y, .int .i64 s, .int .i64 al, .int .i64 ca, .int .i64 cb, .int .i64 cc, .int .i64 cd] 37 true, .cells b2 [.pointer none, .int .i64 0, .int .i64 0, .int .i64 0, .int .i64 0, .int .i64 0, .int .i64 0, .int .i64 0, .int .i64 0] 37 true, .gen (rdE (some ⟨r, 0, none⟩) r 0 n 1 (ivals .u32 px))] (by kernel_rfl) rfl ?_
  refine batch0 [0, 2] 5 0 [(2, .pointer (some ⟨b2, 0, none⟩)), (3, .pointer (some ⟨b3, 0, none⟩))] [.cells bl4 [.int .i64 W, .int .i64 H, .slice (some ⟨bq4, 0, none⟩) n n] 99 true, .gen (rowE (some ⟨bq4, 0, none⟩) bq4 n n 45 1 (ivals .u32 px) true), .cells b3 [.pointer (some ⟨bl4, 0, none⟩), .int .i64 X, .int .i64 Y, .int .i64 s, .int .i64 al, .int .i64 ca, .int .i64 cb, .int .i64 cc, .int .i64 cd] 37 true, .cells b2 [.pointer none, .int .i64 0, .int .i64 0, .int .i64 0, .int .i64 0, .int .i64 0, .int .i64 0, .int .i64 0, .int .i64 0] 37 true, .gen (rdE (some ⟨r, 0, none⟩) r 0 n 1 (ivals .u32 px))] rfl rfl (by kernel_rfl) (by kernel_rfl) ?_
  refine cont_done ?_
  refine then_normal ?_
  refine cont_seq ?_
  refine cont_region 2 rfl ?_
  refine batch0 [2, 3] 2 0 [(2, .pointer (some ⟨b2, 0, none⟩))] [.cells bl4 [.int .i64 W, .int .i64 H, .slice (some ⟨bq4, 0, none⟩) n n] 99 true, .gen (rowE (some ⟨bq4, 0, none⟩) bq4 n n 45 1 (ivals .u32 px) true), .cells b3 [.pointer (some ⟨bl4, 0, none⟩), .int .i64 X, .int .i64 Y, .int .i64 s, .int .i64 al, .int .i64 ca, .int .i64 cb, .int .i64 cc, .int .i64 cd] 37 true, .cells b2 [.pointer (some ⟨bl4, 0, none⟩), .int .i64 X, .int .i64 Y, .int .i64 s, .int .i64 al, .int .i64 ca, .int .i64 cb, .int .i64 cc, .int .i64 cd] 37 true, .gen (rdE (some ⟨r, 0, none⟩) r 0 n 1 (ivals .u32 px))] rfl rfl (by kernel_rfl) (by kernel_rfl) ?_
  refine cont_forget 2 rfl ?_
  refine cont_done ?_
  refine then_normal ?_
  refine cont_ret ?_
  refine ret_one (.inl rfl) rfl 2 (.agg #[.pointer (some ⟨bl4, 0, none⟩), .int .i64 X, .int .i64 Y, .int .i64 s, .int .i64 al, .int .i64 ca, .int .i64 cb, .int .i64 cc, .int .i64 cd]) (by kernel_rfl) (by kernel_rfl) (fun w hT => ?_)
  replace hT := hT.erase 3 (fun e h hw => by cases h; first | rfl | cases hw)
  replace hT := hT.erase 2 (fun e h hw => by cases h; first | rfl | cases hw)
  exact ⟨_, _, rfl, newImg_of_tab hT⟩

end Go.Proofs.Ytgpcgfjfmjehgaa

