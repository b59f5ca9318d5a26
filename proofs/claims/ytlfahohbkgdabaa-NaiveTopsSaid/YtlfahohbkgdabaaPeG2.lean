/- Texts of this proof's own, put together: what each holds is told ahead of it. -/
import Derived.Test.YtlfahohbkgdabaaPeG1
import Derived.Test.YtlfahohbkgdabaaProg
import Derived.Shelf.Sort.Plain
import Derived.Ground.Names2Prog
import Derived.Shelf.Slices.CompactI
import Derived.Shelf.Slices.In.SortNone
/- Contracts of functions of the given program, printed by a program of this project. -/
set_option linter.unusedVariables false
set_option linter.unusedSimpArgs false
namespace Go.Proofs.Ytlfahohbkgdabaa
open Go Go.RowKit
set_option maxRecDepth 100000
set_option maxHeartbeats 8000000

theorem colPart (p q : Int) (w : World) :
    Calls Try.prog 99 #[.int .i64 p, .int .i64 q] w fun e w' => e = .returned (.int .i64 (partI p q)) ∧ Below w.heap.size w w' := by
 have hcm := clip_mul p q
 refine enter 12 [(0, iq p), (1, iq q)] [] Try.func99 rfl Try.ntmps99 rfl (by kernel_rfl) (Tab.start w) ?_
 refine cont_seq ?_
 refine cont_region 1 rfl ?_
 refine bS [0] 1 0 [(0, iq p), (1, iq q)] ?_
 refine cont_done ?_
 refine then_normal ?_
 refine cont_seq ?_
 refine cont_region 8 rfl ?_
 refine bS [0] 1 7 [(1, iq q), (5, iq p)] ?_
 refine pl_step 2 6 rfl rfl ?_
 refine call_pure (d := 6) (iq (clip p)) (by kernel_rfl) (fun w hT => colorCut p w) ?_
 refine bS [0] 3 5 [(6, iq (clip p)), (7, iq q)] ?_
 refine pl_step 4 4 rfl rfl ?_
 refine call_pure (d := 8) (iq (clip q)) (by kernel_rfl) (fun w hT => colorCut q w) ?_
 refine bS [0] 5 3 [(9, iq (IntKind.i64.wrap ((clip p) * (clip q))))] ?_
 refine cont_recast 9 (iq (IntKind.i64.wrap ((clip p) * (clip q)))) (iq ((clip p) * (clip q))) rfl (wrapI (by omega) (by omega)) ?_
 refine bS [0] 6 2 [(10, iq (IntKind.i64.wrap (((clip p) * (clip q)) + 127)))] ?_
 refine cont_recast 10 (iq (IntKind.i64.wrap (((clip p) * (clip q)) + 127))) (iq (((clip p) * (clip q)) + 127)) rfl (wrapI (by omega) (by omega)) ?_
 refine bS [0] 7 1 [(11, iq (IntKind.i64.wrap ((((clip p) * (clip q)) + 127).tdiv 255)))] ?_
 refine cont_recast 11 (iq (IntKind.i64.wrap ((((clip p) * (clip q)) + 127).tdiv 255))) (iq ((((clip p) * (clip q)) + 127) / 255)) rfl (tdivI (by omega) (by omega) (by omega)) ?_
 refine bS [0] 8 0 [(4, iq ((((clip p) * (clip q)) + 127) / 255))] ?_
 refine cont_done ?_
 refine then_normal ?_
 refine cont_ret ?_
 refine ret_one (.inl rfl) rfl 0 (iq ((((clip p) * (clip q)) + 127) / 255)) (by kernel_rfl) (by kernel_rfl) (fun w hT => ?_)
 exact ⟨rfl, hT.post rfl⟩

theorem over0 (kb1 kb2 : Nat) (a r g b s n : Int) (w : World) (hT0 : Tab w w [.ro kb1 [.int .i64 a, .int .i64 r, .int .i64 g, .int .i64 b] 49, .ro kb2 [.int .i64 s] 3]) (h : 0 ≤ a ∧ a ≤ 255) :
    Calls Try.prog 100 #[.int .i64 0, .int .i64 n, .pointer (some ⟨kb1, 0, none⟩), .pointer (some ⟨kb2, 0, none⟩)] w fun e w' => e = .returned (.int .i64 (a + partI n s)) ∧ Below w.heap.size w w' := by
 have hpi := partI_range n s
 refine enter 14 [(0, iq 0), (1, iq n), (2, .pointer (pB kb1)), (3, .pointer (pB kb2))] [.ro kb1 [iq a, iq r, iq g, iq b] 49, .ro kb2 [iq s] 3] Try.func100 rfl Try.ntmps100 rfl (by kernel_rfl) hT0 ?_
 refine cont_seq ?_
 refine cont_region 1 rfl ?_
 refine bS [0] 1 0 [(0, iq 0), (1, iq n), (2, .pointer (pB kb1)), (3, .pointer (pB kb2))] ?_
 refine cont_done ?_
 refine then_normal ?_
 refine cont_seq ?_
 refine drawn_enter 8 [] rfl (by kernel_rfl) ?_
 refine takes 0 [] [(0, 0), (3, 0), (4, 1), (1, 0), (2, 0)] 3 [2, 1, 4, 3, 0] [(9, iq a), (10, iq n), (11, iq s)] (by kernel_rfl) (pok_then pok_body) (by kernel_rfl) rfl rfl (by kernel_rfl) (by kernel_rfl) ?_
 refine drawn_one 5 2 rfl (by kernel_rfl) ?_
 refine call_pure (d := 12) (iq (partI n s)) (by kernel_rfl) (fun w hT => colPart n s w) ?_
 refine drawn_next 0 [] (by kernel_rfl) ?_
 refine takes 0 [] [(6, 0)] 1 [6, 5, 2, 1, 4, 3, 0] [(13, iq (IntKind.i64.wrap (a + (partI n s))))] (by kernel_rfl) (pok_then pok_body) (by kernel_rfl) rfl rfl (by kernel_rfl) (by kernel_rfl) ?_
 refine cont_recast 13 (iq (IntKind.i64.wrap (a + (partI n s)))) (iq (a + (partI n s))) rfl (wrapI (by omega) (by omega)) ?_
 refine takes 0 [] [(7, 0)] 0 [7, 6, 5, 2, 1, 4, 3, 0] [(6, iq (a + (partI n s)))] (by kernel_rfl) (pok_then pok_body) (by kernel_rfl) rfl rfl (by kernel_rfl) (by kernel_rfl) ?_
 refine drawn_done (by kernel_rfl) ?_
 refine then_normal ?_
 refine cont_ret ?_
 refine ret_one (.inl rfl) rfl 0 (iq (a + (partI n s))) (by kernel_rfl) (by kernel_rfl) (fun w hT => ?_)
 exact ⟨rfl, hT.post rfl⟩

theorem over1 (kb1 kb2 : Nat) (a r g b s n : Int) (w : World) (hT0 : Tab w w [.ro kb1 [.int .i64 a, .int .i64 r, .int .i64 g, .int .i64 b] 49, .ro kb2 [.int .i64 s] 3]) (h : 0 ≤ r ∧ r ≤ 255) :
    Calls Try.prog 100 #[.int .i64 1, .int .i64 n, .pointer (some ⟨kb1, 0, none⟩), .pointer (some ⟨kb2, 0, none⟩)] w fun e w' => e = .returned (.int .i64 (r + partI n s)) ∧ Below w.heap.size w w' := by
 have hpi := partI_range n s
 refine enter 14 [(0, iq 1), (1, iq n), (2, .pointer (pB kb1)), (3, .pointer (pB kb2))] [.ro kb1 [iq a, iq r, iq g, iq b] 49, .ro kb2 [iq s] 3] Try.func100 rfl Try.ntmps100 rfl (by kernel_rfl) hT0 ?_
 refine cont_seq ?_
 refine cont_region 1 rfl ?_
 refine bS [0] 1 0 [(0, iq 1), (1, iq n), (2, .pointer (pB kb1)), (3, .pointer (pB kb2))] ?_
 refine cont_done ?_
 refine then_normal ?_
 refine cont_seq ?_
 refine drawn_enter 8 [] rfl (by kernel_rfl) ?_
 refine takes 0 [] [(0, 0), (3, 0), (4, 1), (1, 0), (2, 0)] 3 [2, 1, 4, 3, 0] [(9, iq r), (10, iq n), (11, iq s)] (by kernel_rfl) (pok_then pok_body) (by kernel_rfl) rfl rfl (by kernel_rfl) (by kernel_rfl) ?_
 refine drawn_one 5 2 rfl (by kernel_rfl) ?_
 refine call_pure (d := 12) (iq (partI n s)) (by kernel_rfl) (fun w hT => colPart n s w) ?_
 refine drawn_next 0 [] (by kernel_rfl) ?_
 refine takes 0 [] [(6, 0)] 1 [6, 5, 2, 1, 4, 3, 0] [(13, iq (IntKind.i64.wrap (r + (partI n s))))] (by kernel_rfl) (pok_then pok_body) (by kernel_rfl) rfl rfl (by kernel_rfl) (by kernel_rfl) ?_
 refine cont_recast 13 (iq (IntKind.i64.wrap (r + (partI n s)))) (iq (r + (partI n s))) rfl (wrapI (by omega) (by omega)) ?_
 refine takes 0 [] [(7, 0)] 0 [7, 6, 5, 2, 1, 4, 3, 0] [(6, iq (r + (partI n s)))] (by kernel_rfl) (pok_then pok_body) (by kernel_rfl) rfl rfl (by kernel_rfl) (by kernel_rfl) ?_
 refine drawn_done (by kernel_rfl) ?_
 refine then_normal ?_
 refine cont_ret ?_
 refine ret_one (.inl rfl) rfl 0 (iq (r + (partI n s))) (by kernel_rfl) (by kernel_rfl) (fun w hT => ?_)
 exact ⟨rfl, hT.post rfl⟩

theorem over2 (kb1 kb2 : Nat) (a r g b s n : Int) (w : World) (hT0 : Tab w w [.ro kb1 [.int .i64 a, .int .i64 r, .int .i64 g, .int .i64 b] 49, .ro kb2 [.int .i64 s] 3]) (h : 0 ≤ g ∧ g ≤ 255) :
    Calls Try.prog 100 #[.int .i64 2, .int .i64 n, .pointer (some ⟨kb1, 0, none⟩), .pointer (some ⟨kb2, 0, none⟩)] w fun e w' => e = .returned (.int .i64 (g + partI n s)) ∧ Below w.heap.size w w' := by
 have hpi := partI_range n s
 refine enter 14 [(0, iq 2), (1, iq n), (2, .pointer (pB kb1)), (3, .pointer (pB kb2))] [.ro kb1 [iq a, iq r, iq g, iq b] 49, .ro kb2 [iq s] 3] Try.func100 rfl Try.ntmps100 rfl (by kernel_rfl) hT0 ?_
 refine cont_seq ?_
 refine cont_region 1 rfl ?_
 refine bS [0] 1 0 [(0, iq 2), (1, iq n), (2, .pointer (pB kb1)), (3, .pointer (pB kb2))] ?_
 refine cont_done ?_
 refine then_normal ?_
 refine cont_seq ?_
 refine drawn_enter 8 [] rfl (by kernel_rfl) ?_
 refine takes 0 [] [(0, 0), (3, 0), (4, 1), (1, 0), (2, 0)] 3 [2, 1, 4, 3, 0] [(9, iq g), (10, iq n), (11, iq s)] (by kernel_rfl) (pok_then pok_body) (by kernel_rfl) rfl rfl (by kernel_rfl) (by kernel_rfl) ?_
 refine drawn_one 5 2 rfl (by kernel_rfl) ?_
 refine call_pure (d := 12) (iq (partI n s)) (by kernel_rfl) (fun w hT => colPart n s w) ?_
 refine drawn_next 0 [] (by kernel_rfl) ?_
 refine takes 0 [] [(6, 0)] 1 [6, 5, 2, 1, 4, 3, 0] [(13, iq (IntKind.i64.wrap (g + (partI n s))))] (by kernel_rfl) (pok_then pok_body) (by kernel_rfl) rfl rfl (by kernel_rfl) (by kernel_rfl) ?_
 refine cont_recast 13 (iq (IntKind.i64.wrap (g + (partI n s)))) (iq (g + (partI n s))) rfl (wrapI (by omega) (by omega)) ?_
 refine takes 0 [] [(7, 0)] 0 [7, 6, 5, 2, 1, 4, 3, 0] [(6, iq (g + (partI n s)))] (by kernel_rfl) (pok_then pok_body) (by kernel_rfl) rfl rfl (by kernel_rfl) (by kernel_rfl) ?_
 refine drawn_done (by kernel_rfl) ?_
 refine then_normal ?_
 refine cont_ret ?_
 refine ret_one (.inl rfl) rfl 0 (iq (g + (partI n s))) (by kernel_rfl) (by kernel_rfl) (fun w hT => ?_)
 exact ⟨rfl, hT.post rfl⟩

theorem over3 (kb1 kb2 : Nat) (a r g b s n : Int) (w : World) (hT0 : Tab w w [.ro kb1 [.int .i64 a, .int .i64 r, .int .i64 g, .int .i64 b] 49, .ro kb2 [.int .i64 s] 3]) (h : 0 ≤ b ∧ b ≤ 255) :
    Calls Try.prog 100 #[.int .i64 3, .int .i64 n, .pointer (some ⟨kb1, 0, none⟩), .pointer (some ⟨kb2, 0, none⟩)] w fun e w' => e = .returned (.int .i64 (b + partI n s)) ∧ Below w.heap.size w w' := by
 have hpi := partI_range n s
 refine enter 14 [(0, iq 3), (1, iq n), (2, .pointer (pB kb1)), (3, .pointer (pB kb2))] [.ro kb1 [iq a, iq r, iq g, iq b] 49, .ro kb2 [iq s] 3] Try.func100 rfl Try.ntmps100 rfl (by kernel_rfl) hT0 ?_
 refine cont_seq ?_
 refine cont_region 1 rfl ?_
 refine bS [0] 1 0 [(0, iq 3), (1, iq n), (2, .pointer (pB kb1)), (3, .pointer (pB kb2))] ?_
 refine cont_done ?_
 refine then_normal ?_
 refine cont_seq ?_
 refine drawn_enter 8 [] rfl (by kernel_rfl) ?_
 refine takes 0 [] [(0, 0), (3, 0), (4, 1), (1, 0), (2, 0)] 3 [2, 1, 4, 3, 0] [(9, iq b), (10, iq n), (11, iq s)] (by kernel_rfl) (pok_then pok_body) (by kernel_rfl) rfl rfl (by kernel_rfl) (by kernel_rfl) ?_
 refine drawn_one 5 2 rfl (by kernel_rfl) ?_
 refine call_pure (d := 12) (iq (partI n s)) (by kernel_rfl) (fun w hT => colPart n s w) ?_
 refine drawn_next 0 [] (by kernel_rfl) ?_
 refine takes 0 [] [(6, 0)] 1 [6, 5, 2, 1, 4, 3, 0] [(13, iq (IntKind.i64.wrap (b + (partI n s))))] (by kernel_rfl) (pok_then pok_body) (by kernel_rfl) rfl rfl (by kernel_rfl) (by kernel_rfl) ?_
 refine cont_recast 13 (iq (IntKind.i64.wrap (b + (partI n s)))) (iq (b + (partI n s))) rfl (wrapI (by omega) (by omega)) ?_
 refine takes 0 [] [(7, 0)] 0 [7, 6, 5, 2, 1, 4, 3, 0] [(6, iq (b + (partI n s)))] (by kernel_rfl) (pok_then pok_body) (by kernel_rfl) rfl rfl (by kernel_rfl) (by kernel_rfl) ?_
 refine drawn_done (by kernel_rfl) ?_
 refine then_normal ?_
 refine cont_ret ?_
 refine ret_one (.inl rfl) rfl 0 (iq (b + (partI n s))) (by kernel_rfl) (by kernel_rfl) (fun w hT => ?_)
 exact ⟨rfl, hT.post rfl⟩

theorem eachOver (kb1 kb2 : Nat) (a r g b s c : Int) (w : World) (hT0 : Tab w w [.ro kb1 [.int .i64 a, .int .i64 r, .int .i64 g, .int .i64 b] 49, .ro kb2 [.int .i64 s] 3]) (hr : (0 ≤ a ∧ a ≤ 255) ∧ (0 ≤ r ∧ r ≤ 255) ∧ (0 ≤ g ∧ g ≤ 255) ∧ (0 ≤ b ∧ b ≤ 255)) (h0 : 0 ≤ c) (h1 : c < 4294967296) :
    Calls Try.prog 97 #[.int .u32 c, .func (.func 100) #[] #[.pointer (some ⟨kb1, 0, none⟩), .pointer (some ⟨kb2, 0, none⟩)]] w fun e w' => e = .returned (.int .u32 (mkC (a + partI (pa c) s) (r + partI (pr c) s) (g + partI (pg c) s) (b + partI (pb c) s))) ∧ Below w.heap.size w w' := by
 refine enter 30 [(0, .int .u32 c), (1, .func (.func 100) #[] #[.pointer (pB kb1), .pointer (pB kb2)])] [.ro kb1 [iq a, iq r, iq g, iq b] 49, .ro kb2 [iq s] 3] Try.func97 rfl Try.ntmps97 rfl (by kernel_rfl) hT0 ?_
 refine cont_seq ?_
 refine cont_region 1 rfl ?_
 refine bS [0] 1 0 [(0, .int .u32 c), (1, .func (.func 100) #[] #[.pointer (pB kb1), .pointer (pB kb2)])] ?_
 refine cont_done ?_
 refine then_normal ?_
 refine cont_seq ?_
 refine cont_region 4 rfl ?_
 refine bS [0] 1 3 [(1, .func (.func 100) #[] #[.pointer (pB kb1), .pointer (pB kb2)]), (7, .int .u32 c)] ?_
 refine pl_step 2 2 rfl rfl ?_
 refine call_pure (d := 8) (.agg #[iq (pa c), iq (pr c), iq (pg c), iq (pb c)]) (by kernel_rfl) (fun w hT => colorParts c w (by omega) (by omega)) ?_
 refine batch1 [0, 0] 4 0 (fun b1 => [(1, .func (.func 100) #[] #[.pointer (pB kb1), .pointer (pB kb2)]), (5, .pointer (pB b1))]) (fun b1 => [.cells b1 [iq (pa c), iq (pr c), iq (pg c), iq (pb c)] 49 true, .ro kb1 [iq a, iq r, iq g, iq b] 49, .ro kb2 [iq s] 3]) rfl rfl [1, 5] (fun _ => rfl) (fun b1 => by kernel_rfl) (fun b1 => by kernel_rfl) (fun b1 => ?_)
 refine cont_done ?_
 refine then_normal ?_
 refine cont_seq ?_
 refine cont_seq ?_
 refine cont_region 1 rfl ?_
 refine bS [0] 1 0 [(1, .func (.func 100) #[] #[.pointer (pB kb1), .pointer (pB kb2)]), (5, .pointer (pB b1)), (9, iq 0)] ?_
 refine cont_done ?_
 refine then_normal ?_
 refine cont_block ?_
 refine cont_rounds 5 ?_
 refine cont_round 5 4 rfl ?_
 refine cont_seq ?_
 refine cont_region 1 rfl ?_
 refine bS [0] 1 0 [(1, .func (.func 100) #[] #[.pointer (pB kb1), .pointer (pB kb2)]), (5, .pointer (pB b1)), (9, iq 0), (10, .bool true)] ?_
 refine cont_done ?_
 refine then_normal ?_
 refine cont_seq ?_
 refine cont_true rfl ?_
 refine cont_skip ?_
 refine then_normal ?_
 refine cont_seq ?_
 refine cont_block ?_
 refine cont_seq ?_
 refine cont_region 2 rfl ?_
 refine bS [0, 0] 2 0 [(1, .func (.func 100) #[] #[.pointer (pB kb1), .pointer (pB kb2)]), (5, .pointer (pB b1)), (6, iq 0), (9, iq 0)] ?_
 refine cont_done ?_
 refine then_normal ?_
 refine cont_region 9 rfl ?_
 refine bS [0, 0, 0, 0, 0, 0] 6 3 [(1, .func (.func 100) #[] #[.pointer (pB kb1), .pointer (pB kb2)]), (5, .pointer (pB b1)), (9, iq 0), (12, iq 0), (13, .func (.func 100) #[] #[.pointer (pB kb1), .pointer (pB kb2)]), (14, iq 0), (17, iq (pa c))] ?_
 refine pl_step 7 2 rfl rfl ?_
 refine call_pure (d := 18) (iq (a + partI (pa c) s)) (by kernel_rfl) (fun w hT => over0 kb1 kb2 a r g b s (pa c) w (hT.viewRo (.cons (i := 1) rfl Vw.ro (.cons (i := 2) rfl Vw.ro .nil)) rfl) (by omega)) ?_
 refine batch0 [0, 0] 9 0 [(1, .func (.func 100) #[] #[.pointer (pB kb1), .pointer (pB kb2)]), (5, .pointer (pB b1)), (9, iq 0)] [.cells b1 [iq (a + partI (pa c) s), iq (pr c), iq (pg c), iq (pb c)] 49 true, .ro kb1 [iq a, iq r, iq g, iq b] 49, .ro kb2 [iq s] 3] rfl rfl (by kernel_rfl) (by kernel_rfl) ?_
 refine cont_done ?_
 refine blk_normal ?_
 refine then_normal ?_
 refine cont_region 2 rfl ?_
 refine bS [0, 0] 2 0 [(1, .func (.func 100) #[] #[.pointer (pB kb1), .pointer (pB kb2)]), (5, .pointer (pB b1)), (9, iq 1)] ?_
 refine cont_done ?_
 refine then_normal ?_
 refine cont_round 4 3 rfl ?_
 refine cont_seq ?_
 refine cont_region 1 rfl ?_
 refine bS [0] 1 0 [(1, .func (.func 100) #[] #[.pointer (pB kb1), .pointer (pB kb2)]), (5, .pointer (pB b1)), (9, iq 1), (10, .bool true)] ?_
 refine cont_done ?_
 refine then_normal ?_
 refine cont_seq ?_
 refine cont_true rfl ?_
 refine cont_skip ?_
 refine then_normal ?_
 refine cont_seq ?_
 refine cont_block ?_
 refine cont_seq ?_
 refine cont_region 2 rfl ?_
 refine bS [0, 0] 2 0 [(1, .func (.func 100) #[] #[.pointer (pB kb1), .pointer (pB kb2)]), (5, .pointer (pB b1)), (6, iq 1), (9, iq 1)] ?_
 refine cont_done ?_
 refine then_normal ?_
 refine cont_region 9 rfl ?_
 refine bS [0, 0, 0, 0, 0, 0] 6 3 [(1, .func (.func 100) #[] #[.pointer (pB kb1), .pointer (pB kb2)]), (5, .pointer (pB b1)), (9, iq 1), (12, iq 1), (13, .func (.func 100) #[] #[.pointer (pB kb1), .pointer (pB kb2)]), (14, iq 1), (17, iq (pr c))] ?_
 refine pl_step 7 2 rfl rfl ?_
 refine call_pure (d := 18) (iq (r + partI (pr c) s)) (by kernel_rfl) (fun w hT => over1 kb1 kb2 a r g b s (pr c) w (hT.viewRo (.cons (i := 1) rfl Vw.ro (.cons (i := 2) rfl Vw.ro .nil)) rfl) (by omega)) ?_
 refine batch0 [0, 0] 9 0 [(1, .func (.func 100) #[] #[.pointer (pB kb1), .pointer (pB kb2)]), (5, .pointer (pB b1)), (9, iq 1)] [.cells b1 [iq (a + partI (pa c) s), iq (r + partI (pr c) s), iq (pg c), iq (pb c)] 49 true, .ro kb1 [iq a, iq r, iq g, iq b] 49, .ro kb2 [iq s] 3] rfl rfl (by kernel_rfl) (by kernel_rfl) ?_
 refine cont_done ?_
 refine blk_normal ?_
 refine then_normal ?_
 refine cont_region 2 rfl ?_
 refine bS [0, 0] 2 0 [(1, .func (.func 100) #[] #[.pointer (pB kb1), .pointer (pB kb2)]), (5, .pointer (pB b1)), (9, iq 2)] ?_
 refine cont_done ?_
 refine then_normal ?_
 refine cont_round 3 2 rfl ?_
 refine cont_seq ?_
 refine cont_region 1 rfl ?_
 refine bS [0] 1 0 [(1, .func (.func 100) #[] #[.pointer (pB kb1), .pointer (pB kb2)]), (5, .pointer (pB b1)), (9, iq 2), (10, .bool true)] ?_
 refine cont_done ?_
 refine then_normal ?_
 refine cont_seq ?_
 refine cont_true rfl ?_
 refine cont_skip ?_
 refine then_normal ?_
 refine cont_seq ?_
 refine cont_block ?_
 refine cont_seq ?_
 refine cont_region 2 rfl ?_
 refine bS [0, 0] 2 0 [(1, .func (.func 100) #[] #[.pointer (pB kb1), .pointer (pB kb2)]), (5, .pointer (pB b1)), (6, iq 2), (9, iq 2)] ?_
 refine cont_done ?_
 refine then_normal ?_
 refine cont_region 9 rfl ?_
 refine bS [0, 0, 0, 0, 0, 0] 6 3 [(1, .func (.func 100) #[] #[.pointer (pB kb1), .pointer (pB kb2)]), (5, .pointer (pB b1)), (9, iq 2), (12, iq 2), (13, .func (.func 100) #[] #[.pointer (pB kb1), .pointer (pB kb2)]), (14, iq 2), (17, iq (pg c))] ?_
 refine pl_step 7 2 rfl rfl ?_
 refine call_pure (d := 18) (iq (g + partI (pg c) s)) (by kernel_rfl) (fun w hT => over2 kb1 kb2 a r g b s (pg c) w (hT.viewRo (.cons (i := 1) rfl Vw.ro (.cons (i := 2) rfl Vw.ro .nil)) rfl) (by omega)) ?_
 refine batch0 [0, 0] 9 0 [(1, .func (.func 100) #[] #[.pointer (pB kb1), .pointer (pB kb2)]), (5, .pointer (pB b1)), (9, iq 2)] [.cells b1 [iq (a + partI (pa c) s), iq (r + partI (pr c) s), iq (g + partI (pg c) s), iq (pb c)] 49 true, .ro kb1 [iq a, iq r, iq g, iq b] 49, .ro kb2 [iq s] 3] rfl rfl (by kernel_rfl) (by kernel_rfl) ?_
 refine cont_done ?_
 refine blk_normal ?_
 refine then_normal ?_
 refine cont_region 2 rfl ?_
 refine bS [0, 0] 2 0 [(1, .func (.func 100) #[] #[.pointer (pB kb1), .pointer (pB kb2)]), (5, .pointer (pB b1)), (9, iq 3)] ?_
 refine cont_done ?_
 refine then_normal ?_
 refine cont_round 2 1 rfl ?_
 refine cont_seq ?_
 refine cont_region 1 rfl ?_
 refine bS [0] 1 0 [(1, .func (.func 100) #[] #[.pointer (pB kb1), .pointer (pB kb2)]), (5, .pointer (pB b1)), (9, iq 3), (10, .bool true)] ?_
 refine cont_done ?_
 refine then_normal ?_
 refine cont_seq ?_
 refine cont_true rfl ?_
 refine cont_skip ?_
 refine then_normal ?_
 refine cont_seq ?_
 refine cont_block ?_
 refine cont_seq ?_
 refine cont_region 2 rfl ?_
 refine bS [0, 0] 2 0 [(1, .func (.func 100) #[] #[.pointer (pB kb1), .pointer (pB kb2)]), (5, .pointer (pB b1)), (6, iq 3), (9, iq 3)] ?_
 refine cont_done ?_
 refine then_normal ?_
 refine cont_region 9 rfl ?_
 refine bS [0, 0, 0, 0, 0, 0] 6 3 [(1, .func (.func 100) #[] #[.pointer (pB kb1), .pointer (pB kb2)]), (5, .pointer (pB b1)), (9, iq 3), (12, iq 3), (13, .func (.func 100) #[] #[.pointer (pB kb1), .pointer (pB kb2)]), (14, iq 3), (17, iq (pb c))] ?_
 refine pl_step 7 2 rfl rfl ?_
 refine call_pure (d := 18) (iq (b + partI (pb c) s)) (by kernel_rfl) (fun w hT => over3 kb1 kb2 a r g b s (pb c) w (hT.viewRo (.cons (i := 1) rfl Vw.ro (.cons (i := 2) rfl Vw.ro .nil)) rfl) (by omega)) ?_
 refine batch0 [0, 0] 9 0 [(1, .func (.func 100) #[] #[.pointer (pB kb1), .pointer (pB kb2)]), (5, .pointer (pB b1)), (9, iq 3)] [.cells b1 [iq (a + partI (pa c) s), iq (r + partI (pr c) s), iq (g + partI (pg c) s), iq (b + partI (pb c) s)] 49 true, .ro kb1 [iq a, iq r, iq g, iq b] 49, .ro kb2 [iq s] 3] rfl rfl (by kernel_rfl) (by kernel_rfl) ?_
 refine cont_done ?_
 refine blk_normal ?_
 refine then_normal ?_
 refine cont_region 2 rfl ?_
 refine bS [0, 0] 2 0 [(1, .func (.func 100) #[] #[.pointer (pB kb1), .pointer (pB kb2)]), (5, .pointer (pB b1)), (9, iq 4)] ?_
 refine cont_done ?_
 refine then_normal ?_
 refine cont_round 1 0 rfl ?_
 refine cont_seq ?_
 refine cont_region 1 rfl ?_
 refine bS [0] 1 0 [(1, .func (.func 100) #[] #[.pointer (pB kb1), .pointer (pB kb2)]), (5, .pointer (pB b1)), (9, iq 4), (10, .bool false)] ?_
 refine cont_done ?_
 refine then_normal ?_
 refine cont_seq ?_
 refine cont_false rfl ?_
 refine cont_exit ?_
 refine then_exit ?_
 refine then_exit ?_
 refine blk_exit ?_
 refine then_normal ?_
 refine cont_seq ?_
 refine cont_region 10 rfl ?_
 refine bS [0, 0, 0, 0, 0, 0, 0, 0] 8 2 [(22, iq (a + partI (pa c) s)), (24, iq (r + partI (pr c) s)), (26, iq (g + partI (pg c) s)), (28, iq (b + partI (pb c) s))] ?_
 refine cont_forget 0 rfl ?_
 refine pl_step 9 1 rfl rfl ?_
 refine call_pure (d := 29) (.int .u32 (mkC (a + partI (pa c) s) (r + partI (pr c) s) (g + partI (pg c) s) (b + partI (pb c) s))) (by kernel_rfl) (fun w hT => colorMake (a + partI (pa c) s) (r + partI (pr c) s) (g + partI (pg c) s) (b + partI (pb c) s) w) ?_
 refine bS [0] 10 0 [(4, .int .u32 (mkC (a + partI (pa c) s) (r + partI (pr c) s) (g + partI (pg c) s) (b + partI (pb c) s)))] ?_
 refine cont_done ?_
 refine then_normal ?_
 refine cont_ret ?_
 refine ret_one (.inl rfl) rfl 0 (.int .u32 (mkC (a + partI (pa c) s) (r + partI (pr c) s) (g + partI (pg c) s) (b + partI (pb c) s))) (by kernel_rfl) (by kernel_rfl) (fun w hT => ?_)
 exact ⟨rfl, hT.post rfl⟩

theorem fade1 (kb1 : Nat) (al i n : Int) (w : World) (hT0 : Tab w w [.ro kb1 [.int .i64 al] 3]) :
    Calls Try.prog 98 #[.int .i64 i, .int .i64 n, .pointer (some ⟨kb1, 0, none⟩)] w fun e w' => e = .returned (.int .i64 (partI n al)) ∧ Below w.heap.size w w' := by
 refine enter 9 [(1, iq n), (2, .pointer (pB kb1))] [.ro kb1 [iq al] 3] Try.func98 rfl Try.ntmps98 rfl (by kernel_rfl) hT0 ?_
 refine cont_seq ?_
 refine cont_region 1 rfl ?_
 refine bS [0] 1 0 [(1, iq n), (2, .pointer (pB kb1))] ?_
 refine cont_done ?_
 refine then_normal ?_
 refine cont_seq ?_
 refine cont_region 4 rfl ?_
 refine bS [0, 0] 2 2 [(6, iq n), (7, iq al)] ?_
 refine pl_step 3 1 rfl rfl ?_
 refine call_pure (d := 8) (iq (partI n al)) (by kernel_rfl) (fun w hT => colPart n al w) ?_
 refine bS [0] 4 0 [(5, iq (partI n al))] ?_
 refine cont_done ?_
 refine then_normal ?_
 refine cont_ret ?_
 refine ret_one (.inl rfl) rfl 0 (iq (partI n al)) (by kernel_rfl) (by kernel_rfl) (fun w hT => ?_)
 exact ⟨rfl, hT.post rfl⟩

theorem eachFade (kb1 : Nat) (al c : Int) (w : World) (hT0 : Tab w w [.ro kb1 [.int .i64 al] 3]) (h0 : 0 ≤ c) (h1 : c < 4294967296) :
    Calls Try.prog 97 #[.int .u32 c, .func (.func 98) #[] #[.pointer (some ⟨kb1, 0, none⟩)]] w fun e w' => e = .returned (.int .u32 (fadeC c al)) ∧ Below w.heap.size w w' := by
 refine enter 30 [(0, .int .u32 c), (1, .func (.func 98) #[] #[.pointer (pB kb1)])] [.ro kb1 [iq al] 3] Try.func97 rfl Try.ntmps97 rfl (by kernel_rfl) hT0 ?_
 refine cont_seq ?_
 refine cont_region 1 rfl ?_
 refine bS [0] 1 0 [(0, .int .u32 c), (1, .func (.func 98) #[] #[.pointer (pB kb1)])] ?_
 refine cont_done ?_
 refine then_normal ?_
 refine cont_seq ?_
 refine cont_region 4 rfl ?_
 refine bS [0] 1 3 [(1, .func (.func 98) #[] #[.pointer (pB kb1)]), (7, .int .u32 c)] ?_
 refine pl_step 2 2 rfl rfl ?_
 refine call_pure (d := 8) (.agg #[iq (pa c), iq (pr c), iq (pg c), iq (pb c)]) (by kernel_rfl) (fun w hT => colorParts c w (by omega) (by omega)) ?_
 refine batch1 [0, 0] 4 0 (fun b1 => [(1, .func (.func 98) #[] #[.pointer (pB kb1)]), (5, .pointer (pB b1))]) (fun b1 => [.cells b1 [iq (pa c), iq (pr c), iq (pg c), iq (pb c)] 49 true, .ro kb1 [iq al] 3]) rfl rfl [1, 5] (fun _ => rfl) (fun b1 => by kernel_rfl) (fun b1 => by kernel_rfl) (fun b1 => ?_)
 refine cont_done ?_
 refine then_normal ?_
 refine cont_seq ?_
 refine cont_seq ?_
 refine cont_region 1 rfl ?_
 refine bS [0] 1 0 [(1, .func (.func 98) #[] #[.pointer (pB kb1)]), (5, .pointer (pB b1)), (9, iq 0)] ?_
 refine cont_done ?_
 refine then_normal ?_
 refine cont_block ?_
 refine cont_rounds 5 ?_
 refine cont_round 5 4 rfl ?_
 refine cont_seq ?_
 refine cont_region 1 rfl ?_
 refine bS [0] 1 0 [(1, .func (.func 98) #[] #[.pointer (pB kb1)]), (5, .pointer (pB b1)), (9, iq 0), (10, .bool true)] ?_
 refine cont_done ?_
 refine then_normal ?_
 refine cont_seq ?_
 refine cont_true rfl ?_
 refine cont_skip ?_
 refine then_normal ?_
 refine cont_seq ?_
 refine cont_block ?_
 refine cont_seq ?_
 refine cont_region 2 rfl ?_
 refine bS [0, 0] 2 0 [(1, .func (.func 98) #[] #[.pointer (pB kb1)]), (5, .pointer (pB b1)), (6, iq 0), (9, iq 0)] ?_
 refine cont_done ?_
 refine then_normal ?_
 refine cont_region 9 rfl ?_
 refine bS [0, 0, 0, 0, 0, 0] 6 3 [(1, .func (.func 98) #[] #[.pointer (pB kb1)]), (5, .pointer (pB b1)), (9, iq 0), (12, iq 0), (13, .func (.func 98) #[] #[.pointer (pB kb1)]), (14, iq 0), (17, iq (pa c))] ?_
 refine pl_step 7 2 rfl rfl ?_
 refine call_pure (d := 18) (iq (partI (pa c) al)) (by kernel_rfl) (fun w hT => fade1 kb1 al 0 (pa c) w (hT.viewRo (.cons (i := 1) rfl Vw.ro .nil) rfl)) ?_
 refine batch0 [0, 0] 9 0 [(1, .func (.func 98) #[] #[.pointer (pB kb1)]), (5, .pointer (pB b1)), (9, iq 0)] [.cells b1 [iq (partI (pa c) al), iq (pr c), iq (pg c), iq (pb c)] 49 true, .ro kb1 [iq al] 3] rfl rfl (by kernel_rfl) (by kernel_rfl) ?_
 refine cont_done ?_
 refine blk_normal ?_
 refine then_normal ?_
 refine cont_region 2 rfl ?_
 refine bS [0, 0] 2 0 [(1, .func (.func 98) #[] #[.pointer (pB kb1)]), (5, .pointer (pB b1)), (9, iq 1)] ?_
 refine cont_done ?_
 refine then_normal ?_
 refine cont_round 4 3 rfl ?_
 refine cont_seq ?_
 refine cont_region 1 rfl ?_
 refine bS [0] 1 0 [(1, .func (.func 98) #[] #[.pointer (pB kb1)]), (5, .pointer (pB b1)), (9, iq 1), (10, .bool true)] ?_
 refine cont_done ?_
 refine then_normal ?_
 refine cont_seq ?_
 refine cont_true rfl ?_
 refine cont_skip ?_
 refine then_normal ?_
 refine cont_seq ?_
 refine cont_block ?_
 refine cont_seq ?_
 refine cont_region 2 rfl ?_
 refine bS [0, 0] 2 0 [(1, .func (.func 98) #[] #[.pointer (pB kb1)]), (5, .pointer (pB b1)), (6, iq 1), (9, iq 1)] ?_
 refine cont_done ?_
 refine then_normal ?_
 refine cont_region 9 rfl ?_
 refine bS [0, 0, 0, 0, 0, 0] 6 3 [(1, .func (.func 98) #[] #[.pointer (pB kb1)]), (5, .pointer (pB b1)), (9, iq 1), (12, iq 1), (13, .func (.func 98) #[] #[.pointer (pB kb1)]), (14, iq 1), (17, iq (pr c))] ?_
 refine pl_step 7 2 rfl rfl ?_
 refine call_pure (d := 18) (iq (partI (pr c) al)) (by kernel_rfl) (fun w hT => fade1 kb1 al 1 (pr c) w (hT.viewRo (.cons (i := 1) rfl Vw.ro .nil) rfl)) ?_
 refine batch0 [0, 0] 9 0 [(1, .func (.func 98) #[] #[.pointer (pB kb1)]), (5, .pointer (pB b1)), (9, iq 1)] [.cells b1 [iq (partI (pa c) al), iq (partI (pr c) al), iq (pg c), iq (pb c)] 49 true, .ro kb1 [iq al] 3] rfl rfl (by kernel_rfl) (by kernel_rfl) ?_
 refine cont_done ?_
 refine blk_normal ?_
 refine then_normal ?_
 refine cont_region 2 rfl ?_
 refine bS [0, 0] 2 0 [(1, .func (.func 98) #[] #[.pointer (pB kb1)]), (5, .pointer (pB b1)), (9, iq 2)] ?_
 refine cont_done ?_
 refine then_normal ?_
 refine cont_round 3 2 rfl ?_
 refine cont_seq ?_
 refine cont_region 1 rfl ?_
 refine bS [0] 1 0 [(1, .func (.func 98) #[] #[.pointer (pB kb1)]), (5, .pointer (pB b1)), (9, iq 2), (10, .bool true)] ?_
 refine cont_done ?_
 refine then_normal ?_
 refine cont_seq ?_
 refine cont_true rfl ?_
 refine cont_skip ?_
 refine then_normal ?_
 refine cont_seq ?_
 refine cont_block ?_
 refine cont_seq ?_
 refine cont_region 2 rfl ?_
 refine bS [0, 0] 2 0 [(1, .func (.func 98) #[] #[.pointer (pB kb1)]), (5, .pointer (pB b1)), (6, iq 2), (9, iq 2)] ?_
 refine cont_done ?_
 refine then_normal ?_
 refine cont_region 9 rfl ?_
 refine bS [0, 0, 0, 0, 0, 0] 6 3 [(1, .func (.func 98) #[] #[.pointer (pB kb1)]), (5, .pointer (pB b1)), (9, iq 2), (12, iq 2), (13, .func (.func 98) #[] #[.pointer (pB kb1)]), (14, iq 2), (17, iq (pg c))] ?_
 refine pl_step 7 2 rfl rfl ?_
 refine call_pure (d := 18) (iq (partI (pg c) al)) (by kernel_rfl) (fun w hT => fade1 kb1 al 2 (pg c) w (hT.viewRo (.cons (i := 1) rfl Vw.ro .nil) rfl)) ?_
 refine batch0 [0, 0] 9 0 [(1, .func (.func 98) #[] #[.pointer (pB kb1)]), (5, .pointer (pB b1)), (9, iq 2)] [.cells b1 [iq (partI (pa c) al), iq (partI (pr c) al), iq (partI (pg c) al), iq (pb c)] 49 true, .ro kb1 [iq al] 3] rfl rfl (by kernel_rfl) (by kernel_rfl) ?_
 refine cont_done ?_
 refine blk_normal ?_
 refine then_normal ?_
 refine cont_region 2 rfl ?_
 refine bS [0, 0] 2 0 [(1, .func (.func 98) #[] #[.pointer (pB kb1)]), (5, .pointer (pB b1)), (9, iq 3)] ?_
 refine cont_done ?_
 refine then_normal ?_
 refine cont_round 2 1 rfl ?_
 refine cont_seq ?_
 refine cont_region 1 rfl ?_
 refine bS [0] 1 0 [(1, .func (.func 98) #[] #[.pointer (pB kb1)]), (5, .pointer (pB b1)), (9, iq 3), (10, .bool true)] ?_
 refine cont_done ?_
 refine then_normal ?_
 refine cont_seq ?_
 refine cont_true rfl ?_
 refine cont_skip ?_
 refine then_normal ?_
 refine cont_seq ?_
 refine cont_block ?_
 refine cont_seq ?_
 refine cont_region 2 rfl ?_
 refine bS [0, 0] 2 0 [(1, .func (.func 98) #[] #[.pointer (pB kb1)]), (5, .pointer (pB b1)), (6, iq 3), (9, iq 3)] ?_
 refine cont_done ?_
 refine then_normal ?_
 refine cont_region 9 rfl ?_
 refine bS [0, 0, 0, 0, 0, 0] 6 3 [(1, .func (.func 98) #[] #[.pointer (pB kb1)]), (5, .pointer (pB b1)), (9, iq 3), (12, iq 3), (13, .func (.func 98) #[] #[.pointer (pB kb1)]), (14, iq 3), (17, iq (pb c))] ?_
 refine pl_step 7 2 rfl rfl ?_
 refine call_pure (d := 18) (iq (partI (pb c) al)) (by kernel_rfl) (fun w hT => fade1 kb1 al 3 (pb c) w (hT.viewRo (.cons (i := 1) rfl Vw.ro .nil) rfl)) ?_
 refine batch0 [0, 0] 9 0 [(1, .func (.func 98) #[] #[.pointer (pB kb1)]), (5, .pointer (pB b1)), (9, iq 3)] [.cells b1 [iq (partI (pa c) al), iq (partI (pr c) al), iq (partI (pg c) al), iq (partI (pb c) al)] 49 true, .ro kb1 [iq al] 3] rfl rfl (by kernel_rfl) (by kernel_rfl) ?_
 refine cont_done ?_
 refine blk_normal ?_
 refine then_normal ?_
 refine cont_region 2 rfl ?_
 refine bS [0, 0] 2 0 [(1, .func (.func 98) #[] #[.pointer (pB kb1)]), (5, .pointer (pB b1)), (9, iq 4)] ?_
 refine cont_done ?_
 refine then_normal ?_
 refine cont_round 1 0 rfl ?_
 refine cont_seq ?_
 refine cont_region 1 rfl ?_
 refine bS [0] 1 0 [(1, .func (.func 98) #[] #[.pointer (pB kb1)]), (5, .pointer (pB b1)), (9, iq 4), (10, .bool false)] ?_
 refine cont_done ?_
 refine then_normal ?_
 refine cont_seq ?_
 refine cont_false rfl ?_
 refine cont_exit ?_
 refine then_exit ?_
 refine then_exit ?_
 refine blk_exit ?_
 refine then_normal ?_
 refine cont_seq ?_
 refine cont_region 10 rfl ?_
 refine bS [0, 0, 0, 0, 0, 0, 0, 0] 8 2 [(22, iq (partI (pa c) al)), (24, iq (partI (pr c) al)), (26, iq (partI (pg c) al)), (28, iq (partI (pb c) al))] ?_
 refine cont_forget 0 rfl ?_
 refine pl_step 9 1 rfl rfl ?_
 refine call_pure (d := 29) (.int .u32 (mkC (partI (pa c) al) (partI (pr c) al) (partI (pg c) al) (partI (pb c) al))) (by kernel_rfl) (fun w hT => colorMake (partI (pa c) al) (partI (pr c) al) (partI (pg c) al) (partI (pb c) al) w) ?_
 refine bS [0] 10 0 [(4, .int .u32 (mkC (partI (pa c) al) (partI (pr c) al) (partI (pg c) al) (partI (pb c) al)))] ?_
 refine cont_done ?_
 refine then_normal ?_
 refine cont_ret ?_
 refine ret_one (.inl rfl) rfl 0 (.int .u32 (mkC (partI (pa c) al) (partI (pr c) al) (partI (pg c) al) (partI (pb c) al))) (by kernel_rfl) (by kernel_rfl) (fun w hT => ?_)
 exact ⟨rfl, hT.post rfl⟩

theorem colOver (c d : Int) (w : World) (hc0 : 0 ≤ c) (hc1 : c < 4294967296) (hd0 : 0 ≤ d) (hd1 : d < 4294967296) :
    Calls Try.prog 72 #[.int .u32 c, .int .u32 d] w fun e w' => e = .returned (.int .u32 (overC c d)) ∧ Below w.heap.size w w' := by
 obtain ⟨⟨hpa0, hpa1⟩, ⟨hpr0, hpr1⟩, ⟨hpg0, hpg1⟩, ⟨hpb0, hpb1⟩⟩ := parts_range (c := c) ⟨by omega, by omega⟩
 refine enter 16 [(0, .int .u32 c), (1, .int .u32 d)] [] Try.func72 rfl Try.ntmps72 rfl (by kernel_rfl) (Tab.start w) ?_
 refine cont_seq ?_
 refine cont_region 1 rfl ?_
 refine bS [0] 1 0 [(0, .int .u32 c), (1, .int .u32 d)] ?_
 refine cont_done ?_
 refine then_normal ?_
 refine cont_seq ?_
 refine cont_region 10 rfl ?_
 refine bS [0] 1 9 [(0, .int .u32 c), (1, .int .u32 d), (7, .int .u32 c)] ?_
 refine pl_step 2 8 rfl rfl ?_
 refine call_pure (d := 8) (.agg #[iq (pa c), iq (pr c), iq (pg c), iq (pb c)]) (by kernel_rfl) (fun w hT => colorParts c w (by omega) (by omega)) ?_
 refine bS [0] 3 7 [(1, .int .u32 d), (8, .agg #[iq (pa c), iq (pr c), iq (pg c), iq (pb c)]), (9, .int .u32 c)] ?_
 refine pl_step 4 6 rfl rfl ?_
 refine call_pure (d := 10) (.agg #[iq (pa c), iq (pr c), iq (pg c), iq (pb c)]) (by kernel_rfl) (fun w hT => colorParts c w (by omega) (by omega)) ?_
 refine bS [0, 0] 6 4 [(1, .int .u32 d), (8, .agg #[iq (pa c), iq (pr c), iq (pg c), iq (pb c)]), (12, iq (IntKind.i64.wrap (255 - (pa c))))] ?_
 refine cont_recast 12 (iq (IntKind.i64.wrap (255 - (pa c)))) (iq (255 - (pa c))) rfl (wrapI (by omega) (by omega)) ?_
 refine batch2 [0, 0, 1, 0] 10 0 (fun b2 b3 => [(1, .int .u32 d), (5, .pointer (pB b2)), (6, .pointer (pB b3))]) (fun b2 b3 => [.cells b3 [iq (255 - (pa c))] 3 true, .cells b2 [iq (pa c), iq (pr c), iq (pg c), iq (pb c)] 49 true]) rfl rfl [1, 5, 6] (fun _ _ => rfl) (fun b2 b3 => by kernel_rfl) (fun b2 b3 => by kernel_rfl) (fun b2 b3 => ?_)
 refine cont_done ?_
 refine then_normal ?_
 refine cont_seq ?_
 refine cont_region 4 rfl ?_
 refine bS [0, 0] 2 2 [(13, .int .u32 d), (14, .func (.func 100) #[] #[.pointer (pB b2), .pointer (pB b3)])] ?_
 refine pl_step 3 1 rfl rfl ?_
 refine call_pure (d := 15) (.int .u32 (mkC ((pa c) + partI (pa d) (255 - (pa c))) ((pr c) + partI (pr d) (255 - (pa c))) ((pg c) + partI (pg d) (255 - (pa c))) ((pb c) + partI (pb d) (255 - (pa c))))) (by kernel_rfl) (fun w hT => eachOver b2 b3 (pa c) (pr c) (pg c) (pb c) (255 - (pa c)) d w (hT.viewRo (.cons (i := 1) rfl Vw.roc (.cons (i := 0) rfl Vw.roc .nil)) rfl) ⟨by omega, by omega, by omega, by omega⟩ (by omega) (by omega)) ?_
 refine bS [0] 4 0 [(4, .int .u32 (mkC ((pa c) + partI (pa d) (255 - (pa c))) ((pr c) + partI (pr d) (255 - (pa c))) ((pg c) + partI (pg d) (255 - (pa c))) ((pb c) + partI (pb d) (255 - (pa c)))))] ?_
 refine cont_forget 0 rfl ?_
 refine cont_forget 0 rfl ?_
 refine cont_done ?_
 refine then_normal ?_
 refine cont_ret ?_
 refine ret_one (.inl rfl) rfl 0 (.int .u32 (mkC ((pa c) + partI (pa d) (255 - (pa c))) ((pr c) + partI (pr d) (255 - (pa c))) ((pg c) + partI (pg d) (255 - (pa c))) ((pb c) + partI (pb d) (255 - (pa c))))) (by kernel_rfl) (by kernel_rfl) (fun w hT => ?_)
 exact ⟨rfl, hT.post rfl⟩

theorem colFade (c al : Int) (w : World) (hc0 : 0 ≤ c) (hc1 : c < 4294967296) :
    Calls Try.prog 71 #[.int .u32 c, .int .i64 al] w fun e w' => e = .returned (.int .u32 (fadeC c al)) ∧ Below w.heap.size w w' := by
 refine enter 8 [(0, .int .u32 c), (1, iq al)] [] Try.func71 rfl Try.ntmps71 rfl (by kernel_rfl) (Tab.start w) ?_
 refine cont_seq ?_
 refine cont_region 2 rfl ?_
 refine batch1 [0, 0] 2 0 (fun b1 => [(0, .int .u32 c), (3, .pointer (pB b1))]) (fun b1 => [.cells b1 [iq al] 3 true]) rfl rfl [0, 3] (fun _ => rfl) (fun b1 => by kernel_rfl) (fun b1 => by kernel_rfl) (fun b1 => ?_)
 refine cont_done ?_
 refine then_normal ?_
 refine cont_seq ?_
 refine cont_region 4 rfl ?_
 refine bS [0, 0] 2 2 [(5, .int .u32 c), (6, .func (.func 98) #[] #[.pointer (pB b1)])] ?_
 refine pl_step 3 1 rfl rfl ?_
 refine call_pure (d := 7) (.int .u32 (fadeC c al)) (by kernel_rfl) (fun w hT => eachFade b1 al c w (hT.viewRo (.cons (i := 0) rfl Vw.roc .nil) rfl) (by omega) (by omega)) ?_
 refine bS [0] 4 0 [(4, .int .u32 (fadeC c al))] ?_
 refine cont_forget 0 rfl ?_
 refine cont_done ?_
 refine then_normal ?_
 refine cont_ret ?_
 refine ret_one (.inl rfl) rfl 0 (.int .u32 (fadeC c al)) (by kernel_rfl) (by kernel_rfl) (fun w hT => ?_)
 exact ⟨rfl, hT.post rfl⟩

theorem paintPixel (A : Option Addr) (g o n cap : Nat) (xs : List Int) (c : Int) (w : World) (hT0 : Tab w w [.gen (rdE (A) g o n 1 (ivals .u32 xs))]) (hn : n ≤ 65536) (hx : ∀ x ∈ xs, InC x) (hc : InC c) :
    Calls Try.prog 51 #[.int .u32 c, .slice A n cap] w fun e w' => e = .returned (.int .u32 (pixC c xs)) ∧ Below w.heap.size w w' := by
 refine enter 18 [(0, .int .u32 c), (1, .slice A n cap)] [.gen (rdE (A) g o n 1 (ivals .u32 xs))] Try.func51 rfl Try.ntmps51 rfl (by kernel_rfl) hT0 ?_
 refine cont_fact (F := (0 < n → (A : Option Addr) = some ⟨g, o, none⟩) ∧ xs.length = n) (fun w hT => Rd.facts (hT.ok 0 _ rfl)) (fun hl1_ => ?_)
 obtain ⟨hl1_a, hl1_l⟩ := hl1_
 refine cont_seq ?_
 refine cont_region 1 rfl ?_
 refine bS [0] 1 0 [(0, .int .u32 c), (1, .slice A n cap)] ?_
 refine cont_done ?_
 refine then_normal ?_
 refine cont_seq ?_
 refine cont_seq ?_
 refine cont_region 3 rfl ?_
 refine bS [0, 0, 0] 3 0 [(0, .int .u32 c), (7, .slice A n cap), (8, iq (n : Int)), (9, iq 0)] ?_
 refine cont_done ?_
 refine then_normal ?_
 refine cont_block ?_
 refine cont_loop (α := Nat) (fun x_ : Nat => x_ ≤ n) (fun x_ : Nat => [(0, .int .u32 (pixC c (xs.take x_))), (7, .slice A n cap), (8, iq (n : Int)), (9, iq (x_ : Int))]) (fun x_ : Nat => [.gen (rdE (A) g o n 1 (ivals .u32 xs))]) (fun x_ : Nat => n - x_) 0 (by omega) (by kernel_rfl) (by kernel_rfl) ?_
 rintro i hinv2_
 replace hinv2_ : i ≤ n := hinv2_
 refine cont_norm [(0, .int .u32 (pixC c (xs.take i))), (7, .slice A n cap), (8, iq (n : Int)), (9, iq (i : Int))] _ (by kernel_rfl) rfl ?_
 have hi := hinv2_
 have hxi : i < n → 0 ≤ xs.getD i 0 ∧ xs.getD i 0 < 4294967296 := fun h => hx _ (by rw [List.getD_eq_getElem?_getD, List.getElem?_eq_getElem (by omega)]; simp)
 have hpx : 0 ≤ pixC c (xs.take i) ∧ pixC c (xs.take i) < 4294967296 := pixC_in hc _
 refine cont_seq ?_
 refine cont_region 1 rfl ?_
 refine bS [0] 1 0 [(0, .int .u32 (pixC c (xs.take i))), (7, .slice A n cap), (8, iq (n : Int)), (9, iq (i : Int)), (10, .bool (decide ((i : Int) < (n : Int))))] ?_
 refine cont_done ?_
 refine then_normal ?_
 refine cont_seq ?_
 refine cont_split 10 (decide ((i : Int) < (n : Int))) rfl (fun c3_ => ?_) (fun c3_ => ?_)
 ·
  replace c3_ := of_decide_eq_true c3_
  refine cont_true rfl ?_
  refine cont_skip ?_
  refine then_normal ?_
  refine cont_seq ?_
  refine cont_block ?_
  refine cont_seq ?_
  refine cont_region 3 rfl ?_
  refine pl_step 1 2 rfl rfl ?_
  refine cont_recast 7 (.slice A n cap) (.slice (some ⟨g, o, none⟩) n cap) rfl (by rw [hl1_a (by omega)]) ?_
  refine sem_step 11 (Instr.indexAt 39 (.slice (some ⟨g, o, none⟩) n cap) (iq (i : Int))) (.pointer (some ⟨g, o + i, none⟩)) (by kernel_rfl) (fun w hT => run_indexAt (e := 24) (sz := 1) _ (by kernel_rfl) (by kernel_rfl) (by omega) (by omega) (by omega) w) ?_
  refine pl_step 2 1 rfl rfl ?_
  refine sem_step 12 (Instr.loadAt 24 (.pointer (some ⟨g, o + i, none⟩))) (.int .u32 (xs.getD i 0)) (by kernel_rfl) (fun w hT => run_load1 (by kernel_rfl) (Rd.cell (hT.ok 0 _ rfl) (i) _ (ivals_get (by omega)))) ?_
  refine bS [0] 3 0 [(0, .int .u32 (pixC c (xs.take i))), (6, .int .u32 (xs.getD i 0)), (7, .slice (some ⟨g, o, none⟩) n cap), (8, iq (n : Int)), (9, iq (i : Int))] ?_
  refine cont_done ?_
  refine then_normal ?_
  refine cont_region 4 rfl ?_
  refine bS [0, 0] 2 2 [(7, .slice (some ⟨g, o, none⟩) n cap), (8, iq (n : Int)), (9, iq (i : Int)), (13, .int .u32 (xs.getD i 0)), (14, .int .u32 (pixC c (xs.take i)))] ?_
  refine pl_step 3 1 rfl rfl ?_
  refine call_pure (d := 15) (.int .u32 (overC (xs.getD i 0) (pixC c (xs.take i)))) (by kernel_rfl) (fun w hT => colOver (xs.getD i 0) (pixC c (xs.take i)) w (by omega) (by omega) (by omega) (by omega)) ?_
  refine bS [0] 4 0 [(0, .int .u32 (overC (xs.getD i 0) (pixC c (xs.take i)))), (7, .slice (some ⟨g, o, none⟩) n cap), (8, iq (n : Int)), (9, iq (i : Int))] ?_
  refine cont_done ?_
  refine blk_normal ?_
  refine then_normal ?_
  refine cont_region 2 rfl ?_
  refine bS [0] 1 1 [(0, .int .u32 (overC (xs.getD i 0) (pixC c (xs.take i)))), (7, .slice (some ⟨g, o, none⟩) n cap), (8, iq (n : Int)), (16, iq (IntKind.i64.wrap ((i : Int) + 1)))] ?_
  refine cont_recast 16 (iq (IntKind.i64.wrap ((i : Int) + 1))) (iq ((i : Int) + 1)) rfl (wrapI (by omega) (by omega)) ?_
  refine bS [0] 2 0 [(0, .int .u32 (overC (xs.getD i 0) (pixC c (xs.take i)))), (7, .slice (some ⟨g, o, none⟩) n cap), (8, iq (n : Int)), (9, iq ((i : Int) + 1))] ?_
  refine cont_done ?_
  refine then_normal ?_
  refine cont_recast 7 (.slice (some ⟨g, o, none⟩) n cap) (.slice A n cap) rfl (by rw [hl1_a (by omega)]) ?_
  refine cont_recast 0 (.int .u32 (overC (xs.getD i 0) (pixC c (xs.take i)))) (.int .u32 (pixC c (xs.take (i + 1)))) rfl (congrArg (Value.int .u32) (pixC_take (by omega))) ?_
  refine cont_again (i + 1) (show (i + 1) ≤ n from (by omega)) (show n - (i + 1) < n - i from by omega) (by kernel_rfl) (by kernel_rfl)
 replace c3_ := of_decide_eq_false c3_
 refine cont_false rfl ?_
 refine cont_exit ?_
 refine then_exit ?_
 refine then_exit ?_
 refine blk_exit ?_
 refine then_normal ?_
 refine cont_seq ?_
 refine cont_region 2 rfl ?_
 refine bS [0, 0] 2 0 [(4, .int .u32 (pixC c (xs.take i)))] ?_
 refine cont_done ?_
 refine then_normal ?_
 refine cont_ret ?_
 refine ret_one (.inl rfl) rfl 0 (.int .u32 (pixC c (xs.take i))) (by kernel_rfl) (by kernel_rfl) (fun w hT => ?_)
 rw [List.take_of_length_le (by omega)]
 exact ⟨rfl, hT.post rfl⟩

theorem rectMay (a b c d : Int) (w : World) :
    Calls Try.prog 123 #[.agg #[.int .i64 a, .int .i64 b, .int .i64 c, .int .i64 d]] w fun e w' => e = .returned (.bool (mayR a b c d)) ∧ Below w.heap.size w w' := by
 refine enter 39 [(0, .agg #[iq a, iq b, iq c, iq d])] [] Try.func123 rfl Try.ntmps123 rfl (by kernel_rfl) (Tab.start w) ?_
 refine cont_seq ?_
 refine cont_region 2 rfl ?_
 refine batch1 [0, 0] 2 0 (fun b1 => [(1, .pointer (pB b1))]) (fun b1 => [.cells b1 [iq a, iq b, iq c, iq d] 53 true]) rfl rfl [1] (fun _ => rfl) (fun b1 => by kernel_rfl) (fun b1 => by kernel_rfl) (fun b1 => ?_)
 refine cont_done ?_
 refine then_normal ?_
 refine cont_seq ?_
 refine cont_region 37 rfl ?_
 refine bS [0, 0, 0, 0, 0, 0, 0, 0, 0, 0, 0] 11 26 [(1, .pointer (pB b1)), (13, .bool (decide ((mn (mn (mn a b) c) d) ≥ (-1048576))))] ?_
 refine cont_split 13 (decide ((mn (mn (mn a b) c) d) ≥ (-1048576))) rfl (fun c2_ => ?_) (fun c2_ => ?_)
 ·
  replace c2_ := of_decide_eq_true c2_
  refine bS [0, 0, 0, 0, 0, 0, 0, 0, 0, 0, 0, 0] 23 14 [(1, .pointer (pB b1)), (25, .bool (decide ((mx (mx (mx a b) c) d) ≤ 1048576)))] ?_
  refine cont_split 25 (decide ((mx (mx (mx a b) c) d) ≤ 1048576)) rfl (fun c3_ => ?_) (fun c3_ => ?_)
  ·
   replace c3_ := of_decide_eq_true c3_
   refine bS [0, 0, 0, 0, 0, 0, 0] 30 7 [(1, .pointer (pB b1)), (32, .bool (decide (a ≤ c)))] ?_
   refine cont_split 32 (decide (a ≤ c)) rfl (fun c4_ => ?_) (fun c4_ => ?_)
   ·
    replace c4_ := of_decide_eq_true c4_
    refine bS [0, 0, 0, 0, 0, 0, 0] 37 0 [(2, .bool (decide (b ≤ d)))] ?_
    refine cont_forget 0 rfl ?_
    refine cont_done ?_
    refine then_normal ?_
    refine cont_ret ?_
    refine ret_one (.inl rfl) rfl 0 (.bool (decide (b ≤ d))) (by kernel_rfl) (by kernel_rfl) (fun w hT => ?_)
    refine ⟨ret_bool ?_, hT.post rfl⟩
    rw [Bool.eq_iff_iff]
    simp only [mayR, decide_eq_true_eq, Bool.false_eq_true, true_iff, false_iff]
    try unfold mn at *
    try unfold mx at *
    omega
   replace c4_ := of_decide_eq_false c4_
   refine bS [0, 0, 0, 0, 0, 0, 0] 37 0 [(2, .bool false)] ?_
   refine cont_forget 0 rfl ?_
   refine cont_done ?_
   refine then_normal ?_
   refine cont_ret ?_
   refine ret_one (.inl rfl) rfl 0 (.bool false) (by kernel_rfl) (by kernel_rfl) (fun w hT => ?_)
   refine ⟨ret_bool ?_, hT.post rfl⟩
   rw [Bool.eq_iff_iff]
   simp only [mayR, decide_eq_true_eq, Bool.false_eq_true, true_iff, false_iff]
   try unfold mn at *
   try unfold mx at *
   omega
  replace c3_ := of_decide_eq_false c3_
  refine bS [0, 0, 0, 0, 0, 0, 0, 0, 0, 0, 0, 0, 0, 0] 37 0 [(2, .bool false)] ?_
  refine cont_forget 0 rfl ?_
  refine cont_done ?_
  refine then_normal ?_
  refine cont_ret ?_
  refine ret_one (.inl rfl) rfl 0 (.bool false) (by kernel_rfl) (by kernel_rfl) (fun w hT => ?_)
  refine ⟨ret_bool ?_, hT.post rfl⟩
  rw [Bool.eq_iff_iff]
  simp only [mayR, decide_eq_true_eq, Bool.false_eq_true, true_iff, false_iff]
  try unfold mn at *
  try unfold mx at *
  omega
 replace c2_ := of_decide_eq_false c2_
 refine bS [0, 0, 0, 0, 0, 0, 0, 0, 0, 0, 0, 0, 0, 0, 0, 0, 0, 0, 0, 0, 0, 0, 0, 0, 0, 0] 37 0 [(2, .bool false)] ?_
 refine cont_forget 0 rfl ?_
 refine cont_done ?_
 refine then_normal ?_
 refine cont_ret ?_
 refine ret_one (.inl rfl) rfl 0 (.bool false) (by kernel_rfl) (by kernel_rfl) (fun w hT => ?_)
 refine ⟨ret_bool ?_, hT.post rfl⟩
 rw [Bool.eq_iff_iff]
 simp only [mayR, decide_eq_true_eq, Bool.false_eq_true, true_iff, false_iff]
 try unfold mn at *
 try unfold mx at *
 omega

theorem rectChk (a b c d : Int) (w : World) :
    Calls Try.prog 124 #[.agg #[.int .i64 a, .int .i64 b, .int .i64 c, .int .i64 d]] w fun e w' => e = .returned (.tuple #[.agg #[.int .i64 ((chkR a b c d).x0), .int .i64 ((chkR a b c d).y0), .int .i64 ((chkR a b c d).x1), .int .i64 ((chkR a b c d).y1)], .int .i64 (chkE a b c d)]) ∧ Below w.heap.size w w' := by
 refine enter 9 [(0, .agg #[iq a, iq b, iq c, iq d])] [] Try.func124 rfl Try.ntmps124 rfl (by kernel_rfl) (Tab.start w) ?_
 refine cont_seq ?_
 refine cont_region 3 rfl ?_
 refine batch2 [0, 0, 0] 3 0 (fun b1 b2 => [(1, .pointer (pB b1)), (2, .pointer (pB b2))]) (fun b1 b2 => [.cells b2 [iq 0, iq 0, iq 0, iq 0] 53 true, .cells b1 [iq a, iq b, iq c, iq d] 53 true]) rfl rfl [1, 2] (fun _ _ => rfl) (fun b1 b2 => by kernel_rfl) (fun b1 b2 => by kernel_rfl) (fun b1 b2 => ?_)
 refine cont_done ?_
 refine then_normal ?_
 refine cont_seq ?_
 refine cont_seq ?_
 refine cont_region 3 rfl ?_
 refine bS [1] 1 2 [(1, .pointer (pB b1)), (2, .pointer (pB b2)), (4, .agg #[iq a, iq b, iq c, iq d])] ?_
 refine pl_step 2 1 rfl rfl ?_
 refine call_pure (d := 5) (.bool (mayR a b c d)) (by kernel_rfl) (fun w hT => rectMay a b c d w) ?_
 refine bS [0] 3 0 [(1, .pointer (pB b1)), (2, .pointer (pB b2)), (6, .bool (!(mayR a b c d)))] ?_
 refine cont_done ?_
 refine then_normal ?_
 refine cont_split 6 (!(mayR a b c d)) rfl (fun c3_ => ?_) (fun c3_ => ?_)
 ·
  replace c3_ : (mayR a b c d) = false := by simpa using c3_
  refine cont_true rfl ?_
  refine cont_seq ?_
  refine cont_region 3 rfl ?_
  refine bS [0, 0, 0] 3 0 [(2, .pointer (pB b2)), (3, iq 4)] ?_
  refine cont_forget 1 rfl ?_
  refine cont_done ?_
  refine then_normal ?_
  refine cont_ret ?_
  refine then_ret ?_
  refine ret_two (.inl rfl) rfl 0 0 (.agg #[iq 0, iq 0, iq 0, iq 0]) (iq 4) (by kernel_rfl) (by kernel_rfl) (by kernel_rfl) (by kernel_rfl) (fun w hT => ?_)
  exact ⟨by simp [chkR, chkE, *], hT.post rfl⟩
 replace c3_ : (mayR a b c d) = true := by simpa using c3_
 refine cont_false rfl ?_
 refine cont_skip ?_
 refine then_normal ?_
 refine cont_seq ?_
 refine cont_region 3 rfl ?_
 refine batch0 [1, 0, 0] 3 0 [(2, .pointer (pB b2)), (3, iq 0)] [.cells b2 [iq a, iq b, iq c, iq d] 53 true, .cells b1 [iq a, iq b, iq c, iq d] 53 true] rfl rfl (by kernel_rfl) (by kernel_rfl) ?_
 refine cont_forget 1 rfl ?_
 refine cont_done ?_
 refine then_normal ?_
 refine cont_ret ?_
 refine ret_two (.inl rfl) rfl 0 0 (.agg #[iq a, iq b, iq c, iq d]) (iq 0) (by kernel_rfl) (by kernel_rfl) (by kernel_rfl) (by kernel_rfl) (fun w hT => ?_)
 exact ⟨by simp [chkR, chkE, *], hT.post rfl⟩

theorem rectScl (a b c d s : Int) (w : World) :
    Calls Try.prog 111 #[.agg #[.int .i64 a, .int .i64 b, .int .i64 c, .int .i64 d], .int .i64 s] w fun e w' => e = .returned (.tuple #[.agg #[.int .i64 ((sclR a b c d s).x0), .int .i64 ((sclR a b c d s).y0), .int .i64 ((sclR a b c d s).x1), .int .i64 ((sclR a b c d s).y1)], .int .i64 (sclE a b c d s)]) ∧ Below w.heap.size w w' := by
 refine enter 39 [(0, .agg #[iq a, iq b, iq c, iq d]), (1, iq s)] [] Try.func111 rfl Try.ntmps111 rfl (by kernel_rfl) (Tab.start w) ?_
 refine cont_seq ?_
 refine cont_region 3 rfl ?_
 refine batch2 [0, 0, 0] 3 0 (fun b1 b2 => [(1, iq s), (2, .pointer (pB b1)), (4, .pointer (pB b2))]) (fun b1 b2 => [.cells b2 [iq 0, iq 0, iq 0, iq 0] 53 true, .cells b1 [iq a, iq b, iq c, iq d] 53 true]) rfl rfl [1, 2, 4] (fun _ _ => rfl) (fun b1 b2 => by kernel_rfl) (fun b1 b2 => by kernel_rfl) (fun b1 b2 => ?_)
 refine cont_done ?_
 refine then_normal ?_
 refine cont_seq ?_
 refine cont_block ?_
 refine cont_seq ?_
 refine cont_region 7 rfl ?_
 refine bS [0, 0, 0] 3 4 [(1, iq s), (2, .pointer (pB b1)), (4, .pointer (pB b2)), (9, .bool (decide (s < 1)))] ?_
 refine cont_split 9 (decide (s < 1)) rfl (fun c3_ => ?_) (fun c3_ => ?_)
 ·
  replace c3_ := of_decide_eq_true c3_
  refine bS [0, 0, 0, 0] 7 0 [(1, iq s), (2, .pointer (pB b1)), (4, .pointer (pB b2)), (6, .bool true)] ?_
  refine cont_done ?_
  refine then_normal ?_
  refine cont_true rfl ?_
  refine cont_seq ?_
  refine cont_region 3 rfl ?_
  refine bS [0, 0, 0] 3 0 [(4, .pointer (pB b2)), (5, iq 1)] ?_
  refine cont_forget 1 rfl ?_
  refine cont_done ?_
  refine then_normal ?_
  refine cont_ret ?_
  refine blk_ret ?_
  refine then_ret ?_
  refine ret_two (.inl rfl) rfl 0 0 (.agg #[iq 0, iq 0, iq 0, iq 0]) (iq 1) (by kernel_rfl) (by kernel_rfl) (by kernel_rfl) (by kernel_rfl) (fun w hT => ?_)
  exact ⟨by simp [sclR, sclE, *] <;> omega, hT.post rfl⟩
 replace c3_ := of_decide_eq_false c3_
 refine bS [0, 0, 0, 0] 7 0 [(1, iq s), (2, .pointer (pB b1)), (4, .pointer (pB b2)), (6, .bool (decide (s > 8)))] ?_
 refine cont_done ?_
 refine then_normal ?_
 refine cont_split 6 (decide (s > 8)) rfl (fun c4_ => ?_) (fun c4_ => ?_)
 ·
  replace c4_ := of_decide_eq_true c4_
  refine cont_true rfl ?_
  refine cont_seq ?_
  refine cont_region 3 rfl ?_
  refine bS [0, 0, 0] 3 0 [(4, .pointer (pB b2)), (5, iq 1)] ?_
  refine cont_forget 1 rfl ?_
  refine cont_done ?_
  refine then_normal ?_
  refine cont_ret ?_
  refine blk_ret ?_
  refine then_ret ?_
  refine ret_two (.inl rfl) rfl 0 0 (.agg #[iq 0, iq 0, iq 0, iq 0]) (iq 1) (by kernel_rfl) (by kernel_rfl) (by kernel_rfl) (by kernel_rfl) (fun w hT => ?_)
  exact ⟨by simp [sclR, sclE, *] <;> omega, hT.post rfl⟩
 replace c4_ := of_decide_eq_false c4_
 refine cont_false rfl ?_
 refine cont_seq ?_
 refine cont_region 4 rfl ?_
 refine bS [1] 1 3 [(1, iq s), (2, .pointer (pB b1)), (4, .pointer (pB b2)), (15, .agg #[iq a, iq b, iq c, iq d])] ?_
 refine pl_step 2 2 rfl rfl ?_
 refine call_pure (d := 16) (.bool (mayR a b c d)) (by kernel_rfl) (fun w hT => rectMay a b c d w) ?_
 refine bS [0, 0] 4 0 [(1, iq s), (2, .pointer (pB b1)), (4, .pointer (pB b2)), (14, .bool (!(mayR a b c d)))] ?_
 refine cont_done ?_
 refine then_normal ?_
 refine cont_split 14 (!(mayR a b c d)) rfl (fun c5_ => ?_) (fun c5_ => ?_)
 ·
  replace c5_ : (mayR a b c d) = false := by simpa using c5_
  refine cont_true rfl ?_
  refine cont_seq ?_
  refine cont_region 3 rfl ?_
  refine bS [0, 0, 0] 3 0 [(4, .pointer (pB b2)), (5, iq 4)] ?_
  refine cont_forget 1 rfl ?_
  refine cont_done ?_
  refine then_normal ?_
  refine cont_ret ?_
  refine blk_ret ?_
  refine then_ret ?_
  refine ret_two (.inl rfl) rfl 0 0 (.agg #[iq 0, iq 0, iq 0, iq 0]) (iq 4) (by kernel_rfl) (by kernel_rfl) (by kernel_rfl) (by kernel_rfl) (fun w hT => ?_)
  exact ⟨by simp [sclR, sclE, *] <;> omega, hT.post rfl⟩
 replace c5_ : (mayR a b c d) = true := by simpa using c5_
 refine cont_false rfl ?_
 refine cont_skip ?_
 refine blk_normal ?_
 refine then_normal ?_
 refine cont_seq ?_
 refine cont_region 22 rfl ?_
 have hm_ := mayR_true.1 ‹_›
 have hsc : ∀ x : Int, -1048576 ≤ x → x ≤ 1048576 → -8388608 ≤ x * s ∧ x * s ≤ 8388608 := fun x h1 h2 => by
   have := Int.mul_le_mul_of_nonneg_right h1 (show 0 ≤ s by omega)
   have := Int.mul_le_mul_of_nonneg_right h2 (show 0 ≤ s by omega)
   omega
 have hs1 := hsc a (by omega) (by omega)
 have hs2 := hsc b (by omega) (by omega)
 have hs3 := hsc c (by omega) (by omega)
 have hs4 := hsc d (by omega) (by omega)
 refine bS [0, 1, 0, 0] 4 18 [(1, iq s), (2, .pointer (pB b1)), (4, .pointer (pB b2)), (22, iq (IntKind.i64.wrap (a * s)))] ?_
 refine cont_recast 22 (iq (IntKind.i64.wrap (a * s))) (iq (a * s)) rfl (wrapI (by omega) (by omega)) ?_
 refine bS [0, 1, 0, 0] 8 14 [(1, iq s), (2, .pointer (pB b1)), (4, .pointer (pB b2)), (22, iq (a * s)), (26, iq (IntKind.i64.wrap (b * s)))] ?_
 refine cont_recast 26 (iq (IntKind.i64.wrap (b * s))) (iq (b * s)) rfl (wrapI (by omega) (by omega)) ?_
 refine bS [0, 1, 0, 0] 12 10 [(1, iq s), (2, .pointer (pB b1)), (4, .pointer (pB b2)), (22, iq (a * s)), (26, iq (b * s)), (30, iq (IntKind.i64.wrap (c * s)))] ?_
 refine cont_recast 30 (iq (IntKind.i64.wrap (c * s))) (iq (c * s)) rfl (wrapI (by omega) (by omega)) ?_
 refine bS [0, 1, 0, 0] 16 6 [(4, .pointer (pB b2)), (22, iq (a * s)), (26, iq (b * s)), (30, iq (c * s)), (34, iq (IntKind.i64.wrap (d * s)))] ?_
 refine cont_recast 34 (iq (IntKind.i64.wrap (d * s))) (iq (d * s)) rfl (wrapI (by omega) (by omega)) ?_
 refine cont_forget 1 rfl ?_
 refine bS [0] 17 5 [(4, .pointer (pB b2)), (35, .agg #[iq (a * s), iq (b * s), iq (c * s), iq (d * s)])] ?_
 refine pl_step 18 4 rfl rfl ?_
 refine call_pure (d := 36) (.tuple #[.agg #[iq ((chkR (a * s) (b * s) (c * s) (d * s)).x0), iq ((chkR (a * s) (b * s) (c * s) (d * s)).y0), iq ((chkR (a * s) (b * s) (c * s) (d * s)).x1), iq ((chkR (a * s) (b * s) (c * s) (d * s)).y1)], iq (chkE (a * s) (b * s) (c * s) (d * s))]) (by kernel_rfl) (fun w hT => rectChk (a * s) (b * s) (c * s) (d * s) w) ?_
 refine batch0 [0, 0, 0, 0] 22 0 [(4, .pointer (pB b2)), (5, iq (chkE (a * s) (b * s) (c * s) (d * s)))] [.cells b2 [iq ((chkR (a * s) (b * s) (c * s) (d * s)).x0), iq ((chkR (a * s) (b * s) (c * s) (d * s)).y0), iq ((chkR (a * s) (b * s) (c * s) (d * s)).x1), iq ((chkR (a * s) (b * s) (c * s) (d * s)).y1)] 53 true] rfl rfl (by kernel_rfl) (by kernel_rfl) ?_
 refine cont_done ?_
 refine then_normal ?_
 refine cont_ret ?_
 refine ret_two (.inl rfl) rfl 0 0 (.agg #[iq ((chkR (a * s) (b * s) (c * s) (d * s)).x0), iq ((chkR (a * s) (b * s) (c * s) (d * s)).y0), iq ((chkR (a * s) (b * s) (c * s) (d * s)).x1), iq ((chkR (a * s) (b * s) (c * s) (d * s)).y1)]) (iq (chkE (a * s) (b * s) (c * s) (d * s))) (by kernel_rfl) (by kernel_rfl) (by kernel_rfl) (by kernel_rfl) (fun w hT => ?_)
 exact ⟨by simp [sclR, sclE, *] <;> omega, hT.post rfl⟩

theorem movFar (n : Int) (w : World) :
    Calls Try.prog 125 #[.int .i64 n] w fun e w' => e = .returned (.int .i64 (farM n)) ∧ Below w.heap.size w w' := by
 refine enter 6 [(0, iq n)] [] Try.func125 rfl Try.ntmps125 rfl (by kernel_rfl) (Tab.start w) ?_
 refine cont_seq ?_
 refine cont_region 1 rfl ?_
 refine bS [0] 1 0 [(0, iq n)] ?_
 refine cont_done ?_
 refine then_normal ?_
 refine cont_seq ?_
 refine cont_region 4 rfl ?_
 refine bS [0, 0, 0, 0] 4 0 [(2, iq (mn (mx n (-4194304)) 4194304))] ?_
 refine cont_done ?_
 refine then_normal ?_
 refine cont_ret ?_
 refine ret_one (.inl rfl) rfl 0 (iq (mn (mx n (-4194304)) 4194304)) (by kernel_rfl) (by kernel_rfl) (fun w hT => ?_)
 exact ⟨rfl, hT.post rfl⟩

theorem rectMov (a b c d x y : Int) (w : World) (ha : -2097152 ≤ a ∧ a ≤ 2097152) (hb : -2097152 ≤ b ∧ b ≤ 2097152) (hc : -2097152 ≤ c ∧ c ≤ 2097152) (hd : -2097152 ≤ d ∧ d ≤ 2097152) :
    Calls Try.prog 112 #[.agg #[.int .i64 a, .int .i64 b, .int .i64 c, .int .i64 d], .int .i64 x, .int .i64 y] w fun e w' => e = .returned (.tuple #[.agg #[.int .i64 ((movR a b c d x y).x0), .int .i64 ((movR a b c d x y).y0), .int .i64 ((movR a b c d x y).x1), .int .i64 ((movR a b c d x y).y1)], .int .i64 (movE a b c d x y)]) ∧ Below w.heap.size w w' := by
 have hfx := farM_range x
 have hfy := farM_range y
 refine enter 35 [(0, .agg #[iq a, iq b, iq c, iq d]), (1, iq x), (2, iq y)] [] Try.func112 rfl Try.ntmps112 rfl (by kernel_rfl) (Tab.start w) ?_
 refine cont_seq ?_
 refine cont_region 3 rfl ?_
 refine batch2 [0, 0, 0] 3 0 (fun b1 b2 => [(1, iq x), (2, iq y), (3, .pointer (pB b1)), (6, .pointer (pB b2))]) (fun b1 b2 => [.cells b2 [iq 0, iq 0, iq 0, iq 0] 53 true, .cells b1 [iq a, iq b, iq c, iq d] 53 true]) rfl rfl [1, 2, 3, 6] (fun _ _ => rfl) (fun b1 b2 => by kernel_rfl) (fun b1 b2 => by kernel_rfl) (fun b1 b2 => ?_)
 refine cont_done ?_
 refine then_normal ?_
 refine cont_seq ?_
 refine cont_region 1 rfl ?_
 refine bS [0] 1 0 [(1, iq x), (2, iq y), (3, .pointer (pB b1)), (6, .pointer (pB b2)), (8, .func (.func 125) #[] #[])] ?_
 refine cont_done ?_
 refine then_normal ?_
 refine cont_seq ?_
 refine cont_region 8 rfl ?_
 refine bS [0, 0] 2 6 [(2, iq y), (3, .pointer (pB b1)), (6, .pointer (pB b2)), (8, .func (.func 125) #[] #[]), (9, .func (.func 125) #[] #[]), (10, iq x)] ?_
 refine pl_step 3 5 rfl rfl ?_
 refine call_pure (d := 11) (iq (farM x)) (by kernel_rfl) (fun w hT => movFar x w) ?_
 refine bS [0, 0] 5 3 [(3, .pointer (pB b1)), (6, .pointer (pB b2)), (11, iq (farM x)), (12, .func (.func 125) #[] #[]), (13, iq y)] ?_
 refine pl_step 6 2 rfl rfl ?_
 refine call_pure (d := 14) (iq (farM y)) (by kernel_rfl) (fun w hT => movFar y w) ?_
 refine bS [0, 0] 8 0 [(1, iq (farM x)), (2, iq (farM y)), (3, .pointer (pB b1)), (6, .pointer (pB b2))] ?_
 refine cont_done ?_
 refine then_normal ?_
 refine cont_seq ?_
 refine cont_region 22 rfl ?_
 refine bS [0, 1, 0, 0] 4 18 [(1, iq (farM x)), (2, iq (farM y)), (3, .pointer (pB b1)), (6, .pointer (pB b2)), (18, iq (IntKind.i64.wrap (a + (farM x))))] ?_
 refine cont_recast 18 (iq (IntKind.i64.wrap (a + (farM x)))) (iq (a + (farM x))) rfl (wrapI (by omega) (by omega)) ?_
 refine bS [0, 1, 0, 0] 8 14 [(1, iq (farM x)), (2, iq (farM y)), (3, .pointer (pB b1)), (6, .pointer (pB b2)), (18, iq (a + (farM x))), (22, iq (IntKind.i64.wrap (b + (farM y))))] ?_
 refine cont_recast 22 (iq (IntKind.i64.wrap (b + (farM y)))) (iq (b + (farM y))) rfl (wrapI (by omega) (by omega)) ?_
 refine bS [0, 1, 0, 0] 12 10 [(2, iq (farM y)), (3, .pointer (pB b1)), (6, .pointer (pB b2)), (18, iq (a + (farM x))), (22, iq (b + (farM y))), (26, iq (IntKind.i64.wrap (c + (farM x))))] ?_
 refine cont_recast 26 (iq (IntKind.i64.wrap (c + (farM x)))) (iq (c + (farM x))) rfl (wrapI (by omega) (by omega)) ?_
 refine bS [0, 1, 0, 0] 16 6 [(6, .pointer (pB b2)), (18, iq (a + (farM x))), (22, iq (b + (farM y))), (26, iq (c + (farM x))), (30, iq (IntKind.i64.wrap (d + (farM y))))] ?_
 refine cont_recast 30 (iq (IntKind.i64.wrap (d + (farM y)))) (iq (d + (farM y))) rfl (wrapI (by omega) (by omega)) ?_
 refine cont_forget 1 rfl ?_
 refine bS [0] 17 5 [(6, .pointer (pB b2)), (31, .agg #[iq (a + (farM x)), iq (b + (farM y)), iq (c + (farM x)), iq (d + (farM y))])] ?_
 refine pl_step 18 4 rfl rfl ?_
 refine call_pure (d := 32) (.tuple #[.agg #[iq ((chkR (a + (farM x)) (b + (farM y)) (c + (farM x)) (d + (farM y))).x0), iq ((chkR (a + (farM x)) (b + (farM y)) (c + (farM x)) (d + (farM y))).y0), iq ((chkR (a + (farM x)) (b + (farM y)) (c + (farM x)) (d + (farM y))).x1), iq ((chkR (a + (farM x)) (b + (farM y)) (c + (farM x)) (d + (farM y))).y1)], iq (chkE (a + (farM x)) (b + (farM y)) (c + (farM x)) (d + (farM y)))]) (by kernel_rfl) (fun w hT => rectChk (a + (farM x)) (b + (farM y)) (c + (farM x)) (d + (farM y)) w) ?_
 refine batch0 [0, 0, 0, 0] 22 0 [(6, .pointer (pB b2)), (7, iq (chkE (a + (farM x)) (b + (farM y)) (c + (farM x)) (d + (farM y))))] [.cells b2 [iq ((chkR (a + (farM x)) (b + (farM y)) (c + (farM x)) (d + (farM y))).x0), iq ((chkR (a + (farM x)) (b + (farM y)) (c + (farM x)) (d + (farM y))).y0), iq ((chkR (a + (farM x)) (b + (farM y)) (c + (farM x)) (d + (farM y))).x1), iq ((chkR (a + (farM x)) (b + (farM y)) (c + (farM x)) (d + (farM y))).y1)] 53 true] rfl rfl (by kernel_rfl) (by kernel_rfl) ?_
 refine cont_done ?_
 refine then_normal ?_
 refine cont_ret ?_
 refine ret_two (.inl rfl) rfl 0 0 (.agg #[iq ((chkR (a + (farM x)) (b + (farM y)) (c + (farM x)) (d + (farM y))).x0), iq ((chkR (a + (farM x)) (b + (farM y)) (c + (farM x)) (d + (farM y))).y0), iq ((chkR (a + (farM x)) (b + (farM y)) (c + (farM x)) (d + (farM y))).x1), iq ((chkR (a + (farM x)) (b + (farM y)) (c + (farM x)) (d + (farM y))).y1)]) (iq (chkE (a + (farM x)) (b + (farM y)) (c + (farM x)) (d + (farM y)))) (by kernel_rfl) (by kernel_rfl) (by kernel_rfl) (by kernel_rfl) (fun w hT => ?_)
 exact ⟨rfl, hT.post rfl⟩

theorem layShown (m : Nat) (W H : Int) (r n cap : Nat) (px : List Int) (X Y s al ca cb cc cd : Int) (a b c d : Int) (w : World) (hI : ImgR 118 w m W H r n cap px) (hok : ImgOk W H n px) :
    Calls Try.prog 96 #[.agg #[.pointer (some ⟨m, 0, none⟩), .int .i64 X, .int .i64 Y, .int .i64 s, .int .i64 al, .int .i64 ca, .int .i64 cb, .int .i64 cc, .int .i64 cd], .agg #[.int .i64 a, .int .i64 b, .int .i64 c, .int .i64 d]] w fun e w' => e = .returned (.tuple #[.agg #[.int .i64 ((shwR W H X Y s a b c d).x0), .int .i64 ((shwR W H X Y s a b c d).y0), .int .i64 ((shwR W H X Y s a b c d).x1), .int .i64 ((shwR W H X Y s a b c d).y1)], .bool (shwB W H X Y s a b c d)]) ∧ Below w.heap.size w w' := by
 have hcap := hI.cap
 refine enter 39 [(0, .agg #[.pointer (pB m), iq X, iq Y, iq s, iq al, iq ca, iq cb, iq cc, iq cd]), (1, .agg #[iq a, iq b, iq c, iq d])] [.ro m [iq W, iq H, .slice (pB r) n cap] 118, .gen (rdE (pB r) r 0 n 1 (ivals .u32 px))] Try.func96 rfl Try.ntmps96 rfl (by kernel_rfl) hI.tab ?_
 refine cont_seq ?_
 refine cont_region 4 rfl ?_
 refine batch3 [0, 0, 0, 0] 4 0 (fun b1 b2 b3 => [(2, .pointer (pB b1)), (3, .pointer (pB b2)), (4, .pointer (pB b3))]) (fun b1 b2 b3 => [.cells b3 [iq 0, iq 0, iq 0, iq 0] 53 true, .cells b2 [iq a, iq b, iq c, iq d] 53 true, .cells b1 [.pointer (pB m), iq X, iq Y, iq s, iq al, iq ca, iq cb, iq cc, iq cd] 106 true, .ro m [iq W, iq H, .slice (pB r) n cap] 118, .gen (rdE (pB r) r 0 n 1 (ivals .u32 px))]) rfl rfl [2, 3, 4] (fun _ _ _ => rfl) (fun b1 b2 b3 => by kernel_rfl) (fun b1 b2 b3 => by kernel_rfl) (fun b1 b2 b3 => ?_)
 refine cont_done ?_
 refine then_normal ?_
 refine cont_seq ?_
 refine drawn_enter 6 [1] rfl (by kernel_rfl) ?_
 refine takes 0 [1] [(1, 0), (2, 2)] 4 [2, 1] [(2, .pointer (pB b1)), (3, .pointer (pB b2)), (4, .pointer (pB b3)), (9, .pointer (pB m))] (by kernel_rfl) (pok_then pok_body) (by kernel_rfl) rfl rfl (by kernel_rfl) (by kernel_rfl) ?_
 refine drawn_two 0 3 3 rfl (by kernel_rfl) ?_ ?_
 ·
  refine one_step 1 [(2, .pointer (pB b1)), (3, .pointer (pB b2)), (4, .pointer (pB b3)), (7, .agg #[iq a, iq b, iq c, iq d]), (9, .pointer (pB m))] [.cells b3 [iq 0, iq 0, iq 0, iq 0] 53 true, .cells b2 [iq a, iq b, iq c, iq d] 53 true, .cells b1 [.pointer (pB m), iq X, iq Y, iq s, iq al, iq ca, iq cb, iq cc, iq cd] 106 true, .ro m [iq W, iq H, .slice (pB r) n cap] 118, .gen (rdE (pB r) r 0 n 1 (ivals .u32 px))] (by kernel_rfl) (by kernel_rfl) ?_
  refine drawn_next 0 [1] (by kernel_rfl) ?_
  refine drawn_one 3 2 rfl (by kernel_rfl) ?_
  refine call_pure (d := 10) (.agg #[iq 0, iq 0, iq W, iq H]) (by kernel_rfl) (fun w hT => imgBox m W H r n cap px  w ⟨hT.ok 3 _ rfl, hT.ok 4 _ rfl, by omega⟩ hok) ?_
  refine drawn_next 0 [1] (by kernel_rfl) ?_
  refine drawn_one 4 1 rfl (by kernel_rfl) ?_
  refine call_pure (d := 11) (.agg #[iq ((cutR a b c d 0 0 W H).x0), iq ((cutR a b c d 0 0 W H).y0), iq ((cutR a b c d 0 0 W H).x1), iq ((cutR a b c d 0 0 W H).y1)]) (by kernel_rfl) (fun w hT => rectCut a b c d 0 0 W H w) ?_
  refine drawn_next 0 [1] (by kernel_rfl) ?_
  refine drawn_one 5 0 rfl (by kernel_rfl) ?_
  refine one_step 1 [(2, .pointer (pB b1)), (3, .pointer (pB b2)), (4, .pointer (pB b3))] [.cells b3 [iq 0, iq 0, iq 0, iq 0] 53 true, .cells b2 [iq ((cutR a b c d 0 0 W H).x0), iq ((cutR a b c d 0 0 W H).y0), iq ((cutR a b c d 0 0 W H).x1), iq ((cutR a b c d 0 0 W H).y1)] 53 true, .cells b1 [.pointer (pB m), iq X, iq Y, iq s, iq al, iq ca, iq cb, iq cc, iq cd] 106 true, .ro m [iq W, iq H, .slice (pB r) n cap] 118, .gen (rdE (pB r) r 0 n 1 (ivals .u32 px))] (by kernel_rfl) (by kernel_rfl) ?_
  refine drawn_next 0 [1] (by kernel_rfl) ?_
  refine drawn_done (by kernel_rfl) ?_
  refine then_normal ?_
  refine cont_seq ?_
  refine cont_seq ?_
  refine cont_region 2 rfl ?_
  refine bS [1] 1 1 [(2, .pointer (pB b1)), (3, .pointer (pB b2)), (4, .pointer (pB b3)), (12, .agg #[iq ((cutR a b c d 0 0 W H).x0), iq ((cutR a b c d 0 0 W H).y0), iq ((cutR a b c d 0 0 W H).x1), iq ((cutR a b c d 0 0 W H).y1)])] ?_
  refine pl_step 2 0 rfl rfl ?_
  refine call_pure (d := 13) (.bool (emptyB ((cutR a b c d 0 0 W H).x0) ((cutR a b c d 0 0 W H).y0) ((cutR a b c d 0 0 W H).x1) ((cutR a b c d 0 0 W H).y1))) (by kernel_rfl) (fun w hT => rectEmpty ((cutR a b c d 0 0 W H).x0) ((cutR a b c d 0 0 W H).y0) ((cutR a b c d 0 0 W H).x1) ((cutR a b c d 0 0 W H).y1) w) ?_
  refine cont_done ?_
  refine then_normal ?_
  refine cont_split 13 (emptyB ((cutR a b c d 0 0 W H).x0) ((cutR a b c d 0 0 W H).y0) ((cutR a b c d 0 0 W H).x1) ((cutR a b c d 0 0 W H).y1)) rfl (fun c4_ => ?_) (fun c4_ => ?_)
  ·
   refine cont_true rfl ?_
   refine cont_seq ?_
   refine cont_region 3 rfl ?_
   refine bS [0, 0, 0] 3 0 [(4, .pointer (pB b3)), (5, .bool true)] ?_
   refine cont_forget 1 rfl ?_
   refine cont_forget 1 rfl ?_
   refine cont_done ?_
   refine then_normal ?_
   refine cont_ret ?_
   refine then_ret ?_
   refine ret_two (.inl rfl) rfl 0 0 (.agg #[iq 0, iq 0, iq 0, iq 0]) (.bool true) (by kernel_rfl) (by kernel_rfl) (by kernel_rfl) (by kernel_rfl) (fun w hT => ?_)
   exact ⟨by simp [shwR, shwB, *], hT.post rfl⟩
  refine cont_false rfl ?_
  refine cont_skip ?_
  refine then_normal ?_
  refine cont_seq ?_
  refine cont_region 9 rfl ?_
  refine bS [1, 0, 2] 3 6 [(2, .pointer (pB b1)), (3, .pointer (pB b2)), (4, .pointer (pB b3)), (16, .agg #[iq ((cutR a b c d 0 0 W H).x0), iq ((cutR a b c d 0 0 W H).y0), iq ((cutR a b c d 0 0 W H).x1), iq ((cutR a b c d 0 0 W H).y1)]), (18, iq s)] ?_
  refine pl_step 4 5 rfl rfl ?_
  refine call_pure (d := 19) (.tuple #[.agg #[iq ((sclR ((cutR a b c d 0 0 W H).x0) ((cutR a b c d 0 0 W H).y0) ((cutR a b c d 0 0 W H).x1) ((cutR a b c d 0 0 W H).y1) s).x0), iq ((sclR ((cutR a b c d 0 0 W H).x0) ((cutR a b c d 0 0 W H).y0) ((cutR a b c d 0 0 W H).x1) ((cutR a b c d 0 0 W H).y1) s).y0), iq ((sclR ((cutR a b c d 0 0 W H).x0) ((cutR a b c d 0 0 W H).y0) ((cutR a b c d 0 0 W H).x1) ((cutR a b c d 0 0 W H).y1) s).x1), iq ((sclR ((cutR a b c d 0 0 W H).x0) ((cutR a b c d 0 0 W H).y0) ((cutR a b c d 0 0 W H).x1) ((cutR a b c d 0 0 W H).y1) s).y1)], iq (sclE ((cutR a b c d 0 0 W H).x0) ((cutR a b c d 0 0 W H).y0) ((cutR a b c d 0 0 W H).x1) ((cutR a b c d 0 0 W H).y1) s)]) (by kernel_rfl) (fun w hT => rectScl ((cutR a b c d 0 0 W H).x0) ((cutR a b c d 0 0 W H).y0) ((cutR a b c d 0 0 W H).x1) ((cutR a b c d 0 0 W H).y1) s w) ?_
  refine batch0 [0, 0, 0, 1, 0] 9 0 [(2, .pointer (pB b1)), (3, .pointer (pB b2)), (4, .pointer (pB b3)), (6, iq (sclE ((cutR a b c d 0 0 W H).x0) ((cutR a b c d 0 0 W H).y0) ((cutR a b c d 0 0 W H).x1) ((cutR a b c d 0 0 W H).y1) s))] [.cells b3 [iq 0, iq 0, iq 0, iq 0] 53 true, .cells b2 [iq ((sclR ((cutR a b c d 0 0 W H).x0) ((cutR a b c d 0 0 W H).y0) ((cutR a b c d 0 0 W H).x1) ((cutR a b c d 0 0 W H).y1) s).x0), iq ((sclR ((cutR a b c d 0 0 W H).x0) ((cutR a b c d 0 0 W H).y0) ((cutR a b c d 0 0 W H).x1) ((cutR a b c d 0 0 W H).y1) s).y0), iq ((sclR ((cutR a b c d 0 0 W H).x0) ((cutR a b c d 0 0 W H).y0) ((cutR a b c d 0 0 W H).x1) ((cutR a b c d 0 0 W H).y1) s).x1), iq ((sclR ((cutR a b c d 0 0 W H).x0) ((cutR a b c d 0 0 W H).y0) ((cutR a b c d 0 0 W H).x1) ((cutR a b c d 0 0 W H).y1) s).y1)] 53 true, .cells b1 [.pointer (pB m), iq X, iq Y, iq s, iq al, iq ca, iq cb, iq cc, iq cd] 106 true, .ro m [iq W, iq H, .slice (pB r) n cap] 118, .gen (rdE (pB r) r 0 n 1 (ivals .u32 px))] rfl rfl (by kernel_rfl) (by kernel_rfl) ?_
  refine cont_done ?_
  refine then_normal ?_
  refine cont_seq ?_
  refine cont_seq ?_
  refine cont_region 2 rfl ?_
  refine bS [0, 0] 2 0 [(2, .pointer (pB b1)), (3, .pointer (pB b2)), (4, .pointer (pB b3)), (23, .bool ((sclE ((cutR a b c d 0 0 W H).x0) ((cutR a b c d 0 0 W H).y0) ((cutR a b c d 0 0 W H).x1) ((cutR a b c d 0 0 W H).y1) s) != 0))] ?_
  refine cont_done ?_
  refine then_normal ?_
  refine cont_split 23 ((sclE ((cutR a b c d 0 0 W H).x0) ((cutR a b c d 0 0 W H).y0) ((cutR a b c d 0 0 W H).x1) ((cutR a b c d 0 0 W H).y1) s) != 0) rfl (fun c5_ => ?_) (fun c5_ => ?_)
  ·
   replace c5_ := ne_of_bne c5_
   refine cont_true rfl ?_
   refine cont_seq ?_
   refine cont_region 3 rfl ?_
   refine bS [0, 0, 0] 3 0 [(4, .pointer (pB b3)), (5, .bool false)] ?_
   refine cont_forget 1 rfl ?_
   refine cont_forget 1 rfl ?_
   refine cont_done ?_
   refine then_normal ?_
   refine cont_ret ?_
   refine then_ret ?_
   refine ret_two (.inl rfl) rfl 0 0 (.agg #[iq 0, iq 0, iq 0, iq 0]) (.bool false) (by kernel_rfl) (by kernel_rfl) (by kernel_rfl) (by kernel_rfl) (fun w hT => ?_)
   exact ⟨by simp [shwR, shwB, *], hT.post rfl⟩
  replace c5_ := eq_of_bne_false c5_
  refine cont_false rfl ?_
  refine cont_skip ?_
  refine then_normal ?_
  refine cont_seq ?_
  refine cont_region 13 rfl ?_
  have hsr := sclR_range (cutR a b c d 0 0 W H).x0 (cutR a b c d 0 0 W H).y0 (cutR a b c d 0 0 W H).x1 (cutR a b c d 0 0 W H).y1 s
  refine bS [1, 0, 0, 2, 0, 0, 2] 7 6 [(3, .pointer (pB b2)), (4, .pointer (pB b3)), (26, .agg #[iq ((sclR ((cutR a b c d 0 0 W H).x0) ((cutR a b c d 0 0 W H).y0) ((cutR a b c d 0 0 W H).x1) ((cutR a b c d 0 0 W H).y1) s).x0), iq ((sclR ((cutR a b c d 0 0 W H).x0) ((cutR a b c d 0 0 W H).y0) ((cutR a b c d 0 0 W H).x1) ((cutR a b c d 0 0 W H).y1) s).y0), iq ((sclR ((cutR a b c d 0 0 W H).x0) ((cutR a b c d 0 0 W H).y0) ((cutR a b c d 0 0 W H).x1) ((cutR a b c d 0 0 W H).y1) s).x1), iq ((sclR ((cutR a b c d 0 0 W H).x0) ((cutR a b c d 0 0 W H).y0) ((cutR a b c d 0 0 W H).x1) ((cutR a b c d 0 0 W H).y1) s).y1)]), (29, iq X), (32, iq Y)] ?_
  refine cont_forget 2 rfl ?_
  refine pl_step 8 5 rfl rfl ?_
  refine call_pure (d := 33) (.tuple #[.agg #[iq ((movR ((sclR ((cutR a b c d 0 0 W H).x0) ((cutR a b c d 0 0 W H).y0) ((cutR a b c d 0 0 W H).x1) ((cutR a b c d 0 0 W H).y1) s).x0) ((sclR ((cutR a b c d 0 0 W H).x0) ((cutR a b c d 0 0 W H).y0) ((cutR a b c d 0 0 W H).x1) ((cutR a b c d 0 0 W H).y1) s).y0) ((sclR ((cutR a b c d 0 0 W H).x0) ((cutR a b c d 0 0 W H).y0) ((cutR a b c d 0 0 W H).x1) ((cutR a b c d 0 0 W H).y1) s).x1) ((sclR ((cutR a b c d 0 0 W H).x0) ((cutR a b c d 0 0 W H).y0) ((cutR a b c d 0 0 W H).x1) ((cutR a b c d 0 0 W H).y1) s).y1) X Y).x0), iq ((movR ((sclR ((cutR a b c d 0 0 W H).x0) ((cutR a b c d 0 0 W H).y0) ((cutR a b c d 0 0 W H).x1) ((cutR a b c d 0 0 W H).y1) s).x0) ((sclR ((cutR a b c d 0 0 W H).x0) ((cutR a b c d 0 0 W H).y0) ((cutR a b c d 0 0 W H).x1) ((cutR a b c d 0 0 W H).y1) s).y0) ((sclR ((cutR a b c d 0 0 W H).x0) ((cutR a b c d 0 0 W H).y0) ((cutR a b c d 0 0 W H).x1) ((cutR a b c d 0 0 W H).y1) s).x1) ((sclR ((cutR a b c d 0 0 W H).x0) ((cutR a b c d 0 0 W H).y0) ((cutR a b c d 0 0 W H).x1) ((cutR a b c d 0 0 W H).y1) s).y1) X Y).y0), iq ((movR ((sclR ((cutR a b c d 0 0 W H).x0) ((cutR a b c d 0 0 W H).y0) ((cutR a b c d 0 0 W H).x1) ((cutR a b c d 0 0 W H).y1) s).x0) ((sclR ((cutR a b c d 0 0 W H).x0) ((cutR a b c d 0 0 W H).y0) ((cutR a b c d 0 0 W H).x1) ((cutR a b c d 0 0 W H).y1) s).y0) ((sclR ((cutR a b c d 0 0 W H).x0) ((cutR a b c d 0 0 W H).y0) ((cutR a b c d 0 0 W H).x1) ((cutR a b c d 0 0 W H).y1) s).x1) ((sclR ((cutR a b c d 0 0 W H).x0) ((cutR a b c d 0 0 W H).y0) ((cutR a b c d 0 0 W H).x1) ((cutR a b c d 0 0 W H).y1) s).y1) X Y).x1), iq ((movR ((sclR ((cutR a b c d 0 0 W H).x0) ((cutR a b c d 0 0 W H).y0) ((cutR a b c d 0 0 W H).x1) ((cutR a b c d 0 0 W H).y1) s).x0) ((sclR ((cutR a b c d 0 0 W H).x0) ((cutR a b c d 0 0 W H).y0) ((cutR a b c d 0 0 W H).x1) ((cutR a b c d 0 0 W H).y1) s).y0) ((sclR ((cutR a b c d 0 0 W H).x0) ((cutR a b c d 0 0 W H).y0) ((cutR a b c d 0 0 W H).x1) ((cutR a b c d 0 0 W H).y1) s).x1) ((sclR ((cutR a b c d 0 0 W H).x0) ((cutR a b c d 0 0 W H).y0) ((cutR a b c d 0 0 W H).x1) ((cutR a b c d 0 0 W H).y1) s).y1) X Y).y1)], iq (movE ((sclR ((cutR a b c d 0 0 W H).x0) ((cutR a b c d 0 0 W H).y0) ((cutR a b c d 0 0 W H).x1) ((cutR a b c d 0 0 W H).y1) s).x0) ((sclR ((cutR a b c d 0 0 W H).x0) ((cutR a b c d 0 0 W H).y0) ((cutR a b c d 0 0 W H).x1) ((cutR a b c d 0 0 W H).y1) s).y0) ((sclR ((cutR a b c d 0 0 W H).x0) ((cutR a b c d 0 0 W H).y0) ((cutR a b c d 0 0 W H).x1) ((cutR a b c d 0 0 W H).y1) s).x1) ((sclR ((cutR a b c d 0 0 W H).x0) ((cutR a b c d 0 0 W H).y0) ((cutR a b c d 0 0 W H).x1) ((cutR a b c d 0 0 W H).y1) s).y1) X Y)]) (by kernel_rfl) (fun w hT => rectMov ((sclR ((cutR a b c d 0 0 W H).x0) ((cutR a b c d 0 0 W H).y0) ((cutR a b c d 0 0 W H).x1) ((cutR a b c d 0 0 W H).y1) s).x0) ((sclR ((cutR a b c d 0 0 W H).x0) ((cutR a b c d 0 0 W H).y0) ((cutR a b c d 0 0 W H).x1) ((cutR a b c d 0 0 W H).y1) s).y0) ((sclR ((cutR a b c d 0 0 W H).x0) ((cutR a b c d 0 0 W H).y0) ((cutR a b c d 0 0 W H).x1) ((cutR a b c d 0 0 W H).y1) s).x1) ((sclR ((cutR a b c d 0 0 W H).x0) ((cutR a b c d 0 0 W H).y0) ((cutR a b c d 0 0 W H).x1) ((cutR a b c d 0 0 W H).y1) s).y1) X Y w (by omega) (by omega) (by omega) (by omega)) ?_
  refine batch0 [0, 0, 0, 1, 0] 13 0 [(3, .pointer (pB b2)), (4, .pointer (pB b3)), (6, iq (movE ((sclR ((cutR a b c d 0 0 W H).x0) ((cutR a b c d 0 0 W H).y0) ((cutR a b c d 0 0 W H).x1) ((cutR a b c d 0 0 W H).y1) s).x0) ((sclR ((cutR a b c d 0 0 W H).x0) ((cutR a b c d 0 0 W H).y0) ((cutR a b c d 0 0 W H).x1) ((cutR a b c d 0 0 W H).y1) s).y0) ((sclR ((cutR a b c d 0 0 W H).x0) ((cutR a b c d 0 0 W H).y0) ((cutR a b c d 0 0 W H).x1) ((cutR a b c d 0 0 W H).y1) s).x1) ((sclR ((cutR a b c d 0 0 W H).x0) ((cutR a b c d 0 0 W H).y0) ((cutR a b c d 0 0 W H).x1) ((cutR a b c d 0 0 W H).y1) s).y1) X Y))] [.cells b3 [iq 0, iq 0, iq 0, iq 0] 53 true, .cells b2 [iq ((movR ((sclR ((cutR a b c d 0 0 W H).x0) ((cutR a b c d 0 0 W H).y0) ((cutR a b c d 0 0 W H).x1) ((cutR a b c d 0 0 W H).y1) s).x0) ((sclR ((cutR a b c d 0 0 W H).x0) ((cutR a b c d 0 0 W H).y0) ((cutR a b c d 0 0 W H).x1) ((cutR a b c d 0 0 W H).y1) s).y0) ((sclR ((cutR a b c d 0 0 W H).x0) ((cutR a b c d 0 0 W H).y0) ((cutR a b c d 0 0 W H).x1) ((cutR a b c d 0 0 W H).y1) s).x1) ((sclR ((cutR a b c d 0 0 W H).x0) ((cutR a b c d 0 0 W H).y0) ((cutR a b c d 0 0 W H).x1) ((cutR a b c d 0 0 W H).y1) s).y1) X Y).x0), iq ((movR ((sclR ((cutR a b c d 0 0 W H).x0) ((cutR a b c d 0 0 W H).y0) ((cutR a b c d 0 0 W H).x1) ((cutR a b c d 0 0 W H).y1) s).x0) ((sclR ((cutR a b c d 0 0 W H).x0) ((cutR a b c d 0 0 W H).y0) ((cutR a b c d 0 0 W H).x1) ((cutR a b c d 0 0 W H).y1) s).y0) ((sclR ((cutR a b c d 0 0 W H).x0) ((cutR a b c d 0 0 W H).y0) ((cutR a b c d 0 0 W H).x1) ((cutR a b c d 0 0 W H).y1) s).x1) ((sclR ((cutR a b c d 0 0 W H).x0) ((cutR a b c d 0 0 W H).y0) ((cutR a b c d 0 0 W H).x1) ((cutR a b c d 0 0 W H).y1) s).y1) X Y).y0), iq ((movR ((sclR ((cutR a b c d 0 0 W H).x0) ((cutR a b c d 0 0 W H).y0) ((cutR a b c d 0 0 W H).x1) ((cutR a b c d 0 0 W H).y1) s).x0) ((sclR ((cutR a b c d 0 0 W H).x0) ((cutR a b c d 0 0 W H).y0) ((cutR a b c d 0 0 W H).x1) ((cutR a b c d 0 0 W H).y1) s).y0) ((sclR ((cutR a b c d 0 0 W H).x0) ((cutR a b c d 0 0 W H).y0) ((cutR a b c d 0 0 W H).x1) ((cutR a b c d 0 0 W H).y1) s).x1) ((sclR ((cutR a b c d 0 0 W H).x0) ((cutR a b c d 0 0 W H).y0) ((cutR a b c d 0 0 W H).x1) ((cutR a b c d 0 0 W H).y1) s).y1) X Y).x1), iq ((movR ((sclR ((cutR a b c d 0 0 W H).x0) ((cutR a b c d 0 0 W H).y0) ((cutR a b c d 0 0 W H).x1) ((cutR a b c d 0 0 W H).y1) s).x0) ((sclR ((cutR a b c d 0 0 W H).x0) ((cutR a b c d 0 0 W H).y0) ((cutR a b c d 0 0 W H).x1) ((cutR a b c d 0 0 W H).y1) s).y0) ((sclR ((cutR a b c d 0 0 W H).x0) ((cutR a b c d 0 0 W H).y0) ((cutR a b c d 0 0 W H).x1) ((cutR a b c d 0 0 W H).y1) s).x1) ((sclR ((cutR a b c d 0 0 W H).x0) ((cutR a b c d 0 0 W H).y0) ((cutR a b c d 0 0 W H).x1) ((cutR a b c d 0 0 W H).y1) s).y1) X Y).y1)] 53 true, .ro m [iq W, iq H, .slice (pB r) n cap] 118, .gen (rdE (pB r) r 0 n 1 (ivals .u32 px))] rfl rfl (by kernel_rfl) (by kernel_rfl) ?_
  refine cont_done ?_
  refine then_normal ?_
  refine cont_seq ?_
  refine cont_region 5 rfl ?_
  refine batch0 [1, 0, 0, 0, 0] 5 0 [(4, .pointer (pB b3)), (5, .bool ((movE ((sclR ((cutR a b c d 0 0 W H).x0) ((cutR a b c d 0 0 W H).y0) ((cutR a b c d 0 0 W H).x1) ((cutR a b c d 0 0 W H).y1) s).x0) ((sclR ((cutR a b c d 0 0 W H).x0) ((cutR a b c d 0 0 W H).y0) ((cutR a b c d 0 0 W H).x1) ((cutR a b c d 0 0 W H).y1) s).y0) ((sclR ((cutR a b c d 0 0 W H).x0) ((cutR a b c d 0 0 W H).y0) ((cutR a b c d 0 0 W H).x1) ((cutR a b c d 0 0 W H).y1) s).x1) ((sclR ((cutR a b c d 0 0 W H).x0) ((cutR a b c d 0 0 W H).y0) ((cutR a b c d 0 0 W H).x1) ((cutR a b c d 0 0 W H).y1) s).y1) X Y) == 0))] [.cells b3 [iq ((movR ((sclR ((cutR a b c d 0 0 W H).x0) ((cutR a b c d 0 0 W H).y0) ((cutR a b c d 0 0 W H).x1) ((cutR a b c d 0 0 W H).y1) s).x0) ((sclR ((cutR a b c d 0 0 W H).x0) ((cutR a b c d 0 0 W H).y0) ((cutR a b c d 0 0 W H).x1) ((cutR a b c d 0 0 W H).y1) s).y0) ((sclR ((cutR a b c d 0 0 W H).x0) ((cutR a b c d 0 0 W H).y0) ((cutR a b c d 0 0 W H).x1) ((cutR a b c d 0 0 W H).y1) s).x1) ((sclR ((cutR a b c d 0 0 W H).x0) ((cutR a b c d 0 0 W H).y0) ((cutR a b c d 0 0 W H).x1) ((cutR a b c d 0 0 W H).y1) s).y1) X Y).x0), iq ((movR ((sclR ((cutR a b c d 0 0 W H).x0) ((cutR a b c d 0 0 W H).y0) ((cutR a b c d 0 0 W H).x1) ((cutR a b c d 0 0 W H).y1) s).x0) ((sclR ((cutR a b c d 0 0 W H).x0) ((cutR a b c d 0 0 W H).y0) ((cutR a b c d 0 0 W H).x1) ((cutR a b c d 0 0 W H).y1) s).y0) ((sclR ((cutR a b c d 0 0 W H).x0) ((cutR a b c d 0 0 W H).y0) ((cutR a b c d 0 0 W H).x1) ((cutR a b c d 0 0 W H).y1) s).x1) ((sclR ((cutR a b c d 0 0 W H).x0) ((cutR a b c d 0 0 W H).y0) ((cutR a b c d 0 0 W H).x1) ((cutR a b c d 0 0 W H).y1) s).y1) X Y).y0), iq ((movR ((sclR ((cutR a b c d 0 0 W H).x0) ((cutR a b c d 0 0 W H).y0) ((cutR a b c d 0 0 W H).x1) ((cutR a b c d 0 0 W H).y1) s).x0) ((sclR ((cutR a b c d 0 0 W H).x0) ((cutR a b c d 0 0 W H).y0) ((cutR a b c d 0 0 W H).x1) ((cutR a b c d 0 0 W H).y1) s).y0) ((sclR ((cutR a b c d 0 0 W H).x0) ((cutR a b c d 0 0 W H).y0) ((cutR a b c d 0 0 W H).x1) ((cutR a b c d 0 0 W H).y1) s).x1) ((sclR ((cutR a b c d 0 0 W H).x0) ((cutR a b c d 0 0 W H).y0) ((cutR a b c d 0 0 W H).x1) ((cutR a b c d 0 0 W H).y1) s).y1) X Y).x1), iq ((movR ((sclR ((cutR a b c d 0 0 W H).x0) ((cutR a b c d 0 0 W H).y0) ((cutR a b c d 0 0 W H).x1) ((cutR a b c d 0 0 W H).y1) s).x0) ((sclR ((cutR a b c d 0 0 W H).x0) ((cutR a b c d 0 0 W H).y0) ((cutR a b c d 0 0 W H).x1) ((cutR a b c d 0 0 W H).y1) s).y0) ((sclR ((cutR a b c d 0 0 W H).x0) ((cutR a b c d 0 0 W H).y0) ((cutR a b c d 0 0 W H).x1) ((cutR a b c d 0 0 W H).y1) s).x1) ((sclR ((cutR a b c d 0 0 W H).x0) ((cutR a b c d 0 0 W H).y0) ((cutR a b c d 0 0 W H).x1) ((cutR a b c d 0 0 W H).y1) s).y1) X Y).y1)] 53 true, .cells b2 [iq ((movR ((sclR ((cutR a b c d 0 0 W H).x0) ((cutR a b c d 0 0 W H).y0) ((cutR a b c d 0 0 W H).x1) ((cutR a b c d 0 0 W H).y1) s).x0) ((sclR ((cutR a b c d 0 0 W H).x0) ((cutR a b c d 0 0 W H).y0) ((cutR a b c d 0 0 W H).x1) ((cutR a b c d 0 0 W H).y1) s).y0) ((sclR ((cutR a b c d 0 0 W H).x0) ((cutR a b c d 0 0 W H).y0) ((cutR a b c d 0 0 W H).x1) ((cutR a b c d 0 0 W H).y1) s).x1) ((sclR ((cutR a b c d 0 0 W H).x0) ((cutR a b c d 0 0 W H).y0) ((cutR a b c d 0 0 W H).x1) ((cutR a b c d 0 0 W H).y1) s).y1) X Y).x0), iq ((movR ((sclR ((cutR a b c d 0 0 W H).x0) ((cutR a b c d 0 0 W H).y0) ((cutR a b c d 0 0 W H).x1) ((cutR a b c d 0 0 W H).y1) s).x0) ((sclR ((cutR a b c d 0 0 W H).x0) ((cutR a b c d 0 0 W H).y0) ((cutR a b c d 0 0 W H).x1) ((cutR a b c d 0 0 W H).y1) s).y0) ((sclR ((cutR a b c d 0 0 W H).x0) ((cutR a b c d 0 0 W H).y0) ((cutR a b c d 0 0 W H).x1) ((cutR a b c d 0 0 W H).y1) s).x1) ((sclR ((cutR a b c d 0 0 W H).x0) ((cutR a b c d 0 0 W H).y0) ((cutR a b c d 0 0 W H).x1) ((cutR a b c d 0 0 W H).y1) s).y1) X Y).y0), iq ((movR ((sclR ((cutR a b c d 0 0 W H).x0) ((cutR a b c d 0 0 W H).y0) ((cutR a b c d 0 0 W H).x1) ((cutR a b c d 0 0 W H).y1) s).x0) ((sclR ((cutR a b c d 0 0 W H).x0) ((cutR a b c d 0 0 W H).y0) ((cutR a b c d 0 0 W H).x1) ((cutR a b c d 0 0 W H).y1) s).y0) ((sclR ((cutR a b c d 0 0 W H).x0) ((cutR a b c d 0 0 W H).y0) ((cutR a b c d 0 0 W H).x1) ((cutR a b c d 0 0 W H).y1) s).x1) ((sclR ((cutR a b c d 0 0 W H).x0) ((cutR a b c d 0 0 W H).y0) ((cutR a b c d 0 0 W H).x1) ((cutR a b c d 0 0 W H).y1) s).y1) X Y).x1), iq ((movR ((sclR ((cutR a b c d 0 0 W H).x0) ((cutR a b c d 0 0 W H).y0) ((cutR a b c d 0 0 W H).x1) ((cutR a b c d 0 0 W H).y1) s).x0) ((sclR ((cutR a b c d 0 0 W H).x0) ((cutR a b c d 0 0 W H).y0) ((cutR a b c d 0 0 W H).x1) ((cutR a b c d 0 0 W H).y1) s).y0) ((sclR ((cutR a b c d 0 0 W H).x0) ((cutR a b c d 0 0 W H).y0) ((cutR a b c d 0 0 W H).x1) ((cutR a b c d 0 0 W H).y1) s).x1) ((sclR ((cutR a b c d 0 0 W H).x0) ((cutR a b c d 0 0 W H).y0) ((cutR a b c d 0 0 W H).x1) ((cutR a b c d 0 0 W H).y1) s).y1) X Y).y1)] 53 true, .ro m [iq W, iq H, .slice (pB r) n cap] 118, .gen (rdE (pB r) r 0 n 1 (ivals .u32 px))] rfl rfl (by kernel_rfl) (by kernel_rfl) ?_
  refine cont_forget 1 rfl ?_
  refine cont_done ?_
  refine then_normal ?_
  refine cont_ret ?_
  refine ret_two (.inl rfl) rfl 0 0 (.agg #[iq ((movR ((sclR ((cutR a b c d 0 0 W H).x0) ((cutR a b c d 0 0 W H).y0) ((cutR a b c d 0 0 W H).x1) ((cutR a b c d 0 0 W H).y1) s).x0) ((sclR ((cutR a b c d 0 0 W H).x0) ((cutR a b c d 0 0 W H).y0) ((cutR a b c d 0 0 W H).x1) ((cutR a b c d 0 0 W H).y1) s).y0) ((sclR ((cutR a b c d 0 0 W H).x0) ((cutR a b c d 0 0 W H).y0) ((cutR a b c d 0 0 W H).x1) ((cutR a b c d 0 0 W H).y1) s).x1) ((sclR ((cutR a b c d 0 0 W H).x0) ((cutR a b c d 0 0 W H).y0) ((cutR a b c d 0 0 W H).x1) ((cutR a b c d 0 0 W H).y1) s).y1) X Y).x0), iq ((movR ((sclR ((cutR a b c d 0 0 W H).x0) ((cutR a b c d 0 0 W H).y0) ((cutR a b c d 0 0 W H).x1) ((cutR a b c d 0 0 W H).y1) s).x0) ((sclR ((cutR a b c d 0 0 W H).x0) ((cutR a b c d 0 0 W H).y0) ((cutR a b c d 0 0 W H).x1) ((cutR a b c d 0 0 W H).y1) s).y0) ((sclR ((cutR a b c d 0 0 W H).x0) ((cutR a b c d 0 0 W H).y0) ((cutR a b c d 0 0 W H).x1) ((cutR a b c d 0 0 W H).y1) s).x1) ((sclR ((cutR a b c d 0 0 W H).x0) ((cutR a b c d 0 0 W H).y0) ((cutR a b c d 0 0 W H).x1) ((cutR a b c d 0 0 W H).y1) s).y1) X Y).y0), iq ((movR ((sclR ((cutR a b c d 0 0 W H).x0) ((cutR a b c d 0 0 W H).y0) ((cutR a b c d 0 0 W H).x1) ((cutR a b c d 0 0 W H).y1) s).x0) ((sclR ((cutR a b c d 0 0 W H).x0) ((cutR a b c d 0 0 W H).y0) ((cutR a b c d 0 0 W H).x1) ((cutR a b c d 0 0 W H).y1) s).y0) ((sclR ((cutR a b c d 0 0 W H).x0) ((cutR a b c d 0 0 W H).y0) ((cutR a b c d 0 0 W H).x1) ((cutR a b c d 0 0 W H).y1) s).x1) ((sclR ((cutR a b c d 0 0 W H).x0) ((cutR a b c d 0 0 W H).y0) ((cutR a b c d 0 0 W H).x1) ((cutR a b c d 0 0 W H).y1) s).y1) X Y).x1), iq ((movR ((sclR ((cutR a b c d 0 0 W H).x0) ((cutR a b c d 0 0 W H).y0) ((cutR a b c d 0 0 W H).x1) ((cutR a b c d 0 0 W H).y1) s).x0) ((sclR ((cutR a b c d 0 0 W H).x0) ((cutR a b c d 0 0 W H).y0) ((cutR a b c d 0 0 W H).x1) ((cutR a b c d 0 0 W H).y1) s).y0) ((sclR ((cutR a b c d 0 0 W H).x0) ((cutR a b c d 0 0 W H).y0) ((cutR a b c d 0 0 W H).x1) ((cutR a b c d 0 0 W H).y1) s).x1) ((sclR ((cutR a b c d 0 0 W H).x0) ((cutR a b c d 0 0 W H).y0) ((cutR a b c d 0 0 W H).x1) ((cutR a b c d 0 0 W H).y1) s).y1) X Y).y1)]) (.bool ((movE ((sclR ((cutR a b c d 0 0 W H).x0) ((cutR a b c d 0 0 W H).y0) ((cutR a b c d 0 0 W H).x1) ((cutR a b c d 0 0 W H).y1) s).x0) ((sclR ((cutR a b c d 0 0 W H).x0) ((cutR a b c d 0 0 W H).y0) ((cutR a b c d 0 0 W H).x1) ((cutR a b c d 0 0 W H).y1) s).y0) ((sclR ((cutR a b c d 0 0 W H).x0) ((cutR a b c d 0 0 W H).y0) ((cutR a b c d 0 0 W H).x1) ((cutR a b c d 0 0 W H).y1) s).x1) ((sclR ((cutR a b c d 0 0 W H).x0) ((cutR a b c d 0 0 W H).y0) ((cutR a b c d 0 0 W H).x1) ((cutR a b c d 0 0 W H).y1) s).y1) X Y) == 0)) (by kernel_rfl) (by kernel_rfl) (by kernel_rfl) (by kernel_rfl) (fun w hT => ?_)
  exact ⟨by simp [shwR, shwB, *], hT.post rfl⟩
 refine call_pure (d := 10) (.agg #[iq 0, iq 0, iq W, iq H]) (by kernel_rfl) (fun w hT => imgBox m W H r n cap px  w ⟨hT.ok 3 _ rfl, hT.ok 4 _ rfl, by omega⟩ hok) ?_
 refine drawn_next 0 [1] (by kernel_rfl) ?_
 refine drawn_one 0 2 rfl (by kernel_rfl) ?_
 refine one_step 1 [(2, .pointer (pB b1)), (3, .pointer (pB b2)), (4, .pointer (pB b3)), (7, .agg #[iq a, iq b, iq c, iq d]), (10, .agg #[iq 0, iq 0, iq W, iq H])] [.cells b3 [iq 0, iq 0, iq 0, iq 0] 53 true, .cells b2 [iq a, iq b, iq c, iq d] 53 true, .cells b1 [.pointer (pB m), iq X, iq Y, iq s, iq al, iq ca, iq cb, iq cc, iq cd] 106 true, .ro m [iq W, iq H, .slice (pB r) n cap] 118, .gen (rdE (pB r) r 0 n 1 (ivals .u32 px))] (by kernel_rfl) (by kernel_rfl) ?_
 refine drawn_next 0 [1] (by kernel_rfl) ?_
 refine drawn_one 4 1 rfl (by kernel_rfl) ?_
 refine call_pure (d := 11) (.agg #[iq ((cutR a b c d 0 0 W H).x0), iq ((cutR a b c d 0 0 W H).y0), iq ((cutR a b c d 0 0 W H).x1), iq ((cutR a b c d 0 0 W H).y1)]) (by kernel_rfl) (fun w hT => rectCut a b c d 0 0 W H w) ?_
 refine drawn_next 0 [1] (by kernel_rfl) ?_
 refine drawn_one 5 0 rfl (by kernel_rfl) ?_
 refine one_step 1 [(2, .pointer (pB b1)), (3, .pointer (pB b2)), (4, .pointer (pB b3))] [.cells b3 [iq 0, iq 0, iq 0, iq 0] 53 true, .cells b2 [iq ((cutR a b c d 0 0 W H).x0), iq ((cutR a b c d 0 0 W H).y0), iq ((cutR a b c d 0 0 W H).x1), iq ((cutR a b c d 0 0 W H).y1)] 53 true, .cells b1 [.pointer (pB m), iq X, iq Y, iq s, iq al, iq ca, iq cb, iq cc, iq cd] 106 true, .ro m [iq W, iq H, .slice (pB r) n cap] 118, .gen (rdE (pB r) r 0 n 1 (ivals .u32 px))] (by kernel_rfl) (by kernel_rfl) ?_
 refine drawn_next 0 [1] (by kernel_rfl) ?_
 refine drawn_done (by kernel_rfl) ?_
 refine then_normal ?_
 refine cont_seq ?_
 refine cont_seq ?_
 refine cont_region 2 rfl ?_
 refine bS [1] 1 1 [(2, .pointer (pB b1)), (3, .pointer (pB b2)), (4, .pointer (pB b3)), (12, .agg #[iq ((cutR a b c d 0 0 W H).x0), iq ((cutR a b c d 0 0 W H).y0), iq ((cutR a b c d 0 0 W H).x1), iq ((cutR a b c d 0 0 W H).y1)])] ?_
 refine pl_step 2 0 rfl rfl ?_
 refine call_pure (d := 13) (.bool (emptyB ((cutR a b c d 0 0 W H).x0) ((cutR a b c d 0 0 W H).y0) ((cutR a b c d 0 0 W H).x1) ((cutR a b c d 0 0 W H).y1))) (by kernel_rfl) (fun w hT => rectEmpty ((cutR a b c d 0 0 W H).x0) ((cutR a b c d 0 0 W H).y0) ((cutR a b c d 0 0 W H).x1) ((cutR a b c d 0 0 W H).y1) w) ?_
 refine cont_done ?_
 refine then_normal ?_
 refine cont_split 13 (emptyB ((cutR a b c d 0 0 W H).x0) ((cutR a b c d 0 0 W H).y0) ((cutR a b c d 0 0 W H).x1) ((cutR a b c d 0 0 W H).y1)) rfl (fun c6_ => ?_) (fun c6_ => ?_)
 ·
  refine cont_true rfl ?_
  refine cont_seq ?_
  refine cont_region 3 rfl ?_
  refine bS [0, 0, 0] 3 0 [(4, .pointer (pB b3)), (5, .bool true)] ?_
  refine cont_forget 1 rfl ?_
  refine cont_forget 1 rfl ?_
  refine cont_done ?_
  refine then_normal ?_
  refine cont_ret ?_
  refine then_ret ?_
  refine ret_two (.inl rfl) rfl 0 0 (.agg #[iq 0, iq 0, iq 0, iq 0]) (.bool true) (by kernel_rfl) (by kernel_rfl) (by kernel_rfl) (by kernel_rfl) (fun w hT => ?_)
  exact ⟨by simp [shwR, shwB, *], hT.post rfl⟩
 refine cont_false rfl ?_
 refine cont_skip ?_
 refine then_normal ?_
 refine cont_seq ?_
 refine cont_region 9 rfl ?_
 refine bS [1, 0, 2] 3 6 [(2, .pointer (pB b1)), (3, .pointer (pB b2)), (4, .pointer (pB b3)), (16, .agg #[iq ((cutR a b c d 0 0 W H).x0), iq ((cutR a b c d 0 0 W H).y0), iq ((cutR a b c d 0 0 W H).x1), iq ((cutR a b c d 0 0 W H).y1)]), (18, iq s)] ?_
 refine pl_step 4 5 rfl rfl ?_
 refine call_pure (d := 19) (.tuple #[.agg #[iq ((sclR ((cutR a b c d 0 0 W H).x0) ((cutR a b c d 0 0 W H).y0) ((cutR a b c d 0 0 W H).x1) ((cutR a b c d 0 0 W H).y1) s).x0), iq ((sclR ((cutR a b c d 0 0 W H).x0) ((cutR a b c d 0 0 W H).y0) ((cutR a b c d 0 0 W H).x1) ((cutR a b c d 0 0 W H).y1) s).y0), iq ((sclR ((cutR a b c d 0 0 W H).x0) ((cutR a b c d 0 0 W H).y0) ((cutR a b c d 0 0 W H).x1) ((cutR a b c d 0 0 W H).y1) s).x1), iq ((sclR ((cutR a b c d 0 0 W H).x0) ((cutR a b c d 0 0 W H).y0) ((cutR a b c d 0 0 W H).x1) ((cutR a b c d 0 0 W H).y1) s).y1)], iq (sclE ((cutR a b c d 0 0 W H).x0) ((cutR a b c d 0 0 W H).y0) ((cutR a b c d 0 0 W H).x1) ((cutR a b c d 0 0 W H).y1) s)]) (by kernel_rfl) (fun w hT => rectScl ((cutR a b c d 0 0 W H).x0) ((cutR a b c d 0 0 W H).y0) ((cutR a b c d 0 0 W H).x1) ((cutR a b c d 0 0 W H).y1) s w) ?_
 refine batch0 [0, 0, 0, 1, 0] 9 0 [(2, .pointer (pB b1)), (3, .pointer (pB b2)), (4, .pointer (pB b3)), (6, iq (sclE ((cutR a b c d 0 0 W H).x0) ((cutR a b c d 0 0 W H).y0) ((cutR a b c d 0 0 W H).x1) ((cutR a b c d 0 0 W H).y1) s))] [.cells b3 [iq 0, iq 0, iq 0, iq 0] 53 true, .cells b2 [iq ((sclR ((cutR a b c d 0 0 W H).x0) ((cutR a b c d 0 0 W H).y0) ((cutR a b c d 0 0 W H).x1) ((cutR a b c d 0 0 W H).y1) s).x0), iq ((sclR ((cutR a b c d 0 0 W H).x0) ((cutR a b c d 0 0 W H).y0) ((cutR a b c d 0 0 W H).x1) ((cutR a b c d 0 0 W H).y1) s).y0), iq ((sclR ((cutR a b c d 0 0 W H).x0) ((cutR a b c d 0 0 W H).y0) ((cutR a b c d 0 0 W H).x1) ((cutR a b c d 0 0 W H).y1) s).x1), iq ((sclR ((cutR a b c d 0 0 W H).x0) ((cutR a b c d 0 0 W H).y0) ((cutR a b c d 0 0 W H).x1) ((cutR a b c d 0 0 W H).y1) s).y1)] 53 true, .cells b1 [.pointer (pB m), iq X, iq Y, iq s, iq al, iq ca, iq cb, iq cc, iq cd] 106 true, .ro m [iq W, iq H, .slice (pB r) n cap] 118, .gen (rdE (pB r) r 0 n 1 (ivals .u32 px))] rfl rfl (by kernel_rfl) (by kernel_rfl) ?_
 refine cont_done ?_
 refine then_normal ?_
 refine cont_seq ?_
 refine cont_seq ?_
 refine cont_region 2 rfl ?_
 refine bS [0, 0] 2 0 [(2, .pointer (pB b1)), (3, .pointer (pB b2)), (4, .pointer (pB b3)), (23, .bool ((sclE ((cutR a b c d 0 0 W H).x0) ((cutR a b c d 0 0 W H).y0) ((cutR a b c d 0 0 W H).x1) ((cutR a b c d 0 0 W H).y1) s) != 0))] ?_
 refine cont_done ?_
 refine then_normal ?_
 refine cont_split 23 ((sclE ((cutR a b c d 0 0 W H).x0) ((cutR a b c d 0 0 W H).y0) ((cutR a b c d 0 0 W H).x1) ((cutR a b c d 0 0 W H).y1) s) != 0) rfl (fun c7_ => ?_) (fun c7_ => ?_)
 ·
  replace c7_ := ne_of_bne c7_
  refine cont_true rfl ?_
  refine cont_seq ?_
  refine cont_region 3 rfl ?_
  refine bS [0, 0, 0] 3 0 [(4, .pointer (pB b3)), (5, .bool false)] ?_
  refine cont_forget 1 rfl ?_
  refine cont_forget 1 rfl ?_
  refine cont_done ?_
  refine then_normal ?_
  refine cont_ret ?_
  refine then_ret ?_
  refine ret_two (.inl rfl) rfl 0 0 (.agg #[iq 0, iq 0, iq 0, iq 0]) (.bool false) (by kernel_rfl) (by kernel_rfl) (by kernel_rfl) (by kernel_rfl) (fun w hT => ?_)
  exact ⟨by simp [shwR, shwB, *], hT.post rfl⟩
 replace c7_ := eq_of_bne_false c7_
 refine cont_false rfl ?_
 refine cont_skip ?_
 refine then_normal ?_
 refine cont_seq ?_
 refine cont_region 13 rfl ?_
 have hsr := sclR_range (cutR a b c d 0 0 W H).x0 (cutR a b c d 0 0 W H).y0 (cutR a b c d 0 0 W H).x1 (cutR a b c d 0 0 W H).y1 s
 refine bS [1, 0, 0, 2, 0, 0, 2] 7 6 [(3, .pointer (pB b2)), (4, .pointer (pB b3)), (26, .agg #[iq ((sclR ((cutR a b c d 0 0 W H).x0) ((cutR a b c d 0 0 W H).y0) ((cutR a b c d 0 0 W H).x1) ((cutR a b c d 0 0 W H).y1) s).x0), iq ((sclR ((cutR a b c d 0 0 W H).x0) ((cutR a b c d 0 0 W H).y0) ((cutR a b c d 0 0 W H).x1) ((cutR a b c d 0 0 W H).y1) s).y0), iq ((sclR ((cutR a b c d 0 0 W H).x0) ((cutR a b c d 0 0 W H).y0) ((cutR a b c d 0 0 W H).x1) ((cutR a b c d 0 0 W H).y1) s).x1), iq ((sclR ((cutR a b c d 0 0 W H).x0) ((cutR a b c d 0 0 W H).y0) ((cutR a b c d 0 0 W H).x1) ((cutR a b c d 0 0 W H).y1) s).y1)]), (29, iq X), (32, iq Y)] ?_
 refine cont_forget 2 rfl ?_
 refine pl_step 8 5 rfl rfl ?_
 refine call_pure (d := 33) (.tuple #[.agg #[iq ((movR ((sclR ((cutR a b c d 0 0 W H).x0) ((cutR a b c d 0 0 W H).y0) ((cutR a b c d 0 0 W H).x1) ((cutR a b c d 0 0 W H).y1) s).x0) ((sclR ((cutR a b c d 0 0 W H).x0) ((cutR a b c d 0 0 W H).y0) ((cutR a b c d 0 0 W H).x1) ((cutR a b c d 0 0 W H).y1) s).y0) ((sclR ((cutR a b c d 0 0 W H).x0) ((cutR a b c d 0 0 W H).y0) ((cutR a b c d 0 0 W H).x1) ((cutR a b c d 0 0 W H).y1) s).x1) ((sclR ((cutR a b c d 0 0 W H).x0) ((cutR a b c d 0 0 W H).y0) ((cutR a b c d 0 0 W H).x1) ((cutR a b c d 0 0 W H).y1) s).y1) X Y).x0), iq ((movR ((sclR ((cutR a b c d 0 0 W H).x0) ((cutR a b c d 0 0 W H).y0) ((cutR a b c d 0 0 W H).x1) ((cutR a b c d 0 0 W H).y1) s).x0) ((sclR ((cutR a b c d 0 0 W H).x0) ((cutR a b c d 0 0 W H).y0) ((cutR a b c d 0 0 W H).x1) ((cutR a b c d 0 0 W H).y1) s).y0) ((sclR ((cutR a b c d 0 0 W H).x0) ((cutR a b c d 0 0 W H).y0) ((cutR a b c d 0 0 W H).x1) ((cutR a b c d 0 0 W H).y1) s).x1) ((sclR ((cutR a b c d 0 0 W H).x0) ((cutR a b c d 0 0 W H).y0) ((cutR a b c d 0 0 W H).x1) ((cutR a b c d 0 0 W H).y1) s).y1) X Y).y0), iq ((movR ((sclR ((cutR a b c d 0 0 W H).x0) ((cutR a b c d 0 0 W H).y0) ((cutR a b c d 0 0 W H).x1) ((cutR a b c d 0 0 W H).y1) s).x0) ((sclR ((cutR a b c d 0 0 W H).x0) ((cutR a b c d 0 0 W H).y0) ((cutR a b c d 0 0 W H).x1) ((cutR a b c d 0 0 W H).y1) s).y0) ((sclR ((cutR a b c d 0 0 W H).x0) ((cutR a b c d 0 0 W H).y0) ((cutR a b c d 0 0 W H).x1) ((cutR a b c d 0 0 W H).y1) s).x1) ((sclR ((cutR a b c d 0 0 W H).x0) ((cutR a b c d 0 0 W H).y0) ((cutR a b c d 0 0 W H).x1) ((cutR a b c d 0 0 W H).y1) s).y1) X Y).x1), iq ((movR ((sclR ((cutR a b c d 0 0 W H).x0) ((cutR a b c d 0 0 W H).y0) ((cutR a b c d 0 0 W H).x1) ((cutR a b c d 0 0 W H).y1) s).x0) ((sclR ((cutR a b c d 0 0 W H).x0) ((cutR a b c d 0 0 W H).y0) ((cutR a b c d 0 0 W H).x1) ((cutR a b c d 0 0 W H).y1) s).y0) ((sclR ((cutR a b c d 0 0 W H).x0) ((cutR a b c d 0 0 W H).y0) ((cutR a b c d 0 0 W H).x1) ((cutR a b c d 0 0 W H).y1) s).x1) ((sclR ((cutR a b c d 0 0 W H).x0) ((cutR a b c d 0 0 W H).y0) ((cutR a b c d 0 0 W H).x1) ((cutR a b c d 0 0 W H).y1) s).y1) X Y).y1)], iq (movE ((sclR ((cutR a b c d 0 0 W H).x0) ((cutR a b c d 0 0 W H).y0) ((cutR a b c d 0 0 W H).x1) ((cutR a b c d 0 0 W H).y1) s).x0) ((sclR ((cutR a b c d 0 0 W H).x0) ((cutR a b c d 0 0 W H).y0) ((cutR a b c d 0 0 W H).x1) ((cutR a b c d 0 0 W H).y1) s).y0) ((sclR ((cutR a b c d 0 0 W H).x0) ((cutR a b c d 0 0 W H).y0) ((cutR a b c d 0 0 W H).x1) ((cutR a b c d 0 0 W H).y1) s).x1) ((sclR ((cutR a b c d 0 0 W H).x0) ((cutR a b c d 0 0 W H).y0) ((cutR a b c d 0 0 W H).x1) ((cutR a b c d 0 0 W H).y1) s).y1) X Y)]) (by kernel_rfl) (fun w hT => rectMov ((sclR ((cutR a b c d 0 0 W H).x0) ((cutR a b c d 0 0 W H).y0) ((cutR a b c d 0 0 W H).x1) ((cutR a b c d 0 0 W H).y1) s).x0) ((sclR ((cutR a b c d 0 0 W H).x0) ((cutR a b c d 0 0 W H).y0) ((cutR a b c d 0 0 W H).x1) ((cutR a b c d 0 0 W H).y1) s).y0) ((sclR ((cutR a b c d 0 0 W H).x0) ((cutR a b c d 0 0 W H).y0) ((cutR a b c d 0 0 W H).x1) ((cutR a b c d 0 0 W H).y1) s).x1) ((sclR ((cutR a b c d 0 0 W H).x0) ((cutR a b c d 0 0 W H).y0) ((cutR a b c d 0 0 W H).x1) ((cutR a b c d 0 0 W H).y1) s).y1) X Y w (by omega) (by omega) (by omega) (by omega)) ?_
 refine batch0 [0, 0, 0, 1, 0] 13 0 [(3, .pointer (pB b2)), (4, .pointer (pB b3)), (6, iq (movE ((sclR ((cutR a b c d 0 0 W H).x0) ((cutR a b c d 0 0 W H).y0) ((cutR a b c d 0 0 W H).x1) ((cutR a b c d 0 0 W H).y1) s).x0) ((sclR ((cutR a b c d 0 0 W H).x0) ((cutR a b c d 0 0 W H).y0) ((cutR a b c d 0 0 W H).x1) ((cutR a b c d 0 0 W H).y1) s).y0) ((sclR ((cutR a b c d 0 0 W H).x0) ((cutR a b c d 0 0 W H).y0) ((cutR a b c d 0 0 W H).x1) ((cutR a b c d 0 0 W H).y1) s).x1) ((sclR ((cutR a b c d 0 0 W H).x0) ((cutR a b c d 0 0 W H).y0) ((cutR a b c d 0 0 W H).x1) ((cutR a b c d 0 0 W H).y1) s).y1) X Y))] [.cells b3 [iq 0, iq 0, iq 0, iq 0] 53 true, .cells b2 [iq ((movR ((sclR ((cutR a b c d 0 0 W H).x0) ((cutR a b c d 0 0 W H).y0) ((cutR a b c d 0 0 W H).x1) ((cutR a b c d 0 0 W H).y1) s).x0) ((sclR ((cutR a b c d 0 0 W H).x0) ((cutR a b c d 0 0 W H).y0) ((cutR a b c d 0 0 W H).x1) ((cutR a b c d 0 0 W H).y1) s).y0) ((sclR ((cutR a b c d 0 0 W H).x0) ((cutR a b c d 0 0 W H).y0) ((cutR a b c d 0 0 W H).x1) ((cutR a b c d 0 0 W H).y1) s).x1) ((sclR ((cutR a b c d 0 0 W H).x0) ((cutR a b c d 0 0 W H).y0) ((cutR a b c d 0 0 W H).x1) ((cutR a b c d 0 0 W H).y1) s).y1) X Y).x0), iq ((movR ((sclR ((cutR a b c d 0 0 W H).x0) ((cutR a b c d 0 0 W H).y0) ((cutR a b c d 0 0 W H).x1) ((cutR a b c d 0 0 W H).y1) s).x0) ((sclR ((cutR a b c d 0 0 W H).x0) ((cutR a b c d 0 0 W H).y0) ((cutR a b c d 0 0 W H).x1) ((cutR a b c d 0 0 W H).y1) s).y0) ((sclR ((cutR a b c d 0 0 W H).x0) ((cutR a b c d 0 0 W H).y0) ((cutR a b c d 0 0 W H).x1) ((cutR a b c d 0 0 W H).y1) s).x1) ((sclR ((cutR a b c d 0 0 W H).x0) ((cutR a b c d 0 0 W H).y0) ((cutR a b c d 0 0 W H).x1) ((cutR a b c d 0 0 W H).y1) s).y1) X Y).y0), iq ((movR ((sclR ((cutR a b c d 0 0 W H).x0) ((cutR a b c d 0 0 W H).y0) ((cutR a b c d 0 0 W H).x1) ((cutR a b c d 0 0 W H).y1) s).x0) ((sclR ((cutR a b c d 0 0 W H).x0) ((cutR a b c d 0 0 W H).y0) ((cutR a b c d 0 0 W H).x1) ((cutR a b c d 0 0 W H).y1) s).y0) ((sclR ((cutR a b c d 0 0 W H).x0) ((cutR a b c d 0 0 W H).y0) ((cutR a b c d 0 0 W H).x1) ((cutR a b c d 0 0 W H).y1) s).x1) ((sclR ((cutR a b c d 0 0 W H).x0) ((cutR a b c d 0 0 W H).y0) ((cutR a b c d 0 0 W H).x1) ((cutR a b c d 0 0 W H).y1) s).y1) X Y).x1), iq ((movR ((sclR ((cutR a b c d 0 0 W H).x0) ((cutR a b c d 0 0 W H).y0) ((cutR a b c d 0 0 W H).x1) ((cutR a b c d 0 0 W H).y1) s).x0) ((sclR ((cutR a b c d 0 0 W H).x0) ((cutR a b c d 0 0 W H).y0) ((cutR a b c d 0 0 W H).x1) ((cutR a b c d 0 0 W H).y1) s).y0) ((sclR ((cutR a b c d 0 0 W H).x0) ((cutR a b c d 0 0 W H).y0) ((cutR a b c d 0 0 W H).x1) ((cutR a b c d 0 0 W H).y1) s).x1) ((sclR ((cutR a b c d 0 0 W H).x0) ((cutR a b c d 0 0 W H).y0) ((cutR a b c d 0 0 W H).x1) ((cutR a b c d 0 0 W H).y1) s).y1) X Y).y1)] 53 true, .ro m [iq W, iq H, .slice (pB r) n cap] 118, .gen (rdE (pB r) r 0 n 1 (ivals .u32 px))] rfl rfl (by kernel_rfl) (by kernel_rfl) ?_
 refine cont_done ?_
 refine then_normal ?_
 refine cont_seq ?_
 refine cont_region 5 rfl ?_
 refine batch0 [1, 0, 0, 0, 0] 5 0 [(4, .pointer (pB b3)), (5, .bool ((movE ((sclR ((cutR a b c d 0 0 W H).x0) ((cutR a b c d 0 0 W H).y0) ((cutR a b c d 0 0 W H).x1) ((cutR a b c d 0 0 W H).y1) s).x0) ((sclR ((cutR a b c d 0 0 W H).x0) ((cutR a b c d 0 0 W H).y0) ((cutR a b c d 0 0 W H).x1) ((cutR a b c d 0 0 W H).y1) s).y0) ((sclR ((cutR a b c d 0 0 W H).x0) ((cutR a b c d 0 0 W H).y0) ((cutR a b c d 0 0 W H).x1) ((cutR a b c d 0 0 W H).y1) s).x1) ((sclR ((cutR a b c d 0 0 W H).x0) ((cutR a b c d 0 0 W H).y0) ((cutR a b c d 0 0 W H).x1) ((cutR a b c d 0 0 W H).y1) s).y1) X Y) == 0))] [.cells b3 [iq ((movR ((sclR ((cutR a b c d 0 0 W H).x0) ((cutR a b c d 0 0 W H).y0) ((cutR a b c d 0 0 W H).x1) ((cutR a b c d 0 0 W H).y1) s).x0) ((sclR ((cutR a b c d 0 0 W H).x0) ((cutR a b c d 0 0 W H).y0) ((cutR a b c d 0 0 W H).x1) ((cutR a b c d 0 0 W H).y1) s).y0) ((sclR ((cutR a b c d 0 0 W H).x0) ((cutR a b c d 0 0 W H).y0) ((cutR a b c d 0 0 W H).x1) ((cutR a b c d 0 0 W H).y1) s).x1) ((sclR ((cutR a b c d 0 0 W H).x0) ((cutR a b c d 0 0 W H).y0) ((cutR a b c d 0 0 W H).x1) ((cutR a b c d 0 0 W H).y1) s).y1) X Y).x0), iq ((movR ((sclR ((cutR a b c d 0 0 W H).x0) ((cutR a b c d 0 0 W H).y0) ((cutR a b c d 0 0 W H).x1) ((cutR a b c d 0 0 W H).y1) s).x0) ((sclR ((cutR a b c d 0 0 W H).x0) ((cutR a b c d 0 0 W H).y0) ((cutR a b c d 0 0 W H).x1) ((cutR a b c d 0 0 W H).y1) s).y0) ((sclR ((cutR a b c d 0 0 W H).x0) ((cutR a b c d 0 0 W H).y0) ((cutR a b c d 0 0 W H).x1) ((cutR a b c d 0 0 W H).y1) s).x1) ((sclR ((cutR a b c d 0 0 W H).x0) ((cutR a b c d 0 0 W H).y0) ((cutR a b c d 0 0 W H).x1) ((cutR a b c d 0 0 W H).y1) s).y1) X Y).y0), iq ((movR ((sclR ((cutR a b c d 0 0 W H).x0) ((cutR a b c d 0 0 W H).y0) ((cutR a b c d 0 0 W H).x1) ((cutR a b c d 0 0 W H).y1) s).x0) ((sclR ((cutR a b c d 0 0 W H).x0) ((cutR a b c d 0 0 W H).y0) ((cutR a b c d 0 0 W H).x1) ((cutR a b c d 0 0 W H).y1) s).y0) ((sclR ((cutR a b c d 0 0 W H).x0) ((cutR a b c d 0 0 W H).y0) ((cutR a b c d 0 0 W H).x1) ((cutR a b c d 0 0 W H).y1) s).x1) ((sclR ((cutR a b c d 0 0 W H).x0) ((cutR a b c d 0 0 W H).y0) ((cutR a b c d 0 0 W H).x1) ((cutR a b c d 0 0 W H).y1) s).y1) X Y).x1), iq ((movR ((sclR ((cutR a b c d 0 0 W H).x0) ((cutR a b c d 0 0 W H).y0) ((cutR a b c d 0 0 W H).x1) ((cutR a b c d 0 0 W H).y1) s).x0) ((sclR ((cutR a b c d 0 0 W H).x0) ((cutR a b c d 0 0 W H).y0) ((cutR a b c d 0 0 W H).x1) ((cutR a b c d 0 0 W H).y1) s).y0) ((sclR ((cutR a b c d 0 0 W H).x0) ((cutR a b c d 0 0 W H).y0) ((cutR a b c d 0 0 W H).x1) ((cutR a b c d 0 0 W H).y1) s).x1) ((sclR ((cutR a b c d 0 0 W H).x0) ((cutR a b c d 0 0 W H).y0) ((cutR a b c d 0 0 W H).x1) ((cutR a b c d 0 0 W H).y1) s).y1) X Y).y1)] 53 true, .cells b2 [iq ((movR ((sclR ((cutR a b c d 0 0 W H).x0) ((cutR a b c d 0 0 W H).y0) ((cutR a b c d 0 0 W H).x1) ((cutR a b c d 0 0 W H).y1) s).x0) ((sclR ((cutR a b c d 0 0 W H).x0) ((cutR a b c d 0 0 W H).y0) ((cutR a b c d 0 0 W H).x1) ((cutR a b c d 0 0 W H).y1) s).y0) ((sclR ((cutR a b c d 0 0 W H).x0) ((cutR a b c d 0 0 W H).y0) ((cutR a b c d 0 0 W H).x1) ((cutR a b c d 0 0 W H).y1) s).x1) ((sclR ((cutR a b c d 0 0 W H).x0) ((cutR a b c d 0 0 W H).y0) ((cutR a b c d 0 0 W H).x1) ((cutR a b c d 0 0 W H).y1) s).y1) X Y).x0), iq ((movR ((sclR ((cutR a b c d 0 0 W H).x0) ((cutR a b c d 0 0 W H).y0) ((cutR a b c d 0 0 W H).x1) ((cutR a b c d 0 0 W H).y1) s).x0) ((sclR ((cutR a b c d 0 0 W H).x0) ((cutR a b c d 0 0 W H).y0) ((cutR a b c d 0 0 W H).x1) ((cutR a b c d 0 0 W H).y1) s).y0) ((sclR ((cutR a b c d 0 0 W H).x0) ((cutR a b c d 0 0 W H).y0) ((cutR a b c d 0 0 W H).x1) ((cutR a b c d 0 0 W H).y1) s).x1) ((sclR ((cutR a b c d 0 0 W H).x0) ((cutR a b c d 0 0 W H).y0) ((cutR a b c d 0 0 W H).x1) ((cutR a b c d 0 0 W H).y1) s).y1) X Y).y0), iq ((movR ((sclR ((cutR a b c d 0 0 W H).x0) ((cutR a b c d 0 0 W H).y0) ((cutR a b c d 0 0 W H).x1) ((cutR a b c d 0 0 W H).y1) s).x0) ((sclR ((cutR a b c d 0 0 W H).x0) ((cutR a b c d 0 0 W H).y0) ((cutR a b c d 0 0 W H).x1) ((cutR a b c d 0 0 W H).y1) s).y0) ((sclR ((cutR a b c d 0 0 W H).x0) ((cutR a b c d 0 0 W H).y0) ((cutR a b c d 0 0 W H).x1) ((cutR a b c d 0 0 W H).y1) s).x1) ((sclR ((cutR a b c d 0 0 W H).x0) ((cutR a b c d 0 0 W H).y0) ((cutR a b c d 0 0 W H).x1) ((cutR a b c d 0 0 W H).y1) s).y1) X Y).x1), iq ((movR ((sclR ((cutR a b c d 0 0 W H).x0) ((cutR a b c d 0 0 W H).y0) ((cutR a b c d 0 0 W H).x1) ((cutR a b c d 0 0 W H).y1) s).x0) ((sclR ((cutR a b c d 0 0 W H).x0) ((cutR a b c d 0 0 W H).y0) ((cutR a b c d 0 0 W H).x1) ((cutR a b c d 0 0 W H).y1) s).y0) ((sclR ((cutR a b c d 0 0 W H).x0) ((cutR a b c d 0 0 W H).y0) ((cutR a b c d 0 0 W H).x1) ((cutR a b c d 0 0 W H).y1) s).x1) ((sclR ((cutR a b c d 0 0 W H).x0) ((cutR a b c d 0 0 W H).y0) ((cutR a b c d 0 0 W H).x1) ((cutR a b c d 0 0 W H).y1) s).y1) X Y).y1)] 53 true, .ro m [iq W, iq H, .slice (pB r) n cap] 118, .gen (rdE (pB r) r 0 n 1 (ivals .u32 px))] rfl rfl (by kernel_rfl) (by kernel_rfl) ?_
 refine cont_forget 1 rfl ?_
 refine cont_done ?_
 refine then_normal ?_
 refine cont_ret ?_
 refine ret_two (.inl rfl) rfl 0 0 (.agg #[iq ((movR ((sclR ((cutR a b c d 0 0 W H).x0) ((cutR a b c d 0 0 W H).y0) ((cutR a b c d 0 0 W H).x1) ((cutR a b c d 0 0 W H).y1) s).x0) ((sclR ((cutR a b c d 0 0 W H).x0) ((cutR a b c d 0 0 W H).y0) ((cutR a b c d 0 0 W H).x1) ((cutR a b c d 0 0 W H).y1) s).y0) ((sclR ((cutR a b c d 0 0 W H).x0) ((cutR a b c d 0 0 W H).y0) ((cutR a b c d 0 0 W H).x1) ((cutR a b c d 0 0 W H).y1) s).x1) ((sclR ((cutR a b c d 0 0 W H).x0) ((cutR a b c d 0 0 W H).y0) ((cutR a b c d 0 0 W H).x1) ((cutR a b c d 0 0 W H).y1) s).y1) X Y).x0), iq ((movR ((sclR ((cutR a b c d 0 0 W H).x0) ((cutR a b c d 0 0 W H).y0) ((cutR a b c d 0 0 W H).x1) ((cutR a b c d 0 0 W H).y1) s).x0) ((sclR ((cutR a b c d 0 0 W H).x0) ((cutR a b c d 0 0 W H).y0) ((cutR a b c d 0 0 W H).x1) ((cutR a b c d 0 0 W H).y1) s).y0) ((sclR ((cutR a b c d 0 0 W H).x0) ((cutR a b c d 0 0 W H).y0) ((cutR a b c d 0 0 W H).x1) ((cutR a b c d 0 0 W H).y1) s).x1) ((sclR ((cutR a b c d 0 0 W H).x0) ((cutR a b c d 0 0 W H).y0) ((cutR a b c d 0 0 W H).x1) ((cutR a b c d 0 0 W H).y1) s).y1) X Y).y0), iq ((movR ((sclR ((cutR a b c d 0 0 W H).x0) ((cutR a b c d 0 0 W H).y0) ((cutR a b c d 0 0 W H).x1) ((cutR a b c d 0 0 W H).y1) s).x0) ((sclR ((cutR a b c d 0 0 W H).x0) ((cutR a b c d 0 0 W H).y0) ((cutR a b c d 0 0 W H).x1) ((cutR a b c d 0 0 W H).y1) s).y0) ((sclR ((cutR a b c d 0 0 W H).x0) ((cutR a b c d 0 0 W H).y0) ((cutR a b c d 0 0 W H).x1) ((cutR a b c d 0 0 W H).y1) s).x1) ((sclR ((cutR a b c d 0 0 W H).x0) ((cutR a b c d 0 0 W H).y0) ((cutR a b c d 0 0 W H).x1) ((cutR a b c d 0 0 W H).y1) s).y1) X Y).x1), iq ((movR ((sclR ((cutR a b c d 0 0 W H).x0) ((cutR a b c d 0 0 W H).y0) ((cutR a b c d 0 0 W H).x1) ((cutR a b c d 0 0 W H).y1) s).x0) ((sclR ((cutR a b c d 0 0 W H).x0) ((cutR a b c d 0 0 W H).y0) ((cutR a b c d 0 0 W H).x1) ((cutR a b c d 0 0 W H).y1) s).y0) ((sclR ((cutR a b c d 0 0 W H).x0) ((cutR a b c d 0 0 W H).y0) ((cutR a b c d 0 0 W H).x1) ((cutR a b c d 0 0 W H).y1) s).x1) ((sclR ((cutR a b c d 0 0 W H).x0) ((cutR a b c d 0 0 W H).y0) ((cutR a b c d 0 0 W H).x1) ((cutR a b c d 0 0 W H).y1) s).y1) X Y).y1)]) (.bool ((movE ((sclR ((cutR a b c d 0 0 W H).x0) ((cutR a b c d 0 0 W H).y0) ((cutR a b c d 0 0 W H).x1) ((cutR a b c d 0 0 W H).y1) s).x0) ((sclR ((cutR a b c d 0 0 W H).x0) ((cutR a b c d 0 0 W H).y0) ((cutR a b c d 0 0 W H).x1) ((cutR a b c d 0 0 W H).y1) s).y0) ((sclR ((cutR a b c d 0 0 W H).x0) ((cutR a b c d 0 0 W H).y0) ((cutR a b c d 0 0 W H).x1) ((cutR a b c d 0 0 W H).y1) s).x1) ((sclR ((cutR a b c d 0 0 W H).x0) ((cutR a b c d 0 0 W H).y0) ((cutR a b c d 0 0 W H).x1) ((cutR a b c d 0 0 W H).y1) s).y1) X Y) == 0)) (by kernel_rfl) (by kernel_rfl) (by kernel_rfl) (by kernel_rfl) (fun w hT => ?_)
 exact ⟨by simp [shwR, shwB, *], hT.post rfl⟩

theorem layBox (m : Nat) (W H : Int) (r n cap : Nat) (px : List Int) (X Y s al ca cb cc cd : Int) (w : World) (hI : ImgR 118 w m W H r n cap px) (hok : ImgOk W H n px) :
    Calls Try.prog 69 #[.agg #[.pointer (some ⟨m, 0, none⟩), .int .i64 X, .int .i64 Y, .int .i64 s, .int .i64 al, .int .i64 ca, .int .i64 cb, .int .i64 cc, .int .i64 cd]] w fun e w' => e = .returned (.agg #[.int .i64 ((shwR W H X Y s ca cb cc cd).x0), .int .i64 ((shwR W H X Y s ca cb cc cd).y0), .int .i64 ((shwR W H X Y s ca cb cc cd).x1), .int .i64 ((shwR W H X Y s ca cb cc cd).y1)]) ∧ Below w.heap.size w w' := by
 have hcap := hI.cap
 refine enter 13 [(0, .agg #[.pointer (pB m), iq X, iq Y, iq s, iq al, iq ca, iq cb, iq cc, iq cd])] [.ro m [iq W, iq H, .slice (pB r) n cap] 118, .gen (rdE (pB r) r 0 n 1 (ivals .u32 px))] Try.func69 rfl Try.ntmps69 rfl (by kernel_rfl) hI.tab ?_
 refine cont_seq ?_
 refine cont_region 2 rfl ?_
 refine batch2 [0, 0] 2 0 (fun b1 b2 => [(1, .pointer (pB b1)), (2, .pointer (pB b2))]) (fun b1 b2 => [.cells b2 [iq 0, iq 0, iq 0, iq 0] 53 true, .cells b1 [.pointer (pB m), iq X, iq Y, iq s, iq al, iq ca, iq cb, iq cc, iq cd] 106 true, .ro m [iq W, iq H, .slice (pB r) n cap] 118, .gen (rdE (pB r) r 0 n 1 (ivals .u32 px))]) rfl rfl [1, 2] (fun _ _ => rfl) (fun b1 b2 => by kernel_rfl) (fun b1 b2 => by kernel_rfl) (fun b1 b2 => ?_)
 refine cont_done ?_
 refine then_normal ?_
 refine cont_seq ?_
 refine cont_region 10 rfl ?_
 refine bS [1, 0, 1] 3 7 [(2, .pointer (pB b2)), (6, .agg #[.pointer (pB m), iq X, iq Y, iq s, iq al, iq ca, iq cb, iq cc, iq cd]), (8, .agg #[iq ca, iq cb, iq cc, iq cd])] ?_
 refine cont_forget 1 rfl ?_
 refine pl_step 4 6 rfl rfl ?_
 refine call_pure (d := 9) (.tuple #[.agg #[iq ((shwR W H X Y s ca cb cc cd).x0), iq ((shwR W H X Y s ca cb cc cd).y0), iq ((shwR W H X Y s ca cb cc cd).x1), iq ((shwR W H X Y s ca cb cc cd).y1)], .bool (shwB W H X Y s ca cb cc cd)]) (by kernel_rfl) (fun w hT => layShown m W H r n cap px X Y s al ca cb cc cd ca cb cc cd w ⟨hT.ok 1 _ rfl, hT.ok 2 _ rfl, by omega⟩ hok) ?_
 refine batch1 [0, 0, 0, 0, 0, 0] 10 0 (fun b3 => [(2, .pointer (pB b2)), (3, .pointer (pB b3))]) (fun b3 => [.cells b3 [iq ((shwR W H X Y s ca cb cc cd).x0), iq ((shwR W H X Y s ca cb cc cd).y0), iq ((shwR W H X Y s ca cb cc cd).x1), iq ((shwR W H X Y s ca cb cc cd).y1)] 53 true, .cells b2 [iq 0, iq 0, iq 0, iq 0] 53 true, .ro m [iq W, iq H, .slice (pB r) n cap] 118, .gen (rdE (pB r) r 0 n 1 (ivals .u32 px))]) rfl rfl [2, 3] (fun _ => rfl) (fun b3 => by kernel_rfl) (fun b3 => by kernel_rfl) (fun b3 => ?_)
 refine cont_done ?_
 refine then_normal ?_
 refine cont_seq ?_
 refine cont_region 2 rfl ?_
 refine batch0 [0, 1] 2 0 [(2, .pointer (pB b2))] [.cells b3 [iq ((shwR W H X Y s ca cb cc cd).x0), iq ((shwR W H X Y s ca cb cc cd).y0), iq ((shwR W H X Y s ca cb cc cd).x1), iq ((shwR W H X Y s ca cb cc cd).y1)] 53 true, .cells b2 [iq ((shwR W H X Y s ca cb cc cd).x0), iq ((shwR W H X Y s ca cb cc cd).y0), iq ((shwR W H X Y s ca cb cc cd).x1), iq ((shwR W H X Y s ca cb cc cd).y1)] 53 true, .ro m [iq W, iq H, .slice (pB r) n cap] 118, .gen (rdE (pB r) r 0 n 1 (ivals .u32 px))] rfl rfl (by kernel_rfl) (by kernel_rfl) ?_
 refine cont_forget 0 rfl ?_
 refine cont_done ?_
 refine then_normal ?_
 refine cont_ret ?_
 refine ret_one (.inl rfl) rfl 0 (.agg #[iq ((shwR W H X Y s ca cb cc cd).x0), iq ((shwR W H X Y s ca cb cc cd).y0), iq ((shwR W H X Y s ca cb cc cd).x1), iq ((shwR W H X Y s ca cb cc cd).y1)]) (by kernel_rfl) (by kernel_rfl) (fun w hT => ?_)
 exact ⟨rfl, hT.post rfl⟩

theorem refEmpty (a b c d : Int) (w : World) :
    Calls Try.prog 88 #[.agg #[.int .i64 a, .int .i64 b, .int .i64 c, .int .i64 d]] w fun e w' => e = .returned (.bool (emptyB a b c d)) ∧ Below w.heap.size w w' := by
 refine enter 15 [(0, .agg #[iq a, iq b, iq c, iq d])] [] Try.func88 rfl Try.ntmps88 rfl (by kernel_rfl) (Tab.start w) ?_
 refine cont_seq ?_
 refine cont_region 2 rfl ?_
 refine batch1 [0, 0] 2 0 (fun b1 => [(1, .pointer (pB b1))]) (fun b1 => [.cells b1 [iq a, iq b, iq c, iq d] 53 true]) rfl rfl [1] (fun _ => rfl) (fun b1 => by kernel_rfl) (fun b1 => by kernel_rfl) (fun b1 => ?_)
 refine cont_done ?_
 refine then_normal ?_
 refine cont_seq ?_
 refine cont_region 13 rfl ?_
 refine bS [0, 0, 0, 0, 0, 0] 6 7 [(1, .pointer (pB b1)), (8, .bool (decide (a ≥ c)))] ?_
 refine cont_split 8 (decide (a ≥ c)) rfl (fun c2_ => ?_) (fun c2_ => ?_)
 ·
  replace c2_ := of_decide_eq_true c2_
  refine bS [0, 0, 0, 0, 0, 0, 0] 13 0 [(2, .bool true)] ?_
  refine cont_forget 0 rfl ?_
  refine cont_done ?_
  refine then_normal ?_
  refine cont_ret ?_
  refine ret_one (.inl rfl) rfl 0 (.bool true) (by kernel_rfl) (by kernel_rfl) (fun w hT => ?_)
  exact ⟨ret_bool (by simp [emptyB, *] <;> omega), hT.post rfl⟩
 replace c2_ := of_decide_eq_false c2_
 refine bS [0, 0, 0, 0, 0, 0, 0] 13 0 [(2, .bool (decide (b ≥ d)))] ?_
 refine cont_forget 0 rfl ?_
 refine cont_done ?_
 refine then_normal ?_
 refine cont_ret ?_
 refine ret_one (.inl rfl) rfl 0 (.bool (decide (b ≥ d))) (by kernel_rfl) (by kernel_rfl) (fun w hT => ?_)
 exact ⟨ret_bool (by simp [emptyB, *] <;> omega), hT.post rfl⟩

theorem refGood5 (A1 : Option Addr) (g1 o1 n1 cap1 : Nat) (xs1 : List Int) (sm : Bool) (mw mh : Int) (ms : Value) (X Y s al ca cb cc cd : Int) (a b : Int) (w : World) (hT0 : Tab w w [.gen (rdE (A1) g1 o1 n1 1 (ivals .u32 xs1))]) (hh : GoodIn a b A1 g1 o1 n1 cap1 xs1) (hX : -9223372036854775808 ≤ X ∧ X ≤ 9223372036854775807) (hY : -9223372036854775808 ≤ Y ∧ Y ≤ 9223372036854775807) (hs : -9223372036854775808 ≤ s ∧ s ≤ 9223372036854775807) (hal : -9223372036854775808 ≤ al ∧ al ≤ 9223372036854775807) :
    Calls Try.prog 46 #[.agg #[.bool sm, .int .i64 mw, .int .i64 mh, ms, .int .i64 X, .int .i64 Y, .int .i64 s, .int .i64 al, .int .i64 ca, .int .i64 cb, .int .i64 cc, .int .i64 cd], .int .i64 a, .int .i64 b, .slice A1 n1 cap1] w fun e w' => ∃ r n : Nat, e = .returned (.agg #[.bool true, .int .i64 (1 + aroundI (aroundI a 6) 16), .int .i64 (1 + aroundI (aroundI b 6) 16), .slice (some ⟨r, 0, none⟩) n n, .int .i64 (aroundI X 24 - 6), .int .i64 (aroundI Y 24 - 6), .int .i64 (1 + aroundI s 3), .int .i64 (aroundI al 256), .int .i64 ca, .int .i64 cb, .int .i64 cc, .int .i64 cd]) ∧ (n : Int) = (1 + aroundI (aroundI a 6) 16) * (1 + aroundI (aroundI b 6) 16) ∧ Tab w w' [.gen (rowE (some ⟨r, 0, none⟩) r n n 24 1 (ivals .u32 (goodP n xs1 n)) true)] := by
 obtain ⟨ha, hb, hl1, hc1, hm1, hx1, hat1⟩ := hh
 have hqa := aroundI_range a (m := 6) (by omega)
 have hqb := aroundI_range b (m := 6) (by omega)
 refine enter 39 [(0, .agg #[.bool sm, iq mw, iq mh, ms, iq X, iq Y, iq s, iq al, iq ca, iq cb, iq cc, iq cd]), (1, iq a), (2, iq b), (3, .slice A1 n1 cap1)] [.gen (rdE (A1) g1 o1 n1 1 (ivals .u32 xs1))] Try.func46 rfl Try.ntmps46 rfl (by kernel_rfl) hT0 ?_
 refine cont_seq ?_
 refine cont_region 2 rfl ?_
 refine batch2 [0, 0] 2 0 (fun b1 b2 => [(1, iq a), (2, iq b), (3, .slice A1 n1 cap1), (4, .pointer (pB b1)), (8, .pointer (pB b2))]) (fun b1 b2 => [.cells b2 [.bool false, iq 0, iq 0, .slice none 0 0, iq 0, iq 0, iq 0, iq 0, iq 0, iq 0, iq 0, iq 0] 93 true, .cells b1 [.bool sm, iq mw, iq mh, ms, iq X, iq Y, iq s, iq al, iq ca, iq cb, iq cc, iq cd] 93 true, .gen (rdE (A1) g1 o1 n1 1 (ivals .u32 xs1))]) rfl rfl [1, 2, 3, 4, 8] (fun _ _ => rfl) (fun b1 b2 => by kernel_rfl) (fun b1 b2 => by kernel_rfl) (fun b1 b2 => ?_)
 refine cont_done ?_
 refine then_normal ?_
 refine cont_seq ?_
 refine cont_region 2 rfl ?_
 refine batch0 [0, 1] 2 0 [(1, iq a), (2, iq b), (3, .slice A1 n1 cap1), (4, .pointer (pB b1)), (8, .pointer (pB b2))] [.cells b2 [.bool false, iq 0, iq 0, .slice none 0 0, iq 0, iq 0, iq 0, iq 0, iq 0, iq 0, iq 0, iq 0] 93 true, .cells b1 [.bool true, iq mw, iq mh, ms, iq X, iq Y, iq s, iq al, iq ca, iq cb, iq cc, iq cd] 93 true, .gen (rdE (A1) g1 o1 n1 1 (ivals .u32 xs1))] rfl rfl (by kernel_rfl) (by kernel_rfl) ?_
 refine cont_done ?_
 refine then_normal ?_
 refine cont_seq ?_
 refine cont_region 8 rfl ?_
 refine bS [0] 1 7 [(2, iq b), (3, .slice A1 n1 cap1), (4, .pointer (pB b1)), (8, .pointer (pB b2)), (10, iq a)] ?_
 refine pl_step 2 6 rfl rfl ?_
 refine call_pure (d := 11) (iq (aroundI a 6)) (by kernel_rfl) (fun w hT => refAround a 6 w (by omega) (by omega)) ?_
 have hq3_ := aroundI_range a (m := 6) (by omega)
 refine bS [0] 3 5 [(3, .slice A1 n1 cap1), (4, .pointer (pB b1)), (8, .pointer (pB b2)), (11, iq (aroundI a 6)), (12, iq b)] ?_
 refine pl_step 4 4 rfl rfl ?_
 refine call_pure (d := 13) (iq (aroundI b 6)) (by kernel_rfl) (fun w hT => refAround b 6 w (by omega) (by omega)) ?_
 have hq4_ := aroundI_range b (m := 6) (by omega)
 refine bS [0] 5 3 [(4, .pointer (pB b1)), (8, .pointer (pB b2)), (11, iq (aroundI a 6)), (13, iq (aroundI b 6)), (14, .slice A1 n1 cap1)] ?_
 refine pl_step 6 2 rfl rfl ?_
 refine call_gen (d := 15) (α := Nat × Nat) (fun x_ => .agg #[iq (1 + aroundI (aroundI a 6) 16), iq (1 + aroundI (aroundI b 6) 16), .slice (pB x_.1) x_.2 x_.2]) (fun x_ => [.gen (rowE (pB x_.1) x_.1 x_.2 x_.2 24 1 (ivals .u32 (goodP x_.2 xs1 x_.2)) true), .cells b2 [.bool false, iq 0, iq 0, .slice none 0 0, iq 0, iq 0, iq 0, iq 0, iq 0, iq 0, iq 0, iq 0] 93 true, .cells b1 [.bool true, iq mw, iq mh, ms, iq X, iq Y, iq s, iq al, iq ca, iq cb, iq cc, iq cd] 93 true, .gen (rdE (A1) g1 o1 n1 1 (ivals .u32 xs1))]) (fun x_ => (x_.2 : Int) = (1 + aroundI (aroundI a 6) 16) * (1 + aroundI (aroundI b 6) 16)) (by kernel_rfl) (fun w hT => (refGood4 A1 g1 o1 n1 cap1 xs1 (aroundI a 6) (aroundI b 6) w (hT.viewRo (.cons (i := 2) rfl Vw.rd .nil) rfl) ⟨by omega, by omega, hl1, hc1, hm1, hx1, hat1⟩).mono fun e w' ⟨r5, n6, he_, hf_, ht_⟩ => ⟨(r5, n6), he_, hf_, hT.news ht_ rfl⟩) ?_
 rintro ⟨r5, n6⟩ hf7_
 replace hf7_ : (n6 : Int) = (1 + aroundI (aroundI a 6) 16) * (1 + aroundI (aroundI b 6) 16) := hf7_
 refine cont_norm [(4, .pointer (pB b1)), (8, .pointer (pB b2)), (11, iq (aroundI a 6)), (13, iq (aroundI b 6)), (14, .slice A1 n1 cap1), (15, .agg #[iq (1 + aroundI (aroundI a 6) 16), iq (1 + aroundI (aroundI b 6) 16), .slice (pB r5) n6 n6])] _ (by kernel_rfl) rfl ?_
 refine batch0 [0, 2] 8 0 [(4, .pointer (pB b1)), (8, .pointer (pB b2))] [.gen (rowE (pB r5) r5 n6 n6 24 1 (ivals .u32 (goodP n6 xs1 n6)) true), .cells b2 [.bool false, iq 0, iq 0, .slice none 0 0, iq 0, iq 0, iq 0, iq 0, iq 0, iq 0, iq 0, iq 0] 93 true, .cells b1 [.bool true, iq (1 + aroundI (aroundI a 6) 16), iq (1 + aroundI (aroundI b 6) 16), .slice (pB r5) n6 n6, iq X, iq Y, iq s, iq al, iq ca, iq cb, iq cc, iq cd] 93 true, .gen (rdE (A1) g1 o1 n1 1 (ivals .u32 xs1))] rfl rfl (by kernel_rfl) (by kernel_rfl) ?_
 refine cont_done ?_
 refine then_normal ?_
 refine cont_seq ?_
 refine drawn_enter 13 [2] rfl (by kernel_rfl) ?_
 refine takes 0 [2] [(0, 0), (5, 0), (1, 0), (6, 0)] 9 [6, 1, 5, 0] [(4, .pointer (pB b1)), (8, .pointer (pB b2)), (18, .pointer (some ⟨b1, 4, none⟩)), (23, .pointer (some ⟨b1, 5, none⟩))] (by kernel_rfl) (pok_then pok_body) (by kernel_rfl) rfl rfl (by kernel_rfl) (by kernel_rfl) ?_
 refine drawn_two 2 7 8 rfl (by kernel_rfl) ?_ ?_
 ·
  refine one_step 2 [(4, .pointer (pB b1)), (8, .pointer (pB b2)), (19, iq X), (23, .pointer (some ⟨b1, 5, none⟩))] [.gen (rowE (pB r5) r5 n6 n6 24 1 (ivals .u32 (goodP n6 xs1 n6)) true), .cells b2 [.bool false, iq 0, iq 0, .slice none 0 0, iq 0, iq 0, iq 0, iq 0, iq 0, iq 0, iq 0, iq 0] 93 true, .cells b1 [.bool true, iq (1 + aroundI (aroundI a 6) 16), iq (1 + aroundI (aroundI b 6) 16), .slice (pB r5) n6 n6, iq X, iq Y, iq s, iq al, iq ca, iq cb, iq cc, iq cd] 93 true, .gen (rdE (A1) g1 o1 n1 1 (ivals .u32 xs1))] (by kernel_rfl) (by kernel_rfl) ?_
  refine drawn_next 0 [2] (by kernel_rfl) ?_
  refine drawn_two 3 7 7 rfl (by kernel_rfl) ?_ ?_
  ·
   refine call_pure (d := 20) (iq (aroundI X 24)) (by kernel_rfl) (fun w hT => refAround X 24 w (by omega) (by omega)) ?_
   have hq8_ := aroundI_range X (m := 24) (by omega)
   refine drawn_next 0 [2] (by kernel_rfl) ?_
   refine takes 0 [2] [(4, 0)] 6 [4, 3, 2, 6, 1, 5, 0] [(4, .pointer (pB b1)), (8, .pointer (pB b2)), (21, iq (IntKind.i64.wrap ((aroundI X 24) - 6))), (23, .pointer (some ⟨b1, 5, none⟩))] (by kernel_rfl) (pok_then pok_body) (by kernel_rfl) rfl rfl (by kernel_rfl) (by kernel_rfl) ?_
   refine cont_recast 21 (iq (IntKind.i64.wrap ((aroundI X 24) - 6))) (iq ((aroundI X 24) - 6)) rfl (wrapI (by omega) (by omega)) ?_
   refine drawn_one 7 5 rfl (by kernel_rfl) ?_
   refine one_step 2 [(4, .pointer (pB b1)), (8, .pointer (pB b2)), (21, iq ((aroundI X 24) - 6)), (24, iq Y)] [.gen (rowE (pB r5) r5 n6 n6 24 1 (ivals .u32 (goodP n6 xs1 n6)) true), .cells b2 [.bool false, iq 0, iq 0, .slice none 0 0, iq 0, iq 0, iq 0, iq 0, iq 0, iq 0, iq 0, iq 0] 93 true, .cells b1 [.bool true, iq (1 + aroundI (aroundI a 6) 16), iq (1 + aroundI (aroundI b 6) 16), .slice (pB r5) n6 n6, iq X, iq Y, iq s, iq al, iq ca, iq cb, iq cc, iq cd] 93 true, .gen (rdE (A1) g1 o1 n1 1 (ivals .u32 xs1))] (by kernel_rfl) (by kernel_rfl) ?_
   refine drawn_next 0 [2] (by kernel_rfl) ?_
   refine drawn_one 8 4 rfl (by kernel_rfl) ?_
   refine call_pure (d := 25) (iq (aroundI Y 24)) (by kernel_rfl) (fun w hT => refAround Y 24 w (by omega) (by omega)) ?_
   have hq9_ := aroundI_range Y (m := 24) (by omega)
   refine drawn_next 0 [2] (by kernel_rfl) ?_
   refine takes 0 [2] [(9, 0)] 3 [9, 8, 7, 4, 3, 2, 6, 1, 5, 0] [(4, .pointer (pB b1)), (8, .pointer (pB b2)), (21, iq ((aroundI X 24) - 6)), (26, iq (IntKind.i64.wrap ((aroundI Y 24) - 6)))] (by kernel_rfl) (pok_then pok_body) (by kernel_rfl) rfl rfl (by kernel_rfl) (by kernel_rfl) ?_
   refine cont_recast 26 (iq (IntKind.i64.wrap ((aroundI Y 24) - 6))) (iq ((aroundI Y 24) - 6)) rfl (wrapI (by omega) (by omega)) ?_
   refine takes 0 [2] [(10, 0), (11, 0)] 1 [11, 10, 9, 8, 7, 4, 3, 2, 6, 1, 5, 0] [(4, .pointer (pB b1)), (8, .pointer (pB b2)), (27, .agg #[iq ((aroundI X 24) - 6), iq ((aroundI Y 24) - 6)]), (28, .pointer (some ⟨b1, 4, none⟩))] (by kernel_rfl) (pok_then pok_body) (by kernel_rfl) rfl rfl (by kernel_rfl) (by kernel_rfl) ?_
   refine drawn_one 12 0 rfl (by kernel_rfl) ?_
   refine one_step 2 [(4, .pointer (pB b1)), (8, .pointer (pB b2))] [.gen (rowE (pB r5) r5 n6 n6 24 1 (ivals .u32 (goodP n6 xs1 n6)) true), .cells b2 [.bool false, iq 0, iq 0, .slice none 0 0, iq 0, iq 0, iq 0, iq 0, iq 0, iq 0, iq 0, iq 0] 93 true, .cells b1 [.bool true, iq (1 + aroundI (aroundI a 6) 16), iq (1 + aroundI (aroundI b 6) 16), .slice (pB r5) n6 n6, iq ((aroundI X 24) - 6), iq ((aroundI Y 24) - 6), iq s, iq al, iq ca, iq cb, iq cc, iq cd] 93 true, .gen (rdE (A1) g1 o1 n1 1 (ivals .u32 xs1))] (by kernel_rfl) (by kernel_rfl) ?_
   refine drawn_next 0 [2] (by kernel_rfl) ?_
   refine drawn_done (by kernel_rfl) ?_
   refine then_normal ?_
   refine cont_seq ?_
   refine cont_region 6 rfl ?_
   refine bS [0, 2] 2 4 [(4, .pointer (pB b1)), (8, .pointer (pB b2)), (30, iq s)] ?_
   refine pl_step 3 3 rfl rfl ?_
   refine call_pure (d := 31) (iq (aroundI s 3)) (by kernel_rfl) (fun w hT => refAround s 3 w (by omega) (by omega)) ?_
   have hq10_ := aroundI_range s (m := 3) (by omega)
   refine bS [0] 4 2 [(4, .pointer (pB b1)), (8, .pointer (pB b2)), (32, iq (IntKind.i64.wrap (1 + (aroundI s 3))))] ?_
   refine cont_recast 32 (iq (IntKind.i64.wrap (1 + (aroundI s 3)))) (iq (1 + (aroundI s 3))) rfl (wrapI (by omega) (by omega)) ?_
   refine batch0 [0, 2] 6 0 [(4, .pointer (pB b1)), (8, .pointer (pB b2))] [.gen (rowE (pB r5) r5 n6 n6 24 1 (ivals .u32 (goodP n6 xs1 n6)) true), .cells b2 [.bool false, iq 0, iq 0, .slice none 0 0, iq 0, iq 0, iq 0, iq 0, iq 0, iq 0, iq 0, iq 0] 93 true, .cells b1 [.bool true, iq (1 + aroundI (aroundI a 6) 16), iq (1 + aroundI (aroundI b 6) 16), .slice (pB r5) n6 n6, iq ((aroundI X 24) - 6), iq ((aroundI Y 24) - 6), iq (1 + (aroundI s 3)), iq al, iq ca, iq cb, iq cc, iq cd] 93 true, .gen (rdE (A1) g1 o1 n1 1 (ivals .u32 xs1))] rfl rfl (by kernel_rfl) (by kernel_rfl) ?_
   refine cont_done ?_
   refine then_normal ?_
   refine cont_seq ?_
   refine cont_region 5 rfl ?_
   refine bS [0, 2] 2 3 [(4, .pointer (pB b1)), (8, .pointer (pB b2)), (35, iq al)] ?_
   refine pl_step 3 2 rfl rfl ?_
   refine call_pure (d := 36) (iq (aroundI al 256)) (by kernel_rfl) (fun w hT => refAround al 256 w (by omega) (by omega)) ?_
   have hq11_ := aroundI_range al (m := 256) (by omega)
   refine batch0 [0, 2] 5 0 [(4, .pointer (pB b1)), (8, .pointer (pB b2))] [.gen (rowE (pB r5) r5 n6 n6 24 1 (ivals .u32 (goodP n6 xs1 n6)) true), .cells b2 [.bool false, iq 0, iq 0, .slice none 0 0, iq 0, iq 0, iq 0, iq 0, iq 0, iq 0, iq 0, iq 0] 93 true, .cells b1 [.bool true, iq (1 + aroundI (aroundI a 6) 16), iq (1 + aroundI (aroundI b 6) 16), .slice (pB r5) n6 n6, iq ((aroundI X 24) - 6), iq ((aroundI Y 24) - 6), iq (1 + (aroundI s 3)), iq (aroundI al 256), iq ca, iq cb, iq cc, iq cd] 93 true, .gen (rdE (A1) g1 o1 n1 1 (ivals .u32 xs1))] rfl rfl (by kernel_rfl) (by kernel_rfl) ?_
   refine cont_done ?_
   refine then_normal ?_
   refine cont_seq ?_
   refine cont_region 2 rfl ?_
   refine batch0 [2, 1] 2 0 [(8, .pointer (pB b2))] [.gen (rowE (pB r5) r5 n6 n6 24 1 (ivals .u32 (goodP n6 xs1 n6)) true), .cells b2 [.bool true, iq (1 + aroundI (aroundI a 6) 16), iq (1 + aroundI (aroundI b 6) 16), .slice (pB r5) n6 n6, iq ((aroundI X 24) - 6), iq ((aroundI Y 24) - 6), iq (1 + (aroundI s 3)), iq (aroundI al 256), iq ca, iq cb, iq cc, iq cd] 93 true, .cells b1 [.bool true, iq (1 + aroundI (aroundI a 6) 16), iq (1 + aroundI (aroundI b 6) 16), .slice (pB r5) n6 n6, iq ((aroundI X 24) - 6), iq ((aroundI Y 24) - 6), iq (1 + (aroundI s 3)), iq (aroundI al 256), iq ca, iq cb, iq cc, iq cd] 93 true, .gen (rdE (A1) g1 o1 n1 1 (ivals .u32 xs1))] rfl rfl (by kernel_rfl) (by kernel_rfl) ?_
   refine cont_forget 2 rfl ?_
   refine cont_done ?_
   refine then_normal ?_
   refine cont_ret ?_
   refine ret_one (.inl rfl) rfl 1 (.agg #[.bool true, iq (1 + aroundI (aroundI a 6) 16), iq (1 + aroundI (aroundI b 6) 16), .slice (pB r5) n6 n6, iq ((aroundI X 24) - 6), iq ((aroundI Y 24) - 6), iq (1 + (aroundI s 3)), iq (aroundI al 256), iq ca, iq cb, iq cc, iq cd]) (by kernel_rfl) (by kernel_rfl) (fun w hT => ?_)
   replace hT := hT.erase 2 (fun e h hw => by cases h; first | rfl | cases hw)
   replace hT := hT.erase 1 (fun e h hw => by cases h; first | rfl | cases hw)
   exact ⟨_, _, rfl, ‹_›, hT⟩
  refine one_step 2 [(4, .pointer (pB b1)), (8, .pointer (pB b2)), (19, iq X), (24, iq Y)] [.gen (rowE (pB r5) r5 n6 n6 24 1 (ivals .u32 (goodP n6 xs1 n6)) true), .cells b2 [.bool false, iq 0, iq 0, .slice none 0 0, iq 0, iq 0, iq 0, iq 0, iq 0, iq 0, iq 0, iq 0] 93 true, .cells b1 [.bool true, iq (1 + aroundI (aroundI a 6) 16), iq (1 + aroundI (aroundI b 6) 16), .slice (pB r5) n6 n6, iq X, iq Y, iq s, iq al, iq ca, iq cb, iq cc, iq cd] 93 true, .gen (rdE (A1) g1 o1 n1 1 (ivals .u32 xs1))] (by kernel_rfl) (by kernel_rfl) ?_
  refine drawn_next 0 [2] (by kernel_rfl) ?_
  refine drawn_one 3 6 rfl (by kernel_rfl) ?_
  refine call_pure (d := 20) (iq (aroundI X 24)) (by kernel_rfl) (fun w hT => refAround X 24 w (by omega) (by omega)) ?_
  have hq12_ := aroundI_range X (m := 24) (by omega)
  refine drawn_next 0 [2] (by kernel_rfl) ?_
  refine takes 0 [2] [(4, 0)] 5 [4, 3, 7, 2, 6, 1, 5, 0] [(4, .pointer (pB b1)), (8, .pointer (pB b2)), (21, iq (IntKind.i64.wrap ((aroundI X 24) - 6))), (24, iq Y)] (by kernel_rfl) (pok_then pok_body) (by kernel_rfl) rfl rfl (by kernel_rfl) (by kernel_rfl) ?_
  refine cont_recast 21 (iq (IntKind.i64.wrap ((aroundI X 24) - 6))) (iq ((aroundI X 24) - 6)) rfl (wrapI (by omega) (by omega)) ?_
  refine drawn_one 8 4 rfl (by kernel_rfl) ?_
  refine call_pure (d := 25) (iq (aroundI Y 24)) (by kernel_rfl) (fun w hT => refAround Y 24 w (by omega) (by omega)) ?_
  have hq13_ := aroundI_range Y (m := 24) (by omega)
  refine drawn_next 0 [2] (by kernel_rfl) ?_
  refine takes 0 [2] [(9, 0)] 3 [9, 8, 4, 3, 7, 2, 6, 1, 5, 0] [(4, .pointer (pB b1)), (8, .pointer (pB b2)), (21, iq ((aroundI X 24) - 6)), (26, iq (IntKind.i64.wrap ((aroundI Y 24) - 6)))] (by kernel_rfl) (pok_then pok_body) (by kernel_rfl) rfl rfl (by kernel_rfl) (by kernel_rfl) ?_
  refine cont_recast 26 (iq (IntKind.i64.wrap ((aroundI Y 24) - 6))) (iq ((aroundI Y 24) - 6)) rfl (wrapI (by omega) (by omega)) ?_
  refine takes 0 [2] [(10, 0), (11, 0)] 1 [11, 10, 9, 8, 4, 3, 7, 2, 6, 1, 5, 0] [(4, .pointer (pB b1)), (8, .pointer (pB b2)), (27, .agg #[iq ((aroundI X 24) - 6), iq ((aroundI Y 24) - 6)]), (28, .pointer (some ⟨b1, 4, none⟩))] (by kernel_rfl) (pok_then pok_body) (by kernel_rfl) rfl rfl (by kernel_rfl) (by kernel_rfl) ?_
  refine drawn_one 12 0 rfl (by kernel_rfl) ?_
  refine one_step 2 [(4, .pointer (pB b1)), (8, .pointer (pB b2))] [.gen (rowE (pB r5) r5 n6 n6 24 1 (ivals .u32 (goodP n6 xs1 n6)) true), .cells b2 [.bool false, iq 0, iq 0, .slice none 0 0, iq 0, iq 0, iq 0, iq 0, iq 0, iq 0, iq 0, iq 0] 93 true, .cells b1 [.bool true, iq (1 + aroundI (aroundI a 6) 16), iq (1 + aroundI (aroundI b 6) 16), .slice (pB r5) n6 n6, iq ((aroundI X 24) - 6), iq ((aroundI Y 24) - 6), iq s, iq al, iq ca, iq cb, iq cc, iq cd] 93 true, .gen (rdE (A1) g1 o1 n1 1 (ivals .u32 xs1))] (by kernel_rfl) (by kernel_rfl) ?_
  refine drawn_next 0 [2] (by kernel_rfl) ?_
  refine drawn_done (by kernel_rfl) ?_
  refine then_normal ?_
  refine cont_seq ?_
  refine cont_region 6 rfl ?_
  refine bS [0, 2] 2 4 [(4, .pointer (pB b1)), (8, .pointer (pB b2)), (30, iq s)] ?_
  refine pl_step 3 3 rfl rfl ?_
  refine call_pure (d := 31) (iq (aroundI s 3)) (by kernel_rfl) (fun w hT => refAround s 3 w (by omega) (by omega)) ?_
  have hq14_ := aroundI_range s (m := 3) (by omega)
  refine bS [0] 4 2 [(4, .pointer (pB b1)), (8, .pointer (pB b2)), (32, iq (IntKind.i64.wrap (1 + (aroundI s 3))))] ?_
  refine cont_recast 32 (iq (IntKind.i64.wrap (1 + (aroundI s 3)))) (iq (1 + (aroundI s 3))) rfl (wrapI (by omega) (by omega)) ?_
  refine batch0 [0, 2] 6 0 [(4, .pointer (pB b1)), (8, .pointer (pB b2))] [.gen (rowE (pB r5) r5 n6 n6 24 1 (ivals .u32 (goodP n6 xs1 n6)) true), .cells b2 [.bool false, iq 0, iq 0, .slice none 0 0, iq 0, iq 0, iq 0, iq 0, iq 0, iq 0, iq 0, iq 0] 93 true, .cells b1 [.bool true, iq (1 + aroundI (aroundI a 6) 16), iq (1 + aroundI (aroundI b 6) 16), .slice (pB r5) n6 n6, iq ((aroundI X 24) - 6), iq ((aroundI Y 24) - 6), iq (1 + (aroundI s 3)), iq al, iq ca, iq cb, iq cc, iq cd] 93 true, .gen (rdE (A1) g1 o1 n1 1 (ivals .u32 xs1))] rfl rfl (by kernel_rfl) (by kernel_rfl) ?_
  refine cont_done ?_
  refine then_normal ?_
  refine cont_seq ?_
  refine cont_region 5 rfl ?_
  refine bS [0, 2] 2 3 [(4, .pointer (pB b1)), (8, .pointer (pB b2)), (35, iq al)] ?_
  refine pl_step 3 2 rfl rfl ?_
  refine call_pure (d := 36) (iq (aroundI al 256)) (by kernel_rfl) (fun w hT => refAround al 256 w (by omega) (by omega)) ?_
  have hq15_ := aroundI_range al (m := 256) (by omega)
  refine batch0 [0, 2] 5 0 [(4, .pointer (pB b1)), (8, .pointer (pB b2))] [.gen (rowE (pB r5) r5 n6 n6 24 1 (ivals .u32 (goodP n6 xs1 n6)) true), .cells b2 [.bool false, iq 0, iq 0, .slice none 0 0, iq 0, iq 0, iq 0, iq 0, iq 0, iq 0, iq 0, iq 0] 93 true, .cells b1 [.bool true, iq (1 + aroundI (aroundI a 6) 16), iq (1 + aroundI (aroundI b 6) 16), .slice (pB r5) n6 n6, iq ((aroundI X 24) - 6), iq ((aroundI Y 24) - 6), iq (1 + (aroundI s 3)), iq (aroundI al 256), iq ca, iq cb, iq cc, iq cd] 93 true, .gen (rdE (A1) g1 o1 n1 1 (ivals .u32 xs1))] rfl rfl (by kernel_rfl) (by kernel_rfl) ?_
  refine cont_done ?_
  refine then_normal ?_
  refine cont_seq ?_
  refine cont_region 2 rfl ?_
  refine batch0 [2, 1] 2 0 [(8, .pointer (pB b2))] [.gen (rowE (pB r5) r5 n6 n6 24 1 (ivals .u32 (goodP n6 xs1 n6)) true), .cells b2 [.bool true, iq (1 + aroundI (aroundI a 6) 16), iq (1 + aroundI (aroundI b 6) 16), .slice (pB r5) n6 n6, iq ((aroundI X 24) - 6), iq ((aroundI Y 24) - 6), iq (1 + (aroundI s 3)), iq (aroundI al 256), iq ca, iq cb, iq cc, iq cd] 93 true, .cells b1 [.bool true, iq (1 + aroundI (aroundI a 6) 16), iq (1 + aroundI (aroundI b 6) 16), .slice (pB r5) n6 n6, iq ((aroundI X 24) - 6), iq ((aroundI Y 24) - 6), iq (1 + (aroundI s 3)), iq (aroundI al 256), iq ca, iq cb, iq cc, iq cd] 93 true, .gen (rdE (A1) g1 o1 n1 1 (ivals .u32 xs1))] rfl rfl (by kernel_rfl) (by kernel_rfl) ?_
  refine cont_forget 2 rfl ?_
  refine cont_done ?_
  refine then_normal ?_
  refine cont_ret ?_
  refine ret_one (.inl rfl) rfl 1 (.agg #[.bool true, iq (1 + aroundI (aroundI a 6) 16), iq (1 + aroundI (aroundI b 6) 16), .slice (pB r5) n6 n6, iq ((aroundI X 24) - 6), iq ((aroundI Y 24) - 6), iq (1 + (aroundI s 3)), iq (aroundI al 256), iq ca, iq cb, iq cc, iq cd]) (by kernel_rfl) (by kernel_rfl) (fun w hT => ?_)
  replace hT := hT.erase 2 (fun e h hw => by cases h; first | rfl | cases hw)
  replace hT := hT.erase 1 (fun e h hw => by cases h; first | rfl | cases hw)
  exact ⟨_, _, rfl, ‹_›, hT⟩
 refine one_step 2 [(4, .pointer (pB b1)), (8, .pointer (pB b2)), (18, .pointer (some ⟨b1, 4, none⟩)), (24, iq Y)] [.gen (rowE (pB r5) r5 n6 n6 24 1 (ivals .u32 (goodP n6 xs1 n6)) true), .cells b2 [.bool false, iq 0, iq 0, .slice none 0 0, iq 0, iq 0, iq 0, iq 0, iq 0, iq 0, iq 0, iq 0] 93 true, .cells b1 [.bool true, iq (1 + aroundI (aroundI a 6) 16), iq (1 + aroundI (aroundI b 6) 16), .slice (pB r5) n6 n6, iq X, iq Y, iq s, iq al, iq ca, iq cb, iq cc, iq cd] 93 true, .gen (rdE (A1) g1 o1 n1 1 (ivals .u32 xs1))] (by kernel_rfl) (by kernel_rfl) ?_
 refine drawn_next 0 [2] (by kernel_rfl) ?_
 refine drawn_one 2 7 rfl (by kernel_rfl) ?_
 refine one_step 2 [(4, .pointer (pB b1)), (8, .pointer (pB b2)), (19, iq X), (24, iq Y)] [.gen (rowE (pB r5) r5 n6 n6 24 1 (ivals .u32 (goodP n6 xs1 n6)) true), .cells b2 [.bool false, iq 0, iq 0, .slice none 0 0, iq 0, iq 0, iq 0, iq 0, iq 0, iq 0, iq 0, iq 0] 93 true, .cells b1 [.bool true, iq (1 + aroundI (aroundI a 6) 16), iq (1 + aroundI (aroundI b 6) 16), .slice (pB r5) n6 n6, iq X, iq Y, iq s, iq al, iq ca, iq cb, iq cc, iq cd] 93 true, .gen (rdE (A1) g1 o1 n1 1 (ivals .u32 xs1))] (by kernel_rfl) (by kernel_rfl) ?_
 refine drawn_next 0 [2] (by kernel_rfl) ?_
 refine drawn_one 3 6 rfl (by kernel_rfl) ?_
 refine call_pure (d := 20) (iq (aroundI X 24)) (by kernel_rfl) (fun w hT => refAround X 24 w (by omega) (by omega)) ?_
 have hq16_ := aroundI_range X (m := 24) (by omega)
 refine drawn_next 0 [2] (by kernel_rfl) ?_
 refine takes 0 [2] [(4, 0)] 5 [4, 3, 2, 7, 6, 1, 5, 0] [(4, .pointer (pB b1)), (8, .pointer (pB b2)), (21, iq (IntKind.i64.wrap ((aroundI X 24) - 6))), (24, iq Y)] (by kernel_rfl) (pok_then pok_body) (by kernel_rfl) rfl rfl (by kernel_rfl) (by kernel_rfl) ?_
 refine cont_recast 21 (iq (IntKind.i64.wrap ((aroundI X 24) - 6))) (iq ((aroundI X 24) - 6)) rfl (wrapI (by omega) (by omega)) ?_
 refine drawn_one 8 4 rfl (by kernel_rfl) ?_
 refine call_pure (d := 25) (iq (aroundI Y 24)) (by kernel_rfl) (fun w hT => refAround Y 24 w (by omega) (by omega)) ?_
 have hq17_ := aroundI_range Y (m := 24) (by omega)
 refine drawn_next 0 [2] (by kernel_rfl) ?_
 refine takes 0 [2] [(9, 0)] 3 [9, 8, 4, 3, 2, 7, 6, 1, 5, 0] [(4, .pointer (pB b1)), (8, .pointer (pB b2)), (21, iq ((aroundI X 24) - 6)), (26, iq (IntKind.i64.wrap ((aroundI Y 24) - 6)))] (by kernel_rfl) (pok_then pok_body) (by kernel_rfl) rfl rfl (by kernel_rfl) (by kernel_rfl) ?_
 refine cont_recast 26 (iq (IntKind.i64.wrap ((aroundI Y 24) - 6))) (iq ((aroundI Y 24) - 6)) rfl (wrapI (by omega) (by omega)) ?_
 refine takes 0 [2] [(10, 0), (11, 0)] 1 [11, 10, 9, 8, 4, 3, 2, 7, 6, 1, 5, 0] [(4, .pointer (pB b1)), (8, .pointer (pB b2)), (27, .agg #[iq ((aroundI X 24) - 6), iq ((aroundI Y 24) - 6)]), (28, .pointer (some ⟨b1, 4, none⟩))] (by kernel_rfl) (pok_then pok_body) (by kernel_rfl) rfl rfl (by kernel_rfl) (by kernel_rfl) ?_
 refine drawn_one 12 0 rfl (by kernel_rfl) ?_
 refine one_step 2 [(4, .pointer (pB b1)), (8, .pointer (pB b2))] [.gen (rowE (pB r5) r5 n6 n6 24 1 (ivals .u32 (goodP n6 xs1 n6)) true), .cells b2 [.bool false, iq 0, iq 0, .slice none 0 0, iq 0, iq 0, iq 0, iq 0, iq 0, iq 0, iq 0, iq 0] 93 true, .cells b1 [.bool true, iq (1 + aroundI (aroundI a 6) 16), iq (1 + aroundI (aroundI b 6) 16), .slice (pB r5) n6 n6, iq ((aroundI X 24) - 6), iq ((aroundI Y 24) - 6), iq s, iq al, iq ca, iq cb, iq cc, iq cd] 93 true, .gen (rdE (A1) g1 o1 n1 1 (ivals .u32 xs1))] (by kernel_rfl) (by kernel_rfl) ?_
 refine drawn_next 0 [2] (by kernel_rfl) ?_
 refine drawn_done (by kernel_rfl) ?_
 refine then_normal ?_
 refine cont_seq ?_
 refine cont_region 6 rfl ?_
 refine bS [0, 2] 2 4 [(4, .pointer (pB b1)), (8, .pointer (pB b2)), (30, iq s)] ?_
 refine pl_step 3 3 rfl rfl ?_
 refine call_pure (d := 31) (iq (aroundI s 3)) (by kernel_rfl) (fun w hT => refAround s 3 w (by omega) (by omega)) ?_
 have hq18_ := aroundI_range s (m := 3) (by omega)
 refine bS [0] 4 2 [(4, .pointer (pB b1)), (8, .pointer (pB b2)), (32, iq (IntKind.i64.wrap (1 + (aroundI s 3))))] ?_
 refine cont_recast 32 (iq (IntKind.i64.wrap (1 + (aroundI s 3)))) (iq (1 + (aroundI s 3))) rfl (wrapI (by omega) (by omega)) ?_
 refine batch0 [0, 2] 6 0 [(4, .pointer (pB b1)), (8, .pointer (pB b2))] [.gen (rowE (pB r5) r5 n6 n6 24 1 (ivals .u32 (goodP n6 xs1 n6)) true), .cells b2 [.bool false, iq 0, iq 0, .slice none 0 0, iq 0, iq 0, iq 0, iq 0, iq 0, iq 0, iq 0, iq 0] 93 true, .cells b1 [.bool true, iq (1 + aroundI (aroundI a 6) 16), iq (1 + aroundI (aroundI b 6) 16), .slice (pB r5) n6 n6, iq ((aroundI X 24) - 6), iq ((aroundI Y 24) - 6), iq (1 + (aroundI s 3)), iq al, iq ca, iq cb, iq cc, iq cd] 93 true, .gen (rdE (A1) g1 o1 n1 1 (ivals .u32 xs1))] rfl rfl (by kernel_rfl) (by kernel_rfl) ?_
 refine cont_done ?_
 refine then_normal ?_
 refine cont_seq ?_
 refine cont_region 5 rfl ?_
 refine bS [0, 2] 2 3 [(4, .pointer (pB b1)), (8, .pointer (pB b2)), (35, iq al)] ?_
 refine pl_step 3 2 rfl rfl ?_
 refine call_pure (d := 36) (iq (aroundI al 256)) (by kernel_rfl) (fun w hT => refAround al 256 w (by omega) (by omega)) ?_
 have hq19_ := aroundI_range al (m := 256) (by omega)
 refine batch0 [0, 2] 5 0 [(4, .pointer (pB b1)), (8, .pointer (pB b2))] [.gen (rowE (pB r5) r5 n6 n6 24 1 (ivals .u32 (goodP n6 xs1 n6)) true), .cells b2 [.bool false, iq 0, iq 0, .slice none 0 0, iq 0, iq 0, iq 0, iq 0, iq 0, iq 0, iq 0, iq 0] 93 true, .cells b1 [.bool true, iq (1 + aroundI (aroundI a 6) 16), iq (1 + aroundI (aroundI b 6) 16), .slice (pB r5) n6 n6, iq ((aroundI X 24) - 6), iq ((aroundI Y 24) - 6), iq (1 + (aroundI s 3)), iq (aroundI al 256), iq ca, iq cb, iq cc, iq cd] 93 true, .gen (rdE (A1) g1 o1 n1 1 (ivals .u32 xs1))] rfl rfl (by kernel_rfl) (by kernel_rfl) ?_
 refine cont_done ?_
 refine then_normal ?_
 refine cont_seq ?_
 refine cont_region 2 rfl ?_
 refine batch0 [2, 1] 2 0 [(8, .pointer (pB b2))] [.gen (rowE (pB r5) r5 n6 n6 24 1 (ivals .u32 (goodP n6 xs1 n6)) true), .cells b2 [.bool true, iq (1 + aroundI (aroundI a 6) 16), iq (1 + aroundI (aroundI b 6) 16), .slice (pB r5) n6 n6, iq ((aroundI X 24) - 6), iq ((aroundI Y 24) - 6), iq (1 + (aroundI s 3)), iq (aroundI al 256), iq ca, iq cb, iq cc, iq cd] 93 true, .cells b1 [.bool true, iq (1 + aroundI (aroundI a 6) 16), iq (1 + aroundI (aroundI b 6) 16), .slice (pB r5) n6 n6, iq ((aroundI X 24) - 6), iq ((aroundI Y 24) - 6), iq (1 + (aroundI s 3)), iq (aroundI al 256), iq ca, iq cb, iq cc, iq cd] 93 true, .gen (rdE (A1) g1 o1 n1 1 (ivals .u32 xs1))] rfl rfl (by kernel_rfl) (by kernel_rfl) ?_
 refine cont_forget 2 rfl ?_
 refine cont_done ?_
 refine then_normal ?_
 refine cont_ret ?_
 refine ret_one (.inl rfl) rfl 1 (.agg #[.bool true, iq (1 + aroundI (aroundI a 6) 16), iq (1 + aroundI (aroundI b 6) 16), .slice (pB r5) n6 n6, iq ((aroundI X 24) - 6), iq ((aroundI Y 24) - 6), iq (1 + (aroundI s 3)), iq (aroundI al 256), iq ca, iq cb, iq cc, iq cd]) (by kernel_rfl) (by kernel_rfl) (fun w hT => ?_)
 replace hT := hT.erase 2 (fun e h hw => by cases h; first | rfl | cases hw)
 replace hT := hT.erase 1 (fun e h hw => by cases h; first | rfl | cases hw)
 exact ⟨_, _, rfl, ‹_›, hT⟩

end Go.Proofs.Ytlfahohbkgdabaa

/- Plain words of paint: a layer's color at a point. -/
set_option linter.unusedVariables false
set_option linter.unusedSimpArgs false
namespace Go.Proofs.Ytlfahohbkgdabaa
open Go Go.RowKit

theorem floor_neg {a b : Int} (hb : 0 < b) : 0 - (b - 1 - a) / b = a / b := by
  have h1 := Int.mul_ediv_add_emod a b
  have h2 := Int.emod_nonneg a (show b ≠ 0 by omega)
  have h3 := Int.emod_lt_of_pos a hb
  have e : b - 1 - a = (b - 1 - a % b) + b * (-(a / b)) := by rw [Int.mul_neg]; omega
  rw [e, Int.add_mul_ediv_left _ _ (by omega), Int.ediv_eq_zero_of_lt (by omega) (by omega)]
  omega
theorem ediv_range {a b m : Int} (hb : 0 < b) (h0 : -m ≤ a) (h1 : a ≤ m) (hm : 0 ≤ m) : -m ≤ a / b ∧ a / b ≤ m := by
  refine ⟨?_, ?_⟩
  · refine (Int.le_ediv_iff_mul_le hb).2 ?_
    have := Int.mul_le_mul_of_nonneg_left (show 1 ≤ b by omega) hm
    rw [Int.neg_mul]
    omega
  · rcases Int.le_total 0 a with h | h
    · have := Int.ediv_le_self b h; omega
    · have := (Int.ediv_lt_iff_lt_mul (a := a) (b := 1) hb).2 (by omega); omega
/-- Which points a layer shows. -/
theorem rbox_has {W H X Y s a b c d x y : Int} (hs : 1 ≤ s) : hasB (rboxR W H X Y s a b c d).x0 (rboxR W H X Y s a b c d).y0 (rboxR W H X Y s a b c d).x1 (rboxR W H X Y s a b c d).y1 x y = (hasB 0 0 W H ((x - X) / s) ((y - Y) / s) && hasB a b c d ((x - X) / s) ((y - Y) / s)) := by
  rw [Bool.eq_iff_iff, Bool.and_eq_true]
  have hcut := cutR_has a b c d 0 0 W H ((x - X) / s) ((y - Y) / s)
  have hsp : 0 < s := by omega
  have k : ∀ (p q z Z : Int), Z + p * s ≤ z ∧ z < Z + q * s ↔ p ≤ (z - Z) / s ∧ (z - Z) / s < q := fun p q z Z => by
    rw [Int.le_ediv_iff_mul_le hsp, Int.ediv_lt_iff_lt_mul hsp]
    omega
  rw [and_comm (a := hasB 0 0 W H _ _ = true), ← hcut]
  unfold rboxR
  dsimp only
  generalize cutR a b c d 0 0 W H = r
  cases hne : emptyB r.x0 r.y0 r.x1 r.y1 with
  | true =>
    have := emptyB_true.1 hne
    simp only [if_true, hasB_true]
    omega
  | false =>
    have k1 := k r.x0 r.x1 x X
    have k2 := k r.y0 r.y1 y Y
    simp only [Bool.false_eq_true, if_false, hasB_true]
    omega
def pcolB (W H X Y s a b c d : Int) (x y : Int) : Bool := hasB 0 0 W H ((x - X) / s) ((y - Y) / s) && hasB a b c d ((x - X) / s) ((y - Y) / s)
/-- A layer's color at a point; 0 where there is none. -/
def pcolC (W H X Y s al a b c d : Int) (px : List Int) (x y : Int) : Int := if pcolB W H X Y s a b c d x y then fadeC (atC W H px ((x - X) / s) ((y - Y) / s)) al else 0
theorem pcol_box {W H X Y s a b c d x y : Int} (hs : 1 ≤ s ∧ s ≤ 8) (hX : -1000000 ≤ X ∧ X ≤ 1000000) (hY : -1000000 ≤ Y ∧ Y ≤ 1000000) (hw : 1 ≤ W ∧ W ≤ 256) (hh : 1 ≤ H ∧ H ≤ 256) :
    hasB (shwR W H X Y s a b c d).x0 (shwR W H X Y s a b c d).y0 (shwR W H X Y s a b c d).x1 (shwR W H X Y s a b c d).y1 x y = pcolB W H X Y s a b c d x y := by
  rw [box_same hs hX hY hw hh]
  exact rbox_has (by omega)
theorem pcolB_in {W H X Y s a b c d x y : Int} (h : pcolB W H X Y s a b c d x y = true) : hasB 0 0 W H ((x - X) / s) ((y - Y) / s) = true := (Bool.and_eq_true_iff.1 h).1
end Go.Proofs.Ytlfahohbkgdabaa

/- Contracts of functions of the given program, printed by a program of this project. -/
set_option linter.unusedVariables false
set_option linter.unusedSimpArgs false
namespace Go.Proofs.Ytlfahohbkgdabaa
open Go Go.RowKit
set_option maxRecDepth 100000
set_option maxHeartbeats 8000000

theorem payFloor (a s : Int) (w : World) (ha : -20000000 ≤ a ∧ a ≤ 20000000) (hs : 1 ≤ s ∧ s ≤ 8) :
    Calls Try.prog 70 #[.int .i64 a, .int .i64 s] w fun e w' => e = .returned (.int .i64 (a / s)) ∧ Below w.heap.size w w' := by
 have hd := ediv_range (a := s - 1 - a) (b := s) (m := 30000000) (by omega) (by omega) (by omega) (by omega)
 have hd2 := ediv_range (a := a) (b := s) (m := 30000000) (by omega) (by omega) (by omega) (by omega)
 refine enter 17 [(0, iq a), (1, iq s)] [] Try.func70 rfl Try.ntmps70 rfl (by kernel_rfl) (Tab.start w) ?_
 refine cont_seq ?_
 refine cont_region 1 rfl ?_
 refine bS [0] 1 0 [(0, iq a), (1, iq s)] ?_
 refine cont_done ?_
 refine then_normal ?_
 refine cont_seq ?_
 refine cont_seq ?_
 refine cont_region 2 rfl ?_
 refine bS [0, 0] 2 0 [(0, iq a), (1, iq s), (6, .bool (decide (a < 0)))] ?_
 refine cont_done ?_
 refine then_normal ?_
 refine cont_split 6 (decide (a < 0)) rfl (fun c1_ => ?_) (fun c1_ => ?_)
 ·
  replace c1_ := of_decide_eq_true c1_
  refine cont_true rfl ?_
  refine cont_seq ?_
  refine cont_region 8 rfl ?_
  refine bS [0, 0] 2 6 [(0, iq a), (1, iq s), (8, iq (IntKind.i64.wrap (s - 1)))] ?_
  refine cont_recast 8 (iq (IntKind.i64.wrap (s - 1))) (iq (s - 1)) rfl (wrapI (by omega) (by omega)) ?_
  refine bS [0, 0] 4 4 [(1, iq s), (10, iq (IntKind.i64.wrap ((s - 1) - a)))] ?_
  refine cont_recast 10 (iq (IntKind.i64.wrap ((s - 1) - a))) (iq ((s - 1) - a)) rfl (wrapI (by omega) (by omega)) ?_
  refine bS [0] 5 3 [(10, iq ((s - 1) - a)), (11, iq s)] ?_
  refine pl_step 6 2 rfl rfl ?_
  refine sem_step 12 (bopS .quo 3 (.tmp 10) (.tmp 11) (iq ((s - 1) - a)) (iq s)) (iq (IntKind.i64.wrap (((s - 1) - a).tdiv s))) (by kernel_rfl) (fun w hT => run_quo (by omega) w) ?_
  refine cont_recast 12 (iq (IntKind.i64.wrap (((s - 1) - a).tdiv s))) (iq (((s - 1) - a) / s)) rfl (tdivI (by omega) (by omega) (by omega)) ?_
  refine bS [0] 7 1 [(13, iq (IntKind.i64.wrap (0 - (((s - 1) - a) / s))))] ?_
  refine cont_recast 13 (iq (IntKind.i64.wrap (0 - (((s - 1) - a) / s)))) (iq (0 - (((s - 1) - a) / s))) rfl (wrapI (by omega) (by omega)) ?_
  refine bS [0] 8 0 [(4, iq (0 - (((s - 1) - a) / s)))] ?_
  refine cont_done ?_
  refine then_normal ?_
  refine cont_ret ?_
  refine then_ret ?_
  refine ret_one (.inl rfl) rfl 0 (iq (0 - (((s - 1) - a) / s))) (by kernel_rfl) (by kernel_rfl) (fun w hT => ?_)
  exact ⟨ret_int (floor_neg (by omega)), hT.post rfl⟩
 replace c1_ := of_decide_eq_false c1_
 refine cont_false rfl ?_
 refine cont_skip ?_
 refine then_normal ?_
 refine cont_seq ?_
 refine cont_region 4 rfl ?_
 refine bS [0, 0] 2 2 [(14, iq a), (15, iq s)] ?_
 refine pl_step 3 1 rfl rfl ?_
 refine sem_step 16 (bopS .quo 3 (.tmp 14) (.tmp 15) (iq a) (iq s)) (iq (IntKind.i64.wrap (a.tdiv s))) (by kernel_rfl) (fun w hT => run_quo (by omega) w) ?_
 refine cont_recast 16 (iq (IntKind.i64.wrap (a.tdiv s))) (iq (a / s)) rfl (tdivI (by omega) (by omega) (by omega)) ?_
 refine bS [0] 4 0 [(4, iq (a / s))] ?_
 refine cont_done ?_
 refine then_normal ?_
 refine cont_ret ?_
 refine ret_one (.inl rfl) rfl 0 (iq (a / s)) (by kernel_rfl) (by kernel_rfl) (fun w hT => ?_)
 exact ⟨rfl, hT.post rfl⟩

theorem layColor (m : Nat) (W H : Int) (r n cap : Nat) (px : List Int) (X Y s al ca cb cc cd : Int) (x y : Int) (w : World) (hI : ImgR 118 w m W H r n cap px) (hok : ImgOk W H n px) (hs : 1 ≤ s ∧ s ≤ 8) (hX : -1000000 ≤ X ∧ X ≤ 1000000) (hY : -1000000 ≤ Y ∧ Y ≤ 1000000) (hx : -2000000 ≤ x ∧ x ≤ 2000000) (hy : -2000000 ≤ y ∧ y ≤ 2000000) :
    Calls Try.prog 49 #[.agg #[.pointer (some ⟨m, 0, none⟩), .int .i64 X, .int .i64 Y, .int .i64 s, .int .i64 al, .int .i64 ca, .int .i64 cb, .int .i64 cc, .int .i64 cd], .int .i64 x, .int .i64 y] w fun e w' => e = .returned (.tuple #[.int .u32 (pcolC W H X Y s al ca cb cc cd px x y), .bool (pcolB W H X Y s ca cb cc cd x y)]) ∧ Below w.heap.size w w' := by
 have hcap := hI.cap
 have hw1 := hok.w1
 have hw2 := hok.w2
 have hh1 := hok.h1
 have hh2 := hok.h2
 have hdx := ediv_range (a := x - X) (b := s) (m := 4000000) (by omega) (by omega) (by omega) (by omega)
 have hdy := ediv_range (a := y - Y) (b := s) (m := 4000000) (by omega) (by omega) (by omega) (by omega)
 have hac := hok.atC_range ((x - X) / s) ((y - Y) / s)
 refine enter 43 [(0, .agg #[.pointer (pB m), iq X, iq Y, iq s, iq al, iq ca, iq cb, iq cc, iq cd]), (1, iq x), (2, iq y)] [.ro m [iq W, iq H, .slice (pB r) n cap] 118, .gen (rdE (pB r) r 0 n 1 (ivals .u32 px))] Try.func49 rfl Try.ntmps49 rfl (by kernel_rfl) hI.tab ?_
 refine cont_seq ?_
 refine cont_region 3 rfl ?_
 refine batch1 [0, 0, 0] 3 0 (fun b1 => [(1, iq x), (2, iq y), (3, .pointer (pB b1))]) (fun b1 => [.cells b1 [.pointer (pB m), iq X, iq Y, iq s, iq al, iq ca, iq cb, iq cc, iq cd] 106 true, .ro m [iq W, iq H, .slice (pB r) n cap] 118, .gen (rdE (pB r) r 0 n 1 (ivals .u32 px))]) rfl rfl [1, 2, 3] (fun _ => rfl) (fun b1 => by kernel_rfl) (fun b1 => by kernel_rfl) (fun b1 => ?_)
 refine cont_done ?_
 refine then_normal ?_
 refine cont_seq ?_
 refine cont_seq ?_
 refine cont_region 6 rfl ?_
 refine bS [0] 1 5 [(1, iq x), (2, iq y), (3, .pointer (pB b1)), (10, .agg #[.pointer (pB m), iq X, iq Y, iq s, iq al, iq ca, iq cb, iq cc, iq cd])] ?_
 refine pl_step 2 4 rfl rfl ?_
 refine call_pure (d := 11) (.agg #[iq ((shwR W H X Y s ca cb cc cd).x0), iq ((shwR W H X Y s ca cb cc cd).y0), iq ((shwR W H X Y s ca cb cc cd).x1), iq ((shwR W H X Y s ca cb cc cd).y1)]) (by kernel_rfl) (fun w hT => layBox m W H r n cap px X Y s al ca cb cc cd w ⟨hT.ok 1 _ rfl, hT.ok 2 _ rfl, by omega⟩ hok) ?_
 refine bS [0, 0] 4 2 [(1, iq x), (2, iq y), (3, .pointer (pB b1)), (11, .agg #[iq ((shwR W H X Y s ca cb cc cd).x0), iq ((shwR W H X Y s ca cb cc cd).y0), iq ((shwR W H X Y s ca cb cc cd).x1), iq ((shwR W H X Y s ca cb cc cd).y1)]), (12, iq x), (13, iq y)] ?_
 refine pl_step 5 1 rfl rfl ?_
 refine call_pure (d := 14) (.bool (hasB ((shwR W H X Y s ca cb cc cd).x0) ((shwR W H X Y s ca cb cc cd).y0) ((shwR W H X Y s ca cb cc cd).x1) ((shwR W H X Y s ca cb cc cd).y1) x y)) (by kernel_rfl) (fun w hT => rectHas ((shwR W H X Y s ca cb cc cd).x0) ((shwR W H X Y s ca cb cc cd).y0) ((shwR W H X Y s ca cb cc cd).x1) ((shwR W H X Y s ca cb cc cd).y1) x y w) ?_
 refine cont_recast 14 (.bool (hasB ((shwR W H X Y s ca cb cc cd).x0) ((shwR W H X Y s ca cb cc cd).y0) ((shwR W H X Y s ca cb cc cd).x1) ((shwR W H X Y s ca cb cc cd).y1) x y)) (.bool (pcolB W H X Y s ca cb cc cd x y)) rfl (congrArg (Value.bool) (pcol_box hs hX hY ⟨hw1, hw2⟩ ⟨hh1, hh2⟩)) ?_
 refine bS [0] 6 0 [(1, iq x), (2, iq y), (3, .pointer (pB b1)), (15, .bool (!(pcolB W H X Y s ca cb cc cd x y)))] ?_
 refine cont_done ?_
 refine then_normal ?_
 refine cont_split 15 (!(pcolB W H X Y s ca cb cc cd x y)) rfl (fun c2_ => ?_) (fun c2_ => ?_)
 ·
  replace c2_ : (pcolB W H X Y s ca cb cc cd x y) = false := by simpa using c2_
  refine cont_true rfl ?_
  refine cont_seq ?_
  refine cont_region 2 rfl ?_
  refine bS [0, 0] 2 0 [(6, .int .u32 0), (7, .bool false)] ?_
  refine cont_forget 0 rfl ?_
  refine cont_done ?_
  refine then_normal ?_
  refine cont_ret ?_
  refine then_ret ?_
  refine ret_two (.inl rfl) rfl 0 0 (.int .u32 0) (.bool false) (by kernel_rfl) (by kernel_rfl) (by kernel_rfl) (by kernel_rfl) (fun w hT => ?_)
  exact ⟨by simp [pcolC, *], hT.post rfl⟩
 replace c2_ : (pcolB W H X Y s ca cb cc cd x y) = true := by simpa using c2_
 refine cont_false rfl ?_
 refine cont_skip ?_
 refine then_normal ?_
 refine cont_seq ?_
 refine drawn_enter 24 [] rfl (by kernel_rfl) ?_
 refine takes 0 [] [(0, 0), (2, 0), (3, 0), (7, 0), (10, 0), (11, 0), (15, 0), (1, 0), (4, 0), (8, 0), (12, 0), (16, 0), (5, 0), (13, 0), (6, 0)] 9 [6, 13, 5, 16, 12, 8, 4, 1, 15, 11, 10, 7, 3, 2, 0] [(3, .pointer (pB b1)), (18, .pointer (pB m)), (23, iq (IntKind.i64.wrap (x - X))), (25, iq s), (27, iq y), (30, iq Y), (33, iq s)] (by kernel_rfl) (pok_then pok_body) (by kernel_rfl) rfl rfl (by kernel_rfl) (by kernel_rfl) ?_
 refine cont_recast 23 (iq (IntKind.i64.wrap (x - X))) (iq (x - X)) rfl (wrapI (by omega) (by omega)) ?_
 refine takes 0 [] [(14, 0)] 8 [14, 6, 13, 5, 16, 12, 8, 4, 1, 15, 11, 10, 7, 3, 2, 0] [(3, .pointer (pB b1)), (18, .pointer (pB m)), (23, iq (x - X)), (25, iq s), (31, iq (IntKind.i64.wrap (y - Y))), (33, iq s)] (by kernel_rfl) (pok_then pok_body) (by kernel_rfl) rfl rfl (by kernel_rfl) (by kernel_rfl) ?_
 refine cont_recast 31 (iq (IntKind.i64.wrap (y - Y))) (iq (y - Y)) rfl (wrapI (by omega) (by omega)) ?_
 refine drawn_one 9 7 rfl (by kernel_rfl) ?_
 refine call_pure (d := 26) (iq ((x - X) / s)) (by kernel_rfl) (fun w hT => payFloor (x - X) s w (by omega) (by omega)) ?_
 refine drawn_next 0 [] (by kernel_rfl) ?_
 refine drawn_one 17 6 rfl (by kernel_rfl) ?_
 refine call_pure (d := 34) (iq ((y - Y) / s)) (by kernel_rfl) (fun w hT => payFloor (y - Y) s w (by omega) (by omega)) ?_
 refine drawn_next 0 [] (by kernel_rfl) ?_
 refine drawn_one 18 5 rfl (by kernel_rfl) ?_
 refine call_pure (d := 35) (.tuple #[.int .u32 (atC W H px ((x - X) / s) ((y - Y) / s)), .bool (hasB 0 0 W H ((x - X) / s) ((y - Y) / s))]) (by kernel_rfl) (fun w hT => imgAt m W H r n cap px ((x - X) / s) ((y - Y) / s) w ⟨hT.ok 1 _ rfl, hT.ok 2 _ rfl, by omega⟩ hok) ?_
 refine drawn_next 0 [] (by kernel_rfl) ?_
 refine takes 0 [] [(19, 0), (20, 0), (21, 0), (22, 0), (23, 0)] 0 [23, 22, 21, 20, 19, 18, 17, 9, 14, 6, 13, 5, 16, 12, 8, 4, 1, 15, 11, 10, 7, 3, 2, 0] [(3, .pointer (pB b1)), (8, .int .u32 (atC W H px ((x - X) / s) ((y - Y) / s))), (9, .bool (hasB 0 0 W H ((x - X) / s) ((y - Y) / s)))] (by kernel_rfl) (pok_then pok_body) (by kernel_rfl) rfl rfl (by kernel_rfl) (by kernel_rfl) ?_
 refine drawn_done (by kernel_rfl) ?_
 refine then_normal ?_
 refine cont_seq ?_
 refine cont_region 7 rfl ?_
 refine bS [0, 0, 0] 3 4 [(9, .bool (hasB 0 0 W H ((x - X) / s) ((y - Y) / s))), (38, .int .u32 (atC W H px ((x - X) / s) ((y - Y) / s))), (40, iq al)] ?_
 refine cont_forget 0 rfl ?_
 refine pl_step 4 3 rfl rfl ?_
 refine call_pure (d := 41) (.int .u32 (fadeC (atC W H px ((x - X) / s) ((y - Y) / s)) al)) (by kernel_rfl) (fun w hT => colFade (atC W H px ((x - X) / s) ((y - Y) / s)) al w (by omega) (by omega)) ?_
 refine bS [0, 0, 0] 7 0 [(6, .int .u32 (fadeC (atC W H px ((x - X) / s) ((y - Y) / s)) al)), (7, .bool (hasB 0 0 W H ((x - X) / s) ((y - Y) / s)))] ?_
 refine cont_done ?_
 refine then_normal ?_
 refine cont_ret ?_
 refine ret_two (.inl rfl) rfl 0 0 (.int .u32 (fadeC (atC W H px ((x - X) / s) ((y - Y) / s)) al)) (.bool (hasB 0 0 W H ((x - X) / s) ((y - Y) / s))) (by kernel_rfl) (by kernel_rfl) (by kernel_rfl) (by kernel_rfl) (fun w hT => ?_)
 exact ⟨by rw [pcolB_in ‹_›]; simp [pcolC, *], hT.post rfl⟩

end Go.Proofs.Ytlfahohbkgdabaa

/- The library contracts of slices.Sort and slices.Compact at whole numbers, laid at this program (the plain text that the kit has printed). -/
namespace Go.Proofs
open Go.Shelf
end Go.Proofs

