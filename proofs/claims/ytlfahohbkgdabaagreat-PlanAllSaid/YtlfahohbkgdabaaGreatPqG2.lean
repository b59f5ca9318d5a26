/- Texts of this proof's own, put together: what each holds is told ahead of it. -/
import Derived.Test.YtlfahohbkgdabaaGreatPqG1
import Derived.Test.YtlfahohbkgdabaaGreatProg
import Derived.Shelf.Sort.Plain
import Derived.Ground.Names2Prog
import Derived.Shelf.Slices.CompactI
import Derived.Shelf.Slices.In.SortNone
import Derived.Test.YtlfahohbkgdabaaGreatPqG0
set_option linter.unusedSimpArgs false
set_option linter.unusedVariables false
namespace Go.Proofs.YtlfahohbkgdabaaGreat
open Go Go.RowKit
set_option maxRecDepth 100000
set_option maxHeartbeats 8000000
theorem colPart (p q : Int) (w : World) :
    Calls Tryz.prog 114 #[iQ p, iQ q] w fun e w' => e = .returned (iQ (partI p q)) ∧ Below w.heap.size w w' := by
 have hcm := clip_mul p q
 refine eN [(0, iq p), (1, iq q)] Tryz.func114 Tryz.ntmps114 rfl (Tab.start w) ?_
 refine zSR 1 <| bD [0] 1 0 [] [4] <| zDNSR 8 <| bD [0] 1 7 [(5, iq p)] [] <| pS 2 6 <| cP 6 (iq (clip p)) (fun w hT => colorCut p w) <| bD [0] 3 5 [(7, iq q)] [] <| pS 4 4 <| cP 8 (iq (clip q)) (fun w hT => colorCut q w) <| bS [0] 5 3 [(9, iq (IntKind.i64.wrap ((clip p) * (clip q))))] <| wI 9 ((clip p) * (clip q)) <| bS [0] 6 2 [(10, iq (IntKind.i64.wrap (((clip p) * (clip q)) + 127)))] <| wI 10 (((clip p) * (clip q)) + 127) <| bS [0] 7 1 [(11, iq (IntKind.i64.wrap ((((clip p) * (clip q)) + 127).tdiv 255)))] <| rC 11 (iq ((((clip p) * (clip q)) + 127) / 255)) rfl (tdivI (by omega) (by omega) (by omega)) <| bS [0] 8 0 [(4, iq ((((clip p) * (clip q)) + 127) / 255))] <| zDNr <| rA rfl 0 (iq ((((clip p) * (clip q)) + 127) / 255)) fun w hT => ?_
 exact ⟨rfl, hT.post rfl⟩
theorem refPart (p q : Int) (w : World) :
    Calls Tryz.prog 83 #[iQ p, iQ q] w fun e w' => e = .returned (iQ (partI p q)) ∧ Below w.heap.size w w' := by
 have hcm := clip_mul p q
 have e1 : mn (mx p 0) 255 = clip p := by rw [mn_eq, mx_eq]; rfl
 have e2 : mn (mx q 0) 255 = clip q := by rw [mn_eq, mx_eq]; rfl
 rw [← e1, ← e2] at hcm
 refine eN [(0, iq p), (1, iq q)] Tryz.func83 Tryz.ntmps83 rfl (Tab.start w) ?_
 refine zSR 1 <| bD [0] 1 0 [] [4] <| zDNSR 4 <| bD [0, 0, 0, 0] 4 0 [(0, iq (mn (mx p 0) 255))] [5, 6, 7] <| zDNSR 4 <| bD [0, 0, 0, 0] 4 0 [(1, iq (mn (mx q 0) 255))] [8, 9, 10] <| zDNSR 6 <| bS [0, 0, 0] 3 3 [(13, iq (IntKind.i64.wrap ((mn (mx p 0) 255) * (mn (mx q 0) 255))))] <| wI 13 ((mn (mx p 0) 255) * (mn (mx q 0) 255)) <| bS [0] 4 2 [(14, iq (IntKind.i64.wrap (((mn (mx p 0) 255) * (mn (mx q 0) 255)) + 127)))] <| wI 14 (((mn (mx p 0) 255) * (mn (mx q 0) 255)) + 127) <| bS [0] 5 1 [(15, iq (IntKind.i64.wrap ((((mn (mx p 0) 255) * (mn (mx q 0) 255)) + 127).tdiv 255)))] <| rC 15 (iq ((((mn (mx p 0) 255) * (mn (mx q 0) 255)) + 127) / 255)) rfl (tdivI (by omega) (by omega) (by omega)) <| bS [0] 6 0 [(4, iq ((((mn (mx p 0) 255) * (mn (mx q 0) 255)) + 127) / 255))] <| zDNr <| rA rfl 0 (iq ((((mn (mx p 0) 255) * (mn (mx q 0) 255)) + 127) / 255)) fun w hT => ?_
 exact ⟨ret_int (by unfold partI; rw [← e1, ← e2]), hT.post rfl⟩
theorem over0 (kb1 kb2 : Nat) (a r g b s n : Int) (w : World) (hT0 : Tab w w [.ro kb1 [iQ a, iQ r, iQ g, iQ b] 53, .ro kb2 [iQ s] 3]) (h : 0 ≤ a ∧ a ≤ 255) :
    Calls Tryz.prog 113 #[iQ 0, iQ n, pT kb1, pT kb2] w fun e w' => e = .returned (iQ (a + partI n s)) ∧ Below w.heap.size w w' := by
 have hpi := partI_range n s
 refine eN [(0, iq 0), (1, iq n), (2, .pointer (pB kb1)), (3, .pointer (pB kb2))] Tryz.func113 Tryz.ntmps113 rfl hT0 ?_
 refine zSR 1 <| bD [0] 1 0 [] [6] <| zDNS <| drawn_enter 8 [] rfl (by kernel_rfl) ?_
 refine tD 0 [] [(0, 0), (3, 0), (4, 1), (1, 0), (2, 0)] 3 [2, 1, 4, 3, 0] [(9, iq a), (10, iq n), (11, iq s)] [7, 8] <| dO 5 2 <| cP 12 (iq (partI n s)) (fun w hT => colPart n s w) <| dX 0 [] <| tD 0 [] [(6, 0)] 1 [6, 5, 2, 1, 4, 3, 0] [(13, iq (IntKind.i64.wrap (a + (partI n s))))] [] <| wI 13 (a + (partI n s)) <| tD 0 [] [(7, 0)] 0 [7, 6, 5, 2, 1, 4, 3, 0] [(6, iq (a + (partI n s)))] [] <| dD <| zNr <| rA rfl 0 (iq (a + (partI n s))) fun w hT => ?_
 exact ⟨rfl, hT.post rfl⟩
theorem over1 (kb1 kb2 : Nat) (a r g b s n : Int) (w : World) (hT0 : Tab w w [.ro kb1 [iQ a, iQ r, iQ g, iQ b] 53, .ro kb2 [iQ s] 3]) (h : 0 ≤ r ∧ r ≤ 255) :
    Calls Tryz.prog 113 #[iQ 1, iQ n, pT kb1, pT kb2] w fun e w' => e = .returned (iQ (r + partI n s)) ∧ Below w.heap.size w w' := by
 have hpi := partI_range n s
 refine eN [(0, iq 1), (1, iq n), (2, .pointer (pB kb1)), (3, .pointer (pB kb2))] Tryz.func113 Tryz.ntmps113 rfl hT0 ?_
 refine zSR 1 <| bD [0] 1 0 [] [6] <| zDNS <| drawn_enter 8 [] rfl (by kernel_rfl) ?_
 refine tD 0 [] [(0, 0), (3, 0), (4, 1), (1, 0), (2, 0)] 3 [2, 1, 4, 3, 0] [(9, iq r), (10, iq n), (11, iq s)] [7, 8] <| dO 5 2 <| cP 12 (iq (partI n s)) (fun w hT => colPart n s w) <| dX 0 [] <| tD 0 [] [(6, 0)] 1 [6, 5, 2, 1, 4, 3, 0] [(13, iq (IntKind.i64.wrap (r + (partI n s))))] [] <| wI 13 (r + (partI n s)) <| tD 0 [] [(7, 0)] 0 [7, 6, 5, 2, 1, 4, 3, 0] [(6, iq (r + (partI n s)))] [] <| dD <| zNr <| rA rfl 0 (iq (r + (partI n s))) fun w hT => ?_
 exact ⟨rfl, hT.post rfl⟩
theorem over2 (kb1 kb2 : Nat) (a r g b s n : Int) (w : World) (hT0 : Tab w w [.ro kb1 [iQ a, iQ r, iQ g, iQ b] 53, .ro kb2 [iQ s] 3]) (h : 0 ≤ g ∧ g ≤ 255) :
    Calls Tryz.prog 113 #[iQ 2, iQ n, pT kb1, pT kb2] w fun e w' => e = .returned (iQ (g + partI n s)) ∧ Below w.heap.size w w' := by
 have hpi := partI_range n s
 refine eN [(0, iq 2), (1, iq n), (2, .pointer (pB kb1)), (3, .pointer (pB kb2))] Tryz.func113 Tryz.ntmps113 rfl hT0 ?_
 refine zSR 1 <| bD [0] 1 0 [] [6] <| zDNS <| drawn_enter 8 [] rfl (by kernel_rfl) ?_
 refine tD 0 [] [(0, 0), (3, 0), (4, 1), (1, 0), (2, 0)] 3 [2, 1, 4, 3, 0] [(9, iq g), (10, iq n), (11, iq s)] [7, 8] <| dO 5 2 <| cP 12 (iq (partI n s)) (fun w hT => colPart n s w) <| dX 0 [] <| tD 0 [] [(6, 0)] 1 [6, 5, 2, 1, 4, 3, 0] [(13, iq (IntKind.i64.wrap (g + (partI n s))))] [] <| wI 13 (g + (partI n s)) <| tD 0 [] [(7, 0)] 0 [7, 6, 5, 2, 1, 4, 3, 0] [(6, iq (g + (partI n s)))] [] <| dD <| zNr <| rA rfl 0 (iq (g + (partI n s))) fun w hT => ?_
 exact ⟨rfl, hT.post rfl⟩
theorem over3 (kb1 kb2 : Nat) (a r g b s n : Int) (w : World) (hT0 : Tab w w [.ro kb1 [iQ a, iQ r, iQ g, iQ b] 53, .ro kb2 [iQ s] 3]) (h : 0 ≤ b ∧ b ≤ 255) :
    Calls Tryz.prog 113 #[iQ 3, iQ n, pT kb1, pT kb2] w fun e w' => e = .returned (iQ (b + partI n s)) ∧ Below w.heap.size w w' := by
 have hpi := partI_range n s
 refine eN [(0, iq 3), (1, iq n), (2, .pointer (pB kb1)), (3, .pointer (pB kb2))] Tryz.func113 Tryz.ntmps113 rfl hT0 ?_
 refine zSR 1 <| bD [0] 1 0 [] [6] <| zDNS <| drawn_enter 8 [] rfl (by kernel_rfl) ?_
 refine tD 0 [] [(0, 0), (3, 0), (4, 1), (1, 0), (2, 0)] 3 [2, 1, 4, 3, 0] [(9, iq b), (10, iq n), (11, iq s)] [7, 8] <| dO 5 2 <| cP 12 (iq (partI n s)) (fun w hT => colPart n s w) <| dX 0 [] <| tD 0 [] [(6, 0)] 1 [6, 5, 2, 1, 4, 3, 0] [(13, iq (IntKind.i64.wrap (b + (partI n s))))] [] <| wI 13 (b + (partI n s)) <| tD 0 [] [(7, 0)] 0 [7, 6, 5, 2, 1, 4, 3, 0] [(6, iq (b + (partI n s)))] [] <| dD <| zNr <| rA rfl 0 (iq (b + (partI n s))) fun w hT => ?_
 exact ⟨rfl, hT.post rfl⟩
theorem eachOver (kb1 kb2 : Nat) (a r g b s c : Int) (w : World) (hT0 : Tab w w [.ro kb1 [iQ a, iQ r, iQ g, iQ b] 53, .ro kb2 [iQ s] 3]) (hr : (0 ≤ a ∧ a ≤ 255) ∧ (0 ≤ r ∧ r ≤ 255) ∧ (0 ≤ g ∧ g ≤ 255) ∧ (0 ≤ b ∧ b ≤ 255)) (h0 : 0 ≤ c) (h1 : c < 4294967296) :
    Calls Tryz.prog 112 #[cQ c, .func (.func 113) #[] #[pT kb1, pT kb2]] w fun e w' => e = .returned (cQ (mkC (a + partI (pa c) s) (r + partI (pr c) s) (g + partI (pg c) s) (b + partI (pb c) s))) ∧ Below w.heap.size w w' := by
 refine eN [(0, cQ c), (1, .func (.func 113) #[] #[.pointer (pB kb1), .pointer (pB kb2)])] Tryz.func112 Tryz.ntmps112 rfl hT0 ?_
 refine zSR 1 <| bD [0] 1 0 [] [4] <| zDNSR 4 <| bD [0] 1 3 [(7, cQ c)] [] <| pS 2 2 <| cP 8 (.agg #[iq (pa c), iq (pr c), iq (pg c), iq (pb c)]) (fun w hT => colorParts c w (by omega) (by omega)) <| bW [0, 0] 4 0 (fun b1 => [(1, .func (.func 113) #[] #[.pointer (pB kb1), .pointer (pB kb2)]), (5, .pointer (pB b1))]) (fun b1 => [.cells b1 [iq (pa c), iq (pr c), iq (pg c), iq (pb c)] 53 true, .ro kb1 [iq a, iq r, iq g, iq b] 53, .ro kb2 [iq s] 3]) [1, 5] fun b1 => ?_
 refine zDNSSR 1 <| bD [0] 1 0 [(9, iq 0)] [] <| zDNB <| cont_rounds 5 ?_
 refine cont_round 5 4 rfl ?_
 refine zSR 1 <| bD [0] 1 0 [(10, .bool true)] [] <| zDNSTKNSBSR 2 <| bD [0, 0] 2 0 [(6, iq 0)] [11] <| zDNR 9 <| bD [0, 0, 0, 0, 0, 0] 6 3 [(12, iq 0), (13, .func (.func 113) #[] #[.pointer (pB kb1), .pointer (pB kb2)]), (14, iq 0), (17, iq (pa c))] [15, 16] <| pS 7 2 <| cP 18 (iq (a + partI (pa c) s)) (fun w hT => over0 kb1 kb2 a r g b s (pa c) w (hT.viewRo (.cons (i := 1) rfl Vw.ro (.cons (i := 2) rfl Vw.ro .nil)) rfl) (by omega)) <| bZ [0, 0] 9 0 [(1, .func (.func 113) #[] #[.pointer (pB kb1), .pointer (pB kb2)]), (5, .pointer (pB b1)), (9, iq 0)] [.cells b1 [iq (a + partI (pa c) s), iq (pr c), iq (pg c), iq (pb c)] 53 true, .ro kb1 [iq a, iq r, iq g, iq b] 53, .ro kb2 [iq s] 3] <| zDbNR 2 <| bD [0, 0] 2 0 [(9, iq 1)] [20] <| zDN <| cont_round 4 3 rfl ?_
 refine zSR 1 <| bD [0] 1 0 [(10, .bool true)] [] <| zDNSTKNSBSR 2 <| bD [0, 0] 2 0 [(6, iq 1)] [11] <| zDNR 9 <| bD [0, 0, 0, 0, 0, 0] 6 3 [(12, iq 1), (13, .func (.func 113) #[] #[.pointer (pB kb1), .pointer (pB kb2)]), (14, iq 1), (17, iq (pr c))] [15, 16] <| pS 7 2 <| cP 18 (iq (r + partI (pr c) s)) (fun w hT => over1 kb1 kb2 a r g b s (pr c) w (hT.viewRo (.cons (i := 1) rfl Vw.ro (.cons (i := 2) rfl Vw.ro .nil)) rfl) (by omega)) <| bZ [0, 0] 9 0 [(1, .func (.func 113) #[] #[.pointer (pB kb1), .pointer (pB kb2)]), (5, .pointer (pB b1)), (9, iq 1)] [.cells b1 [iq (a + partI (pa c) s), iq (r + partI (pr c) s), iq (pg c), iq (pb c)] 53 true, .ro kb1 [iq a, iq r, iq g, iq b] 53, .ro kb2 [iq s] 3] <| zDbNR 2 <| bD [0, 0] 2 0 [(9, iq 2)] [20] <| zDN <| cont_round 3 2 rfl ?_
 refine zSR 1 <| bD [0] 1 0 [(10, .bool true)] [] <| zDNSTKNSBSR 2 <| bD [0, 0] 2 0 [(6, iq 2)] [11] <| zDNR 9 <| bD [0, 0, 0, 0, 0, 0] 6 3 [(12, iq 2), (13, .func (.func 113) #[] #[.pointer (pB kb1), .pointer (pB kb2)]), (14, iq 2), (17, iq (pg c))] [15, 16] <| pS 7 2 <| cP 18 (iq (g + partI (pg c) s)) (fun w hT => over2 kb1 kb2 a r g b s (pg c) w (hT.viewRo (.cons (i := 1) rfl Vw.ro (.cons (i := 2) rfl Vw.ro .nil)) rfl) (by omega)) <| bZ [0, 0] 9 0 [(1, .func (.func 113) #[] #[.pointer (pB kb1), .pointer (pB kb2)]), (5, .pointer (pB b1)), (9, iq 2)] [.cells b1 [iq (a + partI (pa c) s), iq (r + partI (pr c) s), iq (g + partI (pg c) s), iq (pb c)] 53 true, .ro kb1 [iq a, iq r, iq g, iq b] 53, .ro kb2 [iq s] 3] <| zDbNR 2 <| bS [0, 0] 2 0 [(1, .func (.func 113) #[] #[.pointer (pB kb1), .pointer (pB kb2)]), (5, .pointer (pB b1)), (9, iq 3)] <| zDN <| cont_round 2 1 rfl ?_
 refine zSR 1 <| bD [0] 1 0 [(10, .bool true)] [] <| zDNSTKNSBSR 2 <| bD [0, 0] 2 0 [(6, iq 3)] [11] <| zDNR 9 <| bD [0, 0, 0, 0, 0, 0] 6 3 [(12, iq 3), (13, .func (.func 113) #[] #[.pointer (pB kb1), .pointer (pB kb2)]), (14, iq 3), (17, iq (pb c))] [15, 16] <| pS 7 2 <| cP 18 (iq (b + partI (pb c) s)) (fun w hT => over3 kb1 kb2 a r g b s (pb c) w (hT.viewRo (.cons (i := 1) rfl Vw.ro (.cons (i := 2) rfl Vw.ro .nil)) rfl) (by omega)) <| bZ [0, 0] 9 0 [(1, .func (.func 113) #[] #[.pointer (pB kb1), .pointer (pB kb2)]), (5, .pointer (pB b1)), (9, iq 3)] [.cells b1 [iq (a + partI (pa c) s), iq (r + partI (pr c) s), iq (g + partI (pg c) s), iq (b + partI (pb c) s)] 53 true, .ro kb1 [iq a, iq r, iq g, iq b] 53, .ro kb2 [iq s] 3] <| zDbNR 2 <| bD [0, 0] 2 0 [(9, iq 4)] [20] <| zDN <| cont_round 1 0 rfl ?_
 refine zSR 1 <| bD [0] 1 0 [(10, .bool false)] [] <| zDNSFXxxeNSR 10 <| bS [0, 0, 0, 0, 0, 0, 0, 0] 8 2 [(22, iq (a + partI (pa c) s)), (24, iq (r + partI (pr c) s)), (26, iq (g + partI (pg c) s)), (28, iq (b + partI (pb c) s))] <| fG 0 <| pS 9 1 <| cP 29 (cQ (mkC (a + partI (pa c) s) (r + partI (pr c) s) (g + partI (pg c) s) (b + partI (pb c) s))) (fun w hT => colorMake (a + partI (pa c) s) (r + partI (pr c) s) (g + partI (pg c) s) (b + partI (pb c) s) w) <| bS [0] 10 0 [(4, cQ (mkC (a + partI (pa c) s) (r + partI (pr c) s) (g + partI (pg c) s) (b + partI (pb c) s)))] <| zDNr <| rA rfl 0 (cQ (mkC (a + partI (pa c) s) (r + partI (pr c) s) (g + partI (pg c) s) (b + partI (pb c) s))) fun w hT => ?_
 exact ⟨rfl, hT.post rfl⟩
theorem fade1 (kb1 : Nat) (al i n : Int) (w : World) (hT0 : Tab w w [.ro kb1 [iQ al] 3]) :
    Calls Tryz.prog 124 #[iQ i, iQ n, pT kb1] w fun e w' => e = .returned (iQ (partI n al)) ∧ Below w.heap.size w w' := by
 refine eN [(1, iq n), (2, .pointer (pB kb1))] Tryz.func124 Tryz.ntmps124 rfl hT0 ?_
 refine zSR 1 <| bD [0] 1 0 [] [5] <| zDNSR 4 <| bS [0, 0] 2 2 [(6, iq n), (7, iq al)] <| pS 3 1 <| cP 8 (iq (partI n al)) (fun w hT => colPart n al w) <| bS [0] 4 0 [(5, iq (partI n al))] <| zDNr <| rA rfl 0 (iq (partI n al)) fun w hT => ?_
 exact ⟨rfl, hT.post rfl⟩
theorem eachFade (kb1 : Nat) (al c : Int) (w : World) (hT0 : Tab w w [.ro kb1 [iQ al] 3]) (h0 : 0 ≤ c) (h1 : c < 4294967296) :
    Calls Tryz.prog 112 #[cQ c, .func (.func 124) #[] #[pT kb1]] w fun e w' => e = .returned (cQ (fadeC c al)) ∧ Below w.heap.size w w' := by
 refine eN [(0, cQ c), (1, .func (.func 124) #[] #[.pointer (pB kb1)])] Tryz.func112 Tryz.ntmps112 rfl hT0 ?_
 refine zSR 1 <| bD [0] 1 0 [] [4] <| zDNSR 4 <| bD [0] 1 3 [(7, cQ c)] [] <| pS 2 2 <| cP 8 (.agg #[iq (pa c), iq (pr c), iq (pg c), iq (pb c)]) (fun w hT => colorParts c w (by omega) (by omega)) <| bW [0, 0] 4 0 (fun b1 => [(1, .func (.func 124) #[] #[.pointer (pB kb1)]), (5, .pointer (pB b1))]) (fun b1 => [.cells b1 [iq (pa c), iq (pr c), iq (pg c), iq (pb c)] 53 true, .ro kb1 [iq al] 3]) [1, 5] fun b1 => ?_
 refine zDNSSR 1 <| bD [0] 1 0 [(9, iq 0)] [] <| zDNB <| cont_rounds 5 ?_
 refine cont_round 5 4 rfl ?_
 refine zSR 1 <| bD [0] 1 0 [(10, .bool true)] [] <| zDNSTKNSBSR 2 <| bD [0, 0] 2 0 [(6, iq 0)] [11] <| zDNR 9 <| bD [0, 0, 0, 0, 0, 0] 6 3 [(12, iq 0), (13, .func (.func 124) #[] #[.pointer (pB kb1)]), (14, iq 0), (17, iq (pa c))] [15, 16] <| pS 7 2 <| cP 18 (iq (partI (pa c) al)) (fun w hT => fade1 kb1 al 0 (pa c) w (hT.viewRo (.cons (i := 1) rfl Vw.ro .nil) rfl)) <| bZ [0, 0] 9 0 [(1, .func (.func 124) #[] #[.pointer (pB kb1)]), (5, .pointer (pB b1)), (9, iq 0)] [.cells b1 [iq (partI (pa c) al), iq (pr c), iq (pg c), iq (pb c)] 53 true, .ro kb1 [iq al] 3] <| zDbNR 2 <| bD [0, 0] 2 0 [(9, iq 1)] [20] <| zDN <| cont_round 4 3 rfl ?_
 refine zSR 1 <| bD [0] 1 0 [(10, .bool true)] [] <| zDNSTKNSBSR 2 <| bD [0, 0] 2 0 [(6, iq 1)] [11] <| zDNR 9 <| bD [0, 0, 0, 0, 0, 0] 6 3 [(12, iq 1), (13, .func (.func 124) #[] #[.pointer (pB kb1)]), (14, iq 1), (17, iq (pr c))] [15, 16] <| pS 7 2 <| cP 18 (iq (partI (pr c) al)) (fun w hT => fade1 kb1 al 1 (pr c) w (hT.viewRo (.cons (i := 1) rfl Vw.ro .nil) rfl)) <| bZ [0, 0] 9 0 [(1, .func (.func 124) #[] #[.pointer (pB kb1)]), (5, .pointer (pB b1)), (9, iq 1)] [.cells b1 [iq (partI (pa c) al), iq (partI (pr c) al), iq (pg c), iq (pb c)] 53 true, .ro kb1 [iq al] 3] <| zDbNR 2 <| bD [0, 0] 2 0 [(9, iq 2)] [20] <| zDN <| cont_round 3 2 rfl ?_
 refine zSR 1 <| bD [0] 1 0 [(10, .bool true)] [] <| zDNSTKNSBSR 2 <| bD [0, 0] 2 0 [(6, iq 2)] [11] <| zDNR 9 <| bD [0, 0, 0, 0, 0, 0] 6 3 [(12, iq 2), (13, .func (.func 124) #[] #[.pointer (pB kb1)]), (14, iq 2), (17, iq (pg c))] [15, 16] <| pS 7 2 <| cP 18 (iq (partI (pg c) al)) (fun w hT => fade1 kb1 al 2 (pg c) w (hT.viewRo (.cons (i := 1) rfl Vw.ro .nil) rfl)) <| bZ [0, 0] 9 0 [(1, .func (.func 124) #[] #[.pointer (pB kb1)]), (5, .pointer (pB b1)), (9, iq 2)] [.cells b1 [iq (partI (pa c) al), iq (partI (pr c) al), iq (partI (pg c) al), iq (pb c)] 53 true, .ro kb1 [iq al] 3] <| zDbNR 2 <| bS [0, 0] 2 0 [(1, .func (.func 124) #[] #[.pointer (pB kb1)]), (5, .pointer (pB b1)), (9, iq 3)] <| zDN <| cont_round 2 1 rfl ?_
 refine zSR 1 <| bD [0] 1 0 [(10, .bool true)] [] <| zDNSTKNSBSR 2 <| bD [0, 0] 2 0 [(6, iq 3)] [11] <| zDNR 9 <| bD [0, 0, 0, 0, 0, 0] 6 3 [(12, iq 3), (13, .func (.func 124) #[] #[.pointer (pB kb1)]), (14, iq 3), (17, iq (pb c))] [15, 16] <| pS 7 2 <| cP 18 (iq (partI (pb c) al)) (fun w hT => fade1 kb1 al 3 (pb c) w (hT.viewRo (.cons (i := 1) rfl Vw.ro .nil) rfl)) <| bZ [0, 0] 9 0 [(1, .func (.func 124) #[] #[.pointer (pB kb1)]), (5, .pointer (pB b1)), (9, iq 3)] [.cells b1 [iq (partI (pa c) al), iq (partI (pr c) al), iq (partI (pg c) al), iq (partI (pb c) al)] 53 true, .ro kb1 [iq al] 3] <| zDbNR 2 <| bD [0, 0] 2 0 [(9, iq 4)] [20] <| zDN <| cont_round 1 0 rfl ?_
 refine zSR 1 <| bD [0] 1 0 [(10, .bool false)] [] <| zDNSFXxxeNSR 10 <| bS [0, 0, 0, 0, 0, 0, 0, 0] 8 2 [(22, iq (partI (pa c) al)), (24, iq (partI (pr c) al)), (26, iq (partI (pg c) al)), (28, iq (partI (pb c) al))] <| fG 0 <| pS 9 1 <| cP 29 (cQ (mkC (partI (pa c) al) (partI (pr c) al) (partI (pg c) al) (partI (pb c) al))) (fun w hT => colorMake (partI (pa c) al) (partI (pr c) al) (partI (pg c) al) (partI (pb c) al) w) <| bS [0] 10 0 [(4, cQ (mkC (partI (pa c) al) (partI (pr c) al) (partI (pg c) al) (partI (pb c) al)))] <| zDNr <| rA rfl 0 (cQ (mkC (partI (pa c) al) (partI (pr c) al) (partI (pg c) al) (partI (pb c) al))) fun w hT => ?_
 exact ⟨rfl, hT.post rfl⟩
theorem colOver (c d : Int) (w : World) (hc0 : 0 ≤ c) (hc1 : c < 4294967296) (hd0 : 0 ≤ d) (hd1 : d < 4294967296) :
    Calls Tryz.prog 90 #[cQ c, cQ d] w fun e w' => e = .returned (cQ (overC c d)) ∧ Below w.heap.size w w' := by
 obtain ⟨⟨hpa0, hpa1⟩, ⟨hpr0, hpr1⟩, ⟨hpg0, hpg1⟩, ⟨hpb0, hpb1⟩⟩ := parts_range (c := c) ⟨by omega, by omega⟩
 refine eN [(0, cQ c), (1, cQ d)] Tryz.func90 Tryz.ntmps90 rfl (Tab.start w) ?_
 refine zSR 1 <| bD [0] 1 0 [] [4] <| zDNSR 10 <| bD [0] 1 9 [(7, cQ c)] [] <| pS 2 8 <| cP 8 (.agg #[iq (pa c), iq (pr c), iq (pg c), iq (pb c)]) (fun w hT => colorParts c w (by omega) (by omega)) <| bD [0] 3 7 [(9, cQ c)] [] <| pS 4 6 <| cP 10 (.agg #[iq (pa c), iq (pr c), iq (pg c), iq (pb c)]) (fun w hT => colorParts c w (by omega) (by omega)) <| bD [0, 0] 6 4 [(12, iq (IntKind.i64.wrap (255 - (pa c))))] [11] <| wI 12 (255 - (pa c)) <| batch2 [0, 0, 1, 0] 10 0 (fun b2 b3 => [(1, cQ d), (5, .pointer (pB b2)), (6, .pointer (pB b3))]) (fun b2 b3 => [.cells b3 [iq (255 - (pa c))] 3 true, .cells b2 [iq (pa c), iq (pr c), iq (pg c), iq (pb c)] 53 true]) rfl rfl [1, 5, 6] (fun _ _ => rfl) (fun b2 b3 => by kernel_rfl) (fun b2 b3 => by kernel_rfl) (fun b2 b3 => ?_)
 refine zDNSR 4 <| bS [0, 0] 2 2 [(13, cQ d), (14, .func (.func 113) #[] #[.pointer (pB b2), .pointer (pB b3)])] <| pS 3 1 <| cP 15 (cQ (mkC ((pa c) + partI (pa d) (255 - (pa c))) ((pr c) + partI (pr d) (255 - (pa c))) ((pg c) + partI (pg d) (255 - (pa c))) ((pb c) + partI (pb d) (255 - (pa c))))) (fun w hT => eachOver b2 b3 (pa c) (pr c) (pg c) (pb c) (255 - (pa c)) d w (hT.viewRo (.cons (i := 1) rfl Vw.roc (.cons (i := 0) rfl Vw.roc .nil)) rfl) ⟨by omega, by omega, by omega, by omega⟩ (by omega) (by omega)) <| bS [0] 4 0 [(4, cQ (mkC ((pa c) + partI (pa d) (255 - (pa c))) ((pr c) + partI (pr d) (255 - (pa c))) ((pg c) + partI (pg d) (255 - (pa c))) ((pb c) + partI (pb d) (255 - (pa c)))))] <| fG 0 <| fG 0 <| zDNr <| rA rfl 0 (cQ (mkC ((pa c) + partI (pa d) (255 - (pa c))) ((pr c) + partI (pr d) (255 - (pa c))) ((pg c) + partI (pg d) (255 - (pa c))) ((pb c) + partI (pb d) (255 - (pa c))))) fun w hT => ?_
 exact ⟨rfl, hT.post rfl⟩
theorem colFade (c al : Int) (w : World) (hc0 : 0 ≤ c) (hc1 : c < 4294967296) :
    Calls Tryz.prog 111 #[cQ c, iQ al] w fun e w' => e = .returned (cQ (fadeC c al)) ∧ Below w.heap.size w w' := by
 refine eN [(0, cQ c), (1, iq al)] Tryz.func111 Tryz.ntmps111 rfl (Tab.start w) ?_
 refine zSR 2 <| bW [0, 0] 2 0 (fun b1 => [(0, cQ c), (3, .pointer (pB b1))]) (fun b1 => [.cells b1 [iq al] 3 true]) [0, 3] fun b1 => ?_
 refine zDNSR 4 <| bS [0, 0] 2 2 [(5, cQ c), (6, .func (.func 124) #[] #[.pointer (pB b1)])] <| pS 3 1 <| cP 7 (cQ (fadeC c al)) (fun w hT => eachFade b1 al c w (hT.viewRo (.cons (i := 0) rfl Vw.roc .nil) rfl) (by omega) (by omega)) <| bS [0] 4 0 [(4, cQ (fadeC c al))] <| fG 0 <| zDNr <| rA rfl 0 (cQ (fadeC c al)) fun w hT => ?_
 exact ⟨rfl, hT.post rfl⟩
theorem refOver (c d : Int) (w : World) (hc0 : 0 ≤ c) (hc1 : c < 4294967296) (hd0 : 0 ≤ d) (hd1 : d < 4294967296) :
    Calls Tryz.prog 54 #[cQ c, cQ d] w fun e w' => e = .returned (cQ (overC c d)) ∧ Below w.heap.size w w' := by
 obtain ⟨⟨hpa0, hpa1⟩, ⟨hpr0, hpr1⟩, ⟨hpg0, hpg1⟩, ⟨hpb0, hpb1⟩⟩ := parts_range (c := c) ⟨by omega, by omega⟩
 have hpa2 := partI_range (pa d) (255 - pa c)
 have hpr2 := partI_range (pr d) (255 - pa c)
 have hpg2 := partI_range (pg d) (255 - pa c)
 have hpb2 := partI_range (pb d) (255 - pa c)
 refine eN [(0, cQ c), (1, cQ d)] Tryz.func54 Tryz.ntmps54 rfl (Tab.start w) ?_
 refine zSR 1 <| bD [0] 1 0 [] [4] <| zDNSR 4 <| bD [0] 1 3 [(9, cQ c)] [] <| pS 2 2 <| cP 10 (.agg #[iq (pa c), iq (pr c), iq (pg c), iq (pb c)]) (fun w hT => refParts c w (by omega) (by omega)) <| bW [0, 0] 4 0 (fun b1 => [(1, cQ d), (5, .pointer (pB b1))]) (fun b1 => [.cells b1 [iq (pa c), iq (pr c), iq (pg c), iq (pb c)] 53 true]) [1, 5] fun b1 => ?_
 refine zDNSR 4 <| bD [0] 1 3 [(11, cQ d)] [] <| pS 2 2 <| cP 12 (.agg #[iq (pa d), iq (pr d), iq (pg d), iq (pb d)]) (fun w hT => refParts d w (by omega) (by omega)) <| bW [0, 0] 4 0 (fun b2 => [(5, .pointer (pB b1)), (6, .pointer (pB b2))]) (fun b2 => [.cells b2 [iq (pa d), iq (pr d), iq (pg d), iq (pb d)] 53 true, .cells b1 [iq (pa c), iq (pr c), iq (pg c), iq (pb c)] 53 true]) [5, 6] fun b2 => ?_
 refine zDNSR 1 <| bW [0] 1 0 (fun b3 => [(5, .pointer (pB b1)), (6, .pointer (pB b2)), (7, .pointer (pB b3))]) (fun b3 => [.cells b3 [iq 0, iq 0, iq 0, iq 0] 53 true, .cells b2 [iq (pa d), iq (pr d), iq (pg d), iq (pb d)] 53 true, .cells b1 [iq (pa c), iq (pr c), iq (pg c), iq (pb c)] 53 true]) [5, 6, 7] fun b3 => ?_
 refine zDNSSR 1 <| bD [0] 1 0 [(8, iq 0)] [] <| zDNB <| cont_rounds 5 ?_
 refine cont_round 5 4 rfl ?_
 refine zSSR 2 <| bD [0, 0] 2 0 [(14, .bool true)] [13] <| zDN <| cTr rfl <| cont_skip <| zN <| cSq <| cont_block <| drawn_enter 15 [0] rfl (by kernel_rfl) ?_
 refine tD 0 [0] [(0, 0), (1, 0), (4, 0), (7, 0), (2, 0), (5, 0), (8, 2), (3, 2), (6, 1), (9, 0)] 5 [9, 6, 3, 8, 5, 2, 7, 4, 1, 0] [(17, iq 0), (20, iq (pa c)), (23, iq (pa d)), (26, iq (IntKind.i64.wrap (255 - (pa c))))] [18, 19, 21, 22, 24, 25] <| wI 26 (255 - (pa c)) <| dO 10 4 <| cP 27 (iq (partI (pa d) (255 - (pa c)))) (fun w hT => refPart (pa d) (255 - (pa c)) w) <| dX 0 [0] <| tD 0 [0] [(11, 0)] 3 [11, 10, 9, 6, 3, 8, 5, 2, 7, 4, 1, 0] [(28, iq (IntKind.i64.wrap ((pa c) + (partI (pa d) (255 - (pa c))))))] [] <| wI 28 ((pa c) + (partI (pa d) (255 - (pa c)))) <| tD 0 [0] [(12, 0), (13, 0)] 1 [13, 12, 11, 10, 9, 6, 3, 8, 5, 2, 7, 4, 1, 0] [(29, iq (mn ((pa c) + (partI (pa d) (255 - (pa c)))) 255)), (30, .pointer (pB b3))] [] <| dO 14 0 <| oS 0 [(5, .pointer (pB b1)), (6, .pointer (pB b2)), (7, .pointer (pB b3)), (8, iq 0)] [.cells b3 [iq (mn ((pa c) + (partI (pa d) (255 - (pa c)))) 255), iq 0, iq 0, iq 0] 53 true, .cells b2 [iq (pa d), iq (pr d), iq (pg d), iq (pb d)] 53 true, .cells b1 [iq (pa c), iq (pr c), iq (pg c), iq (pb c)] 53 true] <| dX 0 [0] <| dD <| zbNR 3 <| bD [0, 0, 0] 3 0 [(8, iq 1)] [15, 16] <| zDN <| cont_round 4 3 rfl ?_
 refine zSSR 2 <| bD [0, 0] 2 0 [(14, .bool true)] [13] <| zDN <| cTr rfl <| cont_skip <| zN <| cSq <| cont_block <| drawn_enter 15 [0] rfl (by kernel_rfl) ?_
 refine tD 0 [0] [(0, 0), (1, 0), (4, 0), (7, 0), (2, 0), (5, 0), (8, 2), (3, 2), (6, 1), (9, 0)] 5 [9, 6, 3, 8, 5, 2, 7, 4, 1, 0] [(17, iq 1), (20, iq (pr c)), (23, iq (pr d)), (26, iq (IntKind.i64.wrap (255 - (pa c))))] [18, 19, 21, 22, 24, 25] <| wI 26 (255 - (pa c)) <| dO 10 4 <| cP 27 (iq (partI (pr d) (255 - (pa c)))) (fun w hT => refPart (pr d) (255 - (pa c)) w) <| dX 0 [0] <| tD 0 [0] [(11, 0)] 3 [11, 10, 9, 6, 3, 8, 5, 2, 7, 4, 1, 0] [(28, iq (IntKind.i64.wrap ((pr c) + (partI (pr d) (255 - (pa c))))))] [] <| wI 28 ((pr c) + (partI (pr d) (255 - (pa c)))) <| tD 0 [0] [(12, 0), (13, 0)] 1 [13, 12, 11, 10, 9, 6, 3, 8, 5, 2, 7, 4, 1, 0] [(29, iq (mn ((pr c) + (partI (pr d) (255 - (pa c)))) 255)), (30, .pointer (some ⟨b3, 1, none⟩))] [] <| dO 14 0 <| oS 0 [(5, .pointer (pB b1)), (6, .pointer (pB b2)), (7, .pointer (pB b3)), (8, iq 1)] [.cells b3 [iq (mn ((pa c) + (partI (pa d) (255 - (pa c)))) 255), iq (mn ((pr c) + (partI (pr d) (255 - (pa c)))) 255), iq 0, iq 0] 53 true, .cells b2 [iq (pa d), iq (pr d), iq (pg d), iq (pb d)] 53 true, .cells b1 [iq (pa c), iq (pr c), iq (pg c), iq (pb c)] 53 true] <| dX 0 [0] <| dD <| zbNR 3 <| bD [0, 0, 0] 3 0 [(8, iq 2)] [15, 16] <| zDN <| cont_round 3 2 rfl ?_
 refine zSSR 2 <| bS [0, 0] 2 0 [(5, .pointer (pB b1)), (6, .pointer (pB b2)), (7, .pointer (pB b3)), (8, iq 2), (14, .bool true)] <| zDN <| cTr rfl <| cont_skip <| zN <| cSq <| cont_block <| drawn_enter 15 [0] rfl (by kernel_rfl) ?_
 refine tD 0 [0] [(0, 0), (1, 0), (4, 0), (7, 0), (2, 0), (5, 0), (8, 2), (3, 2), (6, 1), (9, 0)] 5 [9, 6, 3, 8, 5, 2, 7, 4, 1, 0] [(17, iq 2), (20, iq (pg c)), (23, iq (pg d)), (26, iq (IntKind.i64.wrap (255 - (pa c))))] [18, 19, 21, 22, 24, 25] <| wI 26 (255 - (pa c)) <| dO 10 4 <| cP 27 (iq (partI (pg d) (255 - (pa c)))) (fun w hT => refPart (pg d) (255 - (pa c)) w) <| dX 0 [0] <| tD 0 [0] [(11, 0)] 3 [11, 10, 9, 6, 3, 8, 5, 2, 7, 4, 1, 0] [(28, iq (IntKind.i64.wrap ((pg c) + (partI (pg d) (255 - (pa c))))))] [] <| wI 28 ((pg c) + (partI (pg d) (255 - (pa c)))) <| tD 0 [0] [(12, 0), (13, 0)] 1 [13, 12, 11, 10, 9, 6, 3, 8, 5, 2, 7, 4, 1, 0] [(29, iq (mn ((pg c) + (partI (pg d) (255 - (pa c)))) 255)), (30, .pointer (some ⟨b3, 2, none⟩))] [] <| dO 14 0 <| oS 0 [(5, .pointer (pB b1)), (6, .pointer (pB b2)), (7, .pointer (pB b3)), (8, iq 2)] [.cells b3 [iq (mn ((pa c) + (partI (pa d) (255 - (pa c)))) 255), iq (mn ((pr c) + (partI (pr d) (255 - (pa c)))) 255), iq (mn ((pg c) + (partI (pg d) (255 - (pa c)))) 255), iq 0] 53 true, .cells b2 [iq (pa d), iq (pr d), iq (pg d), iq (pb d)] 53 true, .cells b1 [iq (pa c), iq (pr c), iq (pg c), iq (pb c)] 53 true] <| dX 0 [0] <| dD <| zbNR 3 <| bD [0, 0, 0] 3 0 [(8, iq 3)] [15, 16] <| zDN <| cont_round 2 1 rfl ?_
 refine zSSR 2 <| bD [0, 0] 2 0 [(14, .bool true)] [13] <| zDN <| cTr rfl <| cont_skip <| zN <| cSq <| cont_block <| drawn_enter 15 [0] rfl (by kernel_rfl) ?_
 refine tD 0 [0] [(0, 0), (1, 0), (4, 0), (7, 0), (2, 0), (5, 0), (8, 2), (3, 2), (6, 1), (9, 0)] 5 [9, 6, 3, 8, 5, 2, 7, 4, 1, 0] [(17, iq 3), (20, iq (pb c)), (23, iq (pb d)), (26, iq (IntKind.i64.wrap (255 - (pa c))))] [18, 19, 21, 22, 24, 25] <| wI 26 (255 - (pa c)) <| dO 10 4 <| cP 27 (iq (partI (pb d) (255 - (pa c)))) (fun w hT => refPart (pb d) (255 - (pa c)) w) <| dX 0 [0] <| tD 0 [0] [(11, 0)] 3 [11, 10, 9, 6, 3, 8, 5, 2, 7, 4, 1, 0] [(28, iq (IntKind.i64.wrap ((pb c) + (partI (pb d) (255 - (pa c))))))] [] <| wI 28 ((pb c) + (partI (pb d) (255 - (pa c)))) <| tD 0 [0] [(12, 0), (13, 0)] 1 [13, 12, 11, 10, 9, 6, 3, 8, 5, 2, 7, 4, 1, 0] [(29, iq (mn ((pb c) + (partI (pb d) (255 - (pa c)))) 255)), (30, .pointer (some ⟨b3, 3, none⟩))] [] <| dO 14 0 <| oS 0 [(5, .pointer (pB b1)), (6, .pointer (pB b2)), (7, .pointer (pB b3)), (8, iq 3)] [.cells b3 [iq (mn ((pa c) + (partI (pa d) (255 - (pa c)))) 255), iq (mn ((pr c) + (partI (pr d) (255 - (pa c)))) 255), iq (mn ((pg c) + (partI (pg d) (255 - (pa c)))) 255), iq (mn ((pb c) + (partI (pb d) (255 - (pa c)))) 255)] 53 true, .cells b2 [iq (pa d), iq (pr d), iq (pg d), iq (pb d)] 53 true, .cells b1 [iq (pa c), iq (pr c), iq (pg c), iq (pb c)] 53 true] <| dX 0 [0] <| dD <| zbNR 3 <| bD [0, 0, 0] 3 0 [(8, iq 4)] [15, 16] <| zDN <| cont_round 1 0 rfl ?_
 refine zSSR 2 <| bD [0, 0] 2 0 [(14, .bool false)] [13] <| zDNFXxxeNSR 10 <| bS [0, 0, 0, 0, 0, 0, 0, 0] 8 2 [(32, iq (mn ((pa c) + (partI (pa d) (255 - (pa c)))) 255)), (34, iq (mn ((pr c) + (partI (pr d) (255 - (pa c)))) 255)), (36, iq (mn ((pg c) + (partI (pg d) (255 - (pa c)))) 255)), (38, iq (mn ((pb c) + (partI (pb d) (255 - (pa c)))) 255))] <| fG 0 <| fG 0 <| fG 0 <| pS 9 1 <| cP 39 (cQ (mkC (mn ((pa c) + (partI (pa d) (255 - (pa c)))) 255) (mn ((pr c) + (partI (pr d) (255 - (pa c)))) 255) (mn ((pg c) + (partI (pg d) (255 - (pa c)))) 255) (mn ((pb c) + (partI (pb d) (255 - (pa c)))) 255))) (fun w hT => refMake (mn ((pa c) + (partI (pa d) (255 - (pa c)))) 255) (mn ((pr c) + (partI (pr d) (255 - (pa c)))) 255) (mn ((pg c) + (partI (pg d) (255 - (pa c)))) 255) (mn ((pb c) + (partI (pb d) (255 - (pa c)))) 255) w) <| bS [0] 10 0 [(4, cQ (mkC (mn ((pa c) + (partI (pa d) (255 - (pa c)))) 255) (mn ((pr c) + (partI (pr d) (255 - (pa c)))) 255) (mn ((pg c) + (partI (pg d) (255 - (pa c)))) 255) (mn ((pb c) + (partI (pb d) (255 - (pa c)))) 255)))] <| zDNr <| rA rfl 0 (cQ (mkC (mn ((pa c) + (partI (pa d) (255 - (pa c)))) 255) (mn ((pr c) + (partI (pr d) (255 - (pa c)))) 255) (mn ((pg c) + (partI (pg d) (255 - (pa c)))) 255) (mn ((pb c) + (partI (pb d) (255 - (pa c)))) 255))) fun w hT => ?_
 exact ⟨ret_int (mkC_mn _ _ _ _), hT.post rfl⟩
theorem refFade (c al : Int) (w : World) (hc0 : 0 ≤ c) (hc1 : c < 4294967296) :
    Calls Tryz.prog 82 #[cQ c, iQ al] w fun e w' => e = .returned (cQ (fadeC c al)) ∧ Below w.heap.size w w' := by
 refine eN [(0, cQ c), (1, iq al)] Tryz.func82 Tryz.ntmps82 rfl (Tab.start w) ?_
 refine zSR 1 <| bD [0] 1 0 [] [4] <| zDNSR 4 <| bD [0] 1 3 [(6, cQ c)] [] <| pS 2 2 <| cP 7 (.agg #[iq (pa c), iq (pr c), iq (pg c), iq (pb c)]) (fun w hT => refParts c w (by omega) (by omega)) <| bW [0, 0] 4 0 (fun b1 => [(1, iq al), (5, .pointer (pB b1))]) (fun b1 => [.cells b1 [iq (pa c), iq (pr c), iq (pg c), iq (pb c)] 53 true]) [1, 5] fun b1 => ?_
 refine zDNS <| drawn_enter 18 [] rfl (by kernel_rfl) ?_
 refine tD 0 [] [(0, 0), (2, 0), (4, 0), (6, 0), (8, 0), (10, 0), (12, 0), (14, 0), (1, 0), (5, 0), (9, 0), (13, 0)] 6 [13, 9, 5, 1, 14, 12, 10, 8, 6, 4, 2, 0] [(9, iq (pa c)), (10, iq al), (13, iq (pr c)), (14, iq al), (17, iq (pg c)), (18, iq al), (21, iq (pb c)), (22, iq al)] [8, 12, 16, 20] <| dO 3 5 <| cP 11 (iq (partI (pa c) al)) (fun w hT => refPart (pa c) al w) <| dX 0 [] <| dO 7 4 <| cP 15 (iq (partI (pr c) al)) (fun w hT => refPart (pr c) al w) <| dX 0 [] <| dO 11 3 <| cP 19 (iq (partI (pg c) al)) (fun w hT => refPart (pg c) al w) <| dX 0 [] <| dO 15 2 <| cP 23 (iq (partI (pb c) al)) (fun w hT => refPart (pb c) al w) <| dX 0 [] <| dO 16 1 <| cP 24 (cQ (mkC (partI (pa c) al) (partI (pr c) al) (partI (pg c) al) (partI (pb c) al))) (fun w hT => refMake (partI (pa c) al) (partI (pr c) al) (partI (pg c) al) (partI (pb c) al) w) <| dX 0 [] <| tD 0 [] [(17, 0)] 0 [17, 16, 15, 11, 7, 3, 13, 9, 5, 1, 14, 12, 10, 8, 6, 4, 2, 0] [(4, cQ (mkC (partI (pa c) al) (partI (pr c) al) (partI (pg c) al) (partI (pb c) al)))] [] <| dD <| zNr <| rA rfl 0 (cQ (mkC (partI (pa c) al) (partI (pr c) al) (partI (pg c) al) (partI (pb c) al))) fun w hT => ?_
 exact ⟨rfl, hT.post rfl⟩
theorem rectMay (a b c d : Int) (w : World) :
    Calls Tryz.prog 131 #[.agg #[iQ a, iQ b, iQ c, iQ d]] w fun e w' => e = .returned (.bool (mayR a b c d)) ∧ Below w.heap.size w w' := by
 refine eN [(0, .agg #[iq a, iq b, iq c, iq d])] Tryz.func131 Tryz.ntmps131 rfl (Tab.start w) ?_
 refine zSR 2 <| bW [0, 0] 2 0 (fun b1 => [(1, .pointer (pB b1))]) (fun b1 => [.cells b1 [iq a, iq b, iq c, iq d] 32 true]) [1] fun b1 => ?_
 refine zDNSR 37 <| bD [0, 0, 0, 0, 0, 0, 0, 0, 0, 0, 0] 11 26 [(13, .bool (decide ((mn (mn (mn a b) c) d) ≥ (-1048576))))] [3, 4, 5, 6, 7, 8, 9, 10, 11, 12] <| sD 13 rfl (fun c2_ => ?_) fun c2_ => ?_
 ·
  refine bS [0, 0, 0, 0, 0, 0, 0, 0, 0, 0, 0, 0] 23 14 [(1, .pointer (pB b1)), (25, .bool (decide ((mx (mx (mx a b) c) d) ≤ 1048576)))] <| sD 25 rfl (fun c3_ => ?_) fun c3_ => ?_
  ·
   refine bD [0, 0, 0, 0, 0, 0, 0] 30 7 [(32, .bool (decide (a ≤ c)))] [26, 27, 28, 29, 30, 31] <| sD 32 rfl (fun c4_ => ?_) fun c4_ => ?_
   ·
    refine bS [0, 0, 0, 0, 0, 0, 0] 37 0 [(2, .bool (decide (b ≤ d)))] <| fG 0 <| zDNr <| rA rfl 0 (.bool (decide (b ≤ d))) fun w hT => ?_
    refine ⟨ret_bool ?_, hT.post rfl⟩
    rw [Bool.eq_iff_iff]
    simp only [mayR, decide_eq_true_eq, Bool.false_eq_true, true_iff, false_iff]
    try unfold mn at *
    try unfold mx at *
    omega
   refine bS [0, 0, 0, 0, 0, 0, 0] 37 0 [(2, .bool false)] <| fG 0 <| zDNr <| rA rfl 0 (.bool false) fun w hT => ?_
   refine ⟨ret_bool ?_, hT.post rfl⟩
   rw [Bool.eq_iff_iff]
   simp only [mayR, decide_eq_true_eq, Bool.false_eq_true, true_iff, false_iff]
   try unfold mn at *
   try unfold mx at *
   omega
  refine bS [0, 0, 0, 0, 0, 0, 0, 0, 0, 0, 0, 0, 0, 0] 37 0 [(2, .bool false)] <| fG 0 <| zDNr <| rA rfl 0 (.bool false) fun w hT => ?_
  refine ⟨ret_bool ?_, hT.post rfl⟩
  rw [Bool.eq_iff_iff]
  simp only [mayR, decide_eq_true_eq, Bool.false_eq_true, true_iff, false_iff]
  try unfold mn at *
  try unfold mx at *
  omega
 refine bS [0, 0, 0, 0, 0, 0, 0, 0, 0, 0, 0, 0, 0, 0, 0, 0, 0, 0, 0, 0, 0, 0, 0, 0, 0, 0] 37 0 [(2, .bool false)] <| fG 0 <| zDNr <| rA rfl 0 (.bool false) fun w hT => ?_
 refine ⟨ret_bool ?_, hT.post rfl⟩
 rw [Bool.eq_iff_iff]
 simp only [mayR, decide_eq_true_eq, Bool.false_eq_true, true_iff, false_iff]
 try unfold mn at *
 try unfold mx at *
 omega
theorem rectChk (a b c d : Int) (w : World) :
    Calls Tryz.prog 132 #[.agg #[iQ a, iQ b, iQ c, iQ d]] w fun e w' => e = .returned (.tuple #[.agg #[iQ ((chkR a b c d).x0), iQ ((chkR a b c d).y0), iQ ((chkR a b c d).x1), iQ ((chkR a b c d).y1)], iQ (chkE a b c d)]) ∧ Below w.heap.size w w' := by
 refine eN [(0, .agg #[iq a, iq b, iq c, iq d])] Tryz.func132 Tryz.ntmps132 rfl (Tab.start w) ?_
 refine zSR 3 <| batch2 [0, 0, 0] 3 0 (fun b1 b2 => [(1, .pointer (pB b1)), (2, .pointer (pB b2))]) (fun b1 b2 => [.cells b2 [iq 0, iq 0, iq 0, iq 0] 32 true, .cells b1 [iq a, iq b, iq c, iq d] 32 true]) rfl rfl [1, 2] (fun _ _ => rfl) (fun b1 b2 => by kernel_rfl) (fun b1 b2 => by kernel_rfl) (fun b1 b2 => ?_)
 refine zDNSSR 3 <| bD [1] 1 2 [(4, .agg #[iq a, iq b, iq c, iq d])] [] <| pS 2 1 <| cP 5 (.bool (mayR a b c d)) (fun w hT => rectMay a b c d w) <| bD [0] 3 0 [(6, .bool (!(mayR a b c d)))] [] <| zDN <| cSp 6 _ rfl (fun c3_ => ?_) fun c3_ => ?_
 ·
  replace c3_ : (mayR a b c d) = false := by simpa using c3_
  refine zTSR 3 <| bD [0, 0, 0] 3 0 [(3, iq 4)] [7] <| fG 1 <| zDNrt <| rB rfl 0 0 (.agg #[iq 0, iq 0, iq 0, iq 0]) (iq 4) fun w hT => ?_
  exact ⟨by simp [chkR, chkE, *], hT.post rfl⟩
 replace c3_ : (mayR a b c d) = true := by simpa using c3_
 refine zFKNSR 3 <| bZ [1, 0, 0] 3 0 [(2, .pointer (pB b2)), (3, iq 0)] [.cells b2 [iq a, iq b, iq c, iq d] 32 true, .cells b1 [iq a, iq b, iq c, iq d] 32 true] <| fG 1 <| zDNr <| rB rfl 0 0 (.agg #[iq a, iq b, iq c, iq d]) (iq 0) fun w hT => ?_
 exact ⟨by simp [chkR, chkE, *], hT.post rfl⟩
theorem rectScl (a b c d s : Int) (w : World) :
    Calls Tryz.prog 122 #[.agg #[iQ a, iQ b, iQ c, iQ d], iQ s] w fun e w' => e = .returned (.tuple #[.agg #[iQ ((sclR a b c d s).x0), iQ ((sclR a b c d s).y0), iQ ((sclR a b c d s).x1), iQ ((sclR a b c d s).y1)], iQ (sclE a b c d s)]) ∧ Below w.heap.size w w' := by
 refine eN [(0, .agg #[iq a, iq b, iq c, iq d]), (1, iq s)] Tryz.func122 Tryz.ntmps122 rfl (Tab.start w) ?_
 refine zSR 3 <| batch2 [0, 0, 0] 3 0 (fun b1 b2 => [(1, iq s), (2, .pointer (pB b1)), (4, .pointer (pB b2))]) (fun b1 b2 => [.cells b2 [iq 0, iq 0, iq 0, iq 0] 32 true, .cells b1 [iq a, iq b, iq c, iq d] 32 true]) rfl rfl [1, 2, 4] (fun _ _ => rfl) (fun b1 b2 => by kernel_rfl) (fun b1 b2 => by kernel_rfl) (fun b1 b2 => ?_)
 refine zDNS <| cont_block <| zSR 7 <| bD [0, 0, 0] 3 4 [(9, .bool (decide (s < 1)))] [7, 8] <| sD 9 rfl (fun c3_ => ?_) fun c3_ => ?_
 ·
  refine bD [0, 0, 0, 0] 7 0 [(6, .bool true)] [10, 11, 12] <| zDN <| zTSR 3 <| bD [0, 0, 0] 3 0 [(5, iq 1)] [13] <| fG 1 <| zDNr <| blk_ret <| then_ret ?_
  refine rB rfl 0 0 (.agg #[iq 0, iq 0, iq 0, iq 0]) (iq 1) fun w hT => ?_
  exact ⟨by simp [sclR, sclE, *] <;> omega, hT.post rfl⟩
 refine bD [0, 0, 0, 0] 7 0 [(6, .bool (decide (s > 8)))] [10, 11, 12] <| zDN <| sD 6 rfl (fun c4_ => ?_) fun c4_ => ?_
 ·
  refine zTSR 3 <| bD [0, 0, 0] 3 0 [(5, iq 1)] [13] <| fG 1 <| zDNr <| blk_ret <| then_ret ?_
  refine rB rfl 0 0 (.agg #[iq 0, iq 0, iq 0, iq 0]) (iq 1) fun w hT => ?_
  exact ⟨by simp [sclR, sclE, *] <;> omega, hT.post rfl⟩
 refine cFa rfl <| zSR 4 <| bD [1] 1 3 [(15, .agg #[iq a, iq b, iq c, iq d])] [] <| pS 2 2 <| cP 16 (.bool (mayR a b c d)) (fun w hT => rectMay a b c d w) <| bD [0, 0] 4 0 [(14, .bool (!(mayR a b c d)))] [17] <| zDN <| cSp 14 _ rfl (fun c5_ => ?_) fun c5_ => ?_
 ·
  replace c5_ : (mayR a b c d) = false := by simpa using c5_
  refine zTSR 3 <| bD [0, 0, 0] 3 0 [(5, iq 4)] [18] <| fG 1 <| zDNr <| blk_ret <| then_ret ?_
  refine rB rfl 0 0 (.agg #[iq 0, iq 0, iq 0, iq 0]) (iq 4) fun w hT => ?_
  exact ⟨by simp [sclR, sclE, *] <;> omega, hT.post rfl⟩
 replace c5_ : (mayR a b c d) = true := by simpa using c5_
 refine cFa rfl <| cont_skip <| blk_normal <| zN <| zSR 22 ?_
 have hm_ := mayR_true.1 ‹_›
 have hsc : ∀ x : Int, -1048576 ≤ x → x ≤ 1048576 → -8388608 ≤ x * s ∧ x * s ≤ 8388608 := fun x h1 h2 => by
   have := Int.mul_le_mul_of_nonneg_right h1 (show 0 ≤ s by omega)
   have := Int.mul_le_mul_of_nonneg_right h2 (show 0 ≤ s by omega)
   omega
 have hs1 := hsc a (by omega) (by omega)
 have hs2 := hsc b (by omega) (by omega)
 have hs3 := hsc c (by omega) (by omega)
 have hs4 := hsc d (by omega) (by omega)
 refine bD [0, 1, 0, 0] 4 18 [(22, iq (IntKind.i64.wrap (a * s)))] [19, 20, 21] <| wI 22 (a * s) <| bD [0, 1, 0, 0] 8 14 [(26, iq (IntKind.i64.wrap (b * s)))] [23, 24, 25] <| wI 26 (b * s) <| bD [0, 1, 0, 0] 12 10 [(30, iq (IntKind.i64.wrap (c * s)))] [27, 28, 29] <| wI 30 (c * s) <| bD [0, 1, 0, 0] 16 6 [(34, iq (IntKind.i64.wrap (d * s)))] [31, 32, 33] <| wI 34 (d * s) <| fG 1 <| bD [0] 17 5 [(35, .agg #[iq (a * s), iq (b * s), iq (c * s), iq (d * s)])] [] <| pS 18 4 <| cP 36 (.tuple #[.agg #[iq ((chkR (a * s) (b * s) (c * s) (d * s)).x0), iq ((chkR (a * s) (b * s) (c * s) (d * s)).y0), iq ((chkR (a * s) (b * s) (c * s) (d * s)).x1), iq ((chkR (a * s) (b * s) (c * s) (d * s)).y1)], iq (chkE (a * s) (b * s) (c * s) (d * s))]) (fun w hT => rectChk (a * s) (b * s) (c * s) (d * s) w) <| bZ [0, 0, 0, 0] 22 0 [(4, .pointer (pB b2)), (5, iq (chkE (a * s) (b * s) (c * s) (d * s)))] [.cells b2 [iq ((chkR (a * s) (b * s) (c * s) (d * s)).x0), iq ((chkR (a * s) (b * s) (c * s) (d * s)).y0), iq ((chkR (a * s) (b * s) (c * s) (d * s)).x1), iq ((chkR (a * s) (b * s) (c * s) (d * s)).y1)] 32 true] <| zDNr <| rB rfl 0 0 (.agg #[iq ((chkR (a * s) (b * s) (c * s) (d * s)).x0), iq ((chkR (a * s) (b * s) (c * s) (d * s)).y0), iq ((chkR (a * s) (b * s) (c * s) (d * s)).x1), iq ((chkR (a * s) (b * s) (c * s) (d * s)).y1)]) (iq (chkE (a * s) (b * s) (c * s) (d * s))) fun w hT => ?_
 exact ⟨by simp [sclR, sclE, *] <;> omega, hT.post rfl⟩
theorem movFar (n : Int) (w : World) :
    Calls Tryz.prog 133 #[iQ n] w fun e w' => e = .returned (iQ (farM n)) ∧ Below w.heap.size w w' := by
 refine eN [(0, iq n)] Tryz.func133 Tryz.ntmps133 rfl (Tab.start w) ?_
 refine zSR 1 <| bD [0] 1 0 [] [2] <| zDNSR 4 <| bS [0, 0, 0, 0] 4 0 [(2, iq (mn (mx n (-4194304)) 4194304))] <| zDNr <| rA rfl 0 (iq (mn (mx n (-4194304)) 4194304)) fun w hT => ?_
 exact ⟨rfl, hT.post rfl⟩
theorem rectMov (a b c d x y : Int) (w : World) (ha : -2097152 ≤ a ∧ a ≤ 2097152) (hb : -2097152 ≤ b ∧ b ≤ 2097152) (hc : -2097152 ≤ c ∧ c ≤ 2097152) (hd : -2097152 ≤ d ∧ d ≤ 2097152) :
    Calls Tryz.prog 123 #[.agg #[iQ a, iQ b, iQ c, iQ d], iQ x, iQ y] w fun e w' => e = .returned (.tuple #[.agg #[iQ ((movR a b c d x y).x0), iQ ((movR a b c d x y).y0), iQ ((movR a b c d x y).x1), iQ ((movR a b c d x y).y1)], iQ (movE a b c d x y)]) ∧ Below w.heap.size w w' := by
 have hfx := farM_range x
 have hfy := farM_range y
 refine eN [(0, .agg #[iq a, iq b, iq c, iq d]), (1, iq x), (2, iq y)] Tryz.func123 Tryz.ntmps123 rfl (Tab.start w) ?_
 refine zSR 3 <| batch2 [0, 0, 0] 3 0 (fun b1 b2 => [(1, iq x), (2, iq y), (3, .pointer (pB b1)), (6, .pointer (pB b2))]) (fun b1 b2 => [.cells b2 [iq 0, iq 0, iq 0, iq 0] 32 true, .cells b1 [iq a, iq b, iq c, iq d] 32 true]) rfl rfl [1, 2, 3, 6] (fun _ _ => rfl) (fun b1 b2 => by kernel_rfl) (fun b1 b2 => by kernel_rfl) (fun b1 b2 => ?_)
 refine zDNSR 1 <| bD [0] 1 0 [(8, .func (.func 133) #[] #[])] [] <| zDNSR 8 <| bD [0, 0] 2 6 [(9, .func (.func 133) #[] #[]), (10, iq x)] [] <| pS 3 5 <| cP 11 (iq (farM x)) (fun w hT => movFar x w) <| bD [0, 0] 5 3 [(12, .func (.func 133) #[] #[]), (13, iq y)] [] <| pS 6 2 <| cP 14 (iq (farM y)) (fun w hT => movFar y w) <| bD [0, 0] 8 0 [(1, iq (farM x)), (2, iq (farM y))] [] <| zDNSR 22 <| bD [0, 1, 0, 0] 4 18 [(18, iq (IntKind.i64.wrap (a + (farM x))))] [15, 16, 17] <| wI 18 (a + (farM x)) <| bD [0, 1, 0, 0] 8 14 [(22, iq (IntKind.i64.wrap (b + (farM y))))] [19, 20, 21] <| wI 22 (b + (farM y)) <| bD [0, 1, 0, 0] 12 10 [(26, iq (IntKind.i64.wrap (c + (farM x))))] [23, 24, 25] <| wI 26 (c + (farM x)) <| bD [0, 1, 0, 0] 16 6 [(30, iq (IntKind.i64.wrap (d + (farM y))))] [27, 28, 29] <| wI 30 (d + (farM y)) <| fG 1 <| bD [0] 17 5 [(31, .agg #[iq (a + (farM x)), iq (b + (farM y)), iq (c + (farM x)), iq (d + (farM y))])] [] <| pS 18 4 <| cP 32 (.tuple #[.agg #[iq ((chkR (a + (farM x)) (b + (farM y)) (c + (farM x)) (d + (farM y))).x0), iq ((chkR (a + (farM x)) (b + (farM y)) (c + (farM x)) (d + (farM y))).y0), iq ((chkR (a + (farM x)) (b + (farM y)) (c + (farM x)) (d + (farM y))).x1), iq ((chkR (a + (farM x)) (b + (farM y)) (c + (farM x)) (d + (farM y))).y1)], iq (chkE (a + (farM x)) (b + (farM y)) (c + (farM x)) (d + (farM y)))]) (fun w hT => rectChk (a + (farM x)) (b + (farM y)) (c + (farM x)) (d + (farM y)) w) <| bZ [0, 0, 0, 0] 22 0 [(6, .pointer (pB b2)), (7, iq (chkE (a + (farM x)) (b + (farM y)) (c + (farM x)) (d + (farM y))))] [.cells b2 [iq ((chkR (a + (farM x)) (b + (farM y)) (c + (farM x)) (d + (farM y))).x0), iq ((chkR (a + (farM x)) (b + (farM y)) (c + (farM x)) (d + (farM y))).y0), iq ((chkR (a + (farM x)) (b + (farM y)) (c + (farM x)) (d + (farM y))).x1), iq ((chkR (a + (farM x)) (b + (farM y)) (c + (farM x)) (d + (farM y))).y1)] 32 true] <| zDNr <| rB rfl 0 0 (.agg #[iq ((chkR (a + (farM x)) (b + (farM y)) (c + (farM x)) (d + (farM y))).x0), iq ((chkR (a + (farM x)) (b + (farM y)) (c + (farM x)) (d + (farM y))).y0), iq ((chkR (a + (farM x)) (b + (farM y)) (c + (farM x)) (d + (farM y))).x1), iq ((chkR (a + (farM x)) (b + (farM y)) (c + (farM x)) (d + (farM y))).y1)]) (iq (chkE (a + (farM x)) (b + (farM y)) (c + (farM x)) (d + (farM y)))) fun w hT => ?_
 exact ⟨rfl, hT.post rfl⟩
theorem layShown (m : Nat) (W H : Int) (r n cap : Nat) (px : List Int) (X Y s al ca cb cc cd : Int) (a b c d : Int) (w : World) (hI : ImgR 116 w m W H r n cap px) (hok : ImgOk W H n px) :
    Calls Tryz.prog 103 #[.agg #[pT m, iQ X, iQ Y, iQ s, iQ al, iQ ca, iQ cb, iQ cc, iQ cd], .agg #[iQ a, iQ b, iQ c, iQ d]] w fun e w' => e = .returned (.tuple #[.agg #[iQ ((shwR W H X Y s a b c d).x0), iQ ((shwR W H X Y s a b c d).y0), iQ ((shwR W H X Y s a b c d).x1), iQ ((shwR W H X Y s a b c d).y1)], .bool (shwB W H X Y s a b c d)]) ∧ Below w.heap.size w w' := by
 have hcap := hI.cap
 refine enter 39 [(0, .agg #[.pointer (pB m), iq X, iq Y, iq s, iq al, iq ca, iq cb, iq cc, iq cd]), (1, .agg #[iq a, iq b, iq c, iq d])] [.ro m [iq W, iq H, .slice (pB r) n cap] 116, rD (pB r) r 0 n 1 (cV px)] Tryz.func103 rfl Tryz.ntmps103 rfl (by kernel_rfl) hI.tab ?_
 refine zSR 4 <| batch3 [0, 0, 0, 0] 4 0 (fun b1 b2 b3 => [(2, .pointer (pB b1)), (3, .pointer (pB b2)), (4, .pointer (pB b3))]) (fun b1 b2 b3 => [.cells b3 [iq 0, iq 0, iq 0, iq 0] 32 true, .cells b2 [iq a, iq b, iq c, iq d] 32 true, .cells b1 [.pointer (pB m), iq X, iq Y, iq s, iq al, iq ca, iq cb, iq cc, iq cd] 120 true, .ro m [iq W, iq H, .slice (pB r) n cap] 116, rD (pB r) r 0 n 1 (cV px)]) rfl rfl [2, 3, 4] (fun _ _ _ => rfl) (fun b1 b2 b3 => by kernel_rfl) (fun b1 b2 b3 => by kernel_rfl) (fun b1 b2 b3 => ?_)
 refine zDNS <| drawn_enter 6 [1] rfl (by kernel_rfl) ?_
 refine tD 0 [1] [(1, 0), (2, 2)] 4 [2, 1] [(9, .pointer (pB m))] [8] <| drawn_two 0 3 3 rfl (by kernel_rfl) ?_ ?_
 ·
  refine oS 1 [(2, .pointer (pB b1)), (3, .pointer (pB b2)), (4, .pointer (pB b3)), (7, .agg #[iq a, iq b, iq c, iq d]), (9, .pointer (pB m))] [.cells b3 [iq 0, iq 0, iq 0, iq 0] 32 true, .cells b2 [iq a, iq b, iq c, iq d] 32 true, .cells b1 [.pointer (pB m), iq X, iq Y, iq s, iq al, iq ca, iq cb, iq cc, iq cd] 120 true, .ro m [iq W, iq H, .slice (pB r) n cap] 116, rD (pB r) r 0 n 1 (cV px)] <| dX 0 [1] <| dO 3 2 <| cP 10 (.agg #[iq 0, iq 0, iq W, iq H]) (fun w hT => imgBox m W H r n cap px  w ⟨hT.ok 3 _ rfl, hT.ok 4 _ rfl, by omega⟩ hok) <| dX 0 [1] <| dO 4 1 <| cP 11 (.agg #[iq ((cutR a b c d 0 0 W H).x0), iq ((cutR a b c d 0 0 W H).y0), iq ((cutR a b c d 0 0 W H).x1), iq ((cutR a b c d 0 0 W H).y1)]) (fun w hT => rectCut a b c d 0 0 W H w) <| dX 0 [1] <| dO 5 0 <| oS 1 [(2, .pointer (pB b1)), (3, .pointer (pB b2)), (4, .pointer (pB b3))] [.cells b3 [iq 0, iq 0, iq 0, iq 0] 32 true, .cells b2 [iq ((cutR a b c d 0 0 W H).x0), iq ((cutR a b c d 0 0 W H).y0), iq ((cutR a b c d 0 0 W H).x1), iq ((cutR a b c d 0 0 W H).y1)] 32 true, .cells b1 [.pointer (pB m), iq X, iq Y, iq s, iq al, iq ca, iq cb, iq cc, iq cd] 120 true, .ro m [iq W, iq H, .slice (pB r) n cap] 116, rD (pB r) r 0 n 1 (cV px)] <| dX 0 [1] <| dD <| zN <| zSSR 2 <| bD [1] 1 1 [(12, .agg #[iq ((cutR a b c d 0 0 W H).x0), iq ((cutR a b c d 0 0 W H).y0), iq ((cutR a b c d 0 0 W H).x1), iq ((cutR a b c d 0 0 W H).y1)])] [] <| pS 2 0 <| cP 13 (.bool (emptyB ((cutR a b c d 0 0 W H).x0) ((cutR a b c d 0 0 W H).y0) ((cutR a b c d 0 0 W H).x1) ((cutR a b c d 0 0 W H).y1))) (fun w hT => rectEmpty ((cutR a b c d 0 0 W H).x0) ((cutR a b c d 0 0 W H).y0) ((cutR a b c d 0 0 W H).x1) ((cutR a b c d 0 0 W H).y1) w) <| zDN <| cSp 13 _ rfl (fun c4_ => ?_) fun c4_ => ?_
  ·
   refine zTSR 3 <| bD [0, 0, 0] 3 0 [(5, .bool true)] [14] <| fG 1 <| fG 1 <| zDNrt <| rB rfl 0 0 (.agg #[iq 0, iq 0, iq 0, iq 0]) (.bool true) fun w hT => ?_
   exact ⟨by simp [shwR, shwB, *], hT.post rfl⟩
  refine zFKNSR 9 <| bD [1, 0, 2] 3 6 [(16, .agg #[iq ((cutR a b c d 0 0 W H).x0), iq ((cutR a b c d 0 0 W H).y0), iq ((cutR a b c d 0 0 W H).x1), iq ((cutR a b c d 0 0 W H).y1)]), (18, iq s)] [17] <| pS 4 5 <| cP 19 (.tuple #[.agg #[iq ((sclR ((cutR a b c d 0 0 W H).x0) ((cutR a b c d 0 0 W H).y0) ((cutR a b c d 0 0 W H).x1) ((cutR a b c d 0 0 W H).y1) s).x0), iq ((sclR ((cutR a b c d 0 0 W H).x0) ((cutR a b c d 0 0 W H).y0) ((cutR a b c d 0 0 W H).x1) ((cutR a b c d 0 0 W H).y1) s).y0), iq ((sclR ((cutR a b c d 0 0 W H).x0) ((cutR a b c d 0 0 W H).y0) ((cutR a b c d 0 0 W H).x1) ((cutR a b c d 0 0 W H).y1) s).x1), iq ((sclR ((cutR a b c d 0 0 W H).x0) ((cutR a b c d 0 0 W H).y0) ((cutR a b c d 0 0 W H).x1) ((cutR a b c d 0 0 W H).y1) s).y1)], iq (sclE ((cutR a b c d 0 0 W H).x0) ((cutR a b c d 0 0 W H).y0) ((cutR a b c d 0 0 W H).x1) ((cutR a b c d 0 0 W H).y1) s)]) (fun w hT => rectScl ((cutR a b c d 0 0 W H).x0) ((cutR a b c d 0 0 W H).y0) ((cutR a b c d 0 0 W H).x1) ((cutR a b c d 0 0 W H).y1) s w) <| bZ [0, 0, 0, 1, 0] 9 0 [(2, .pointer (pB b1)), (3, .pointer (pB b2)), (4, .pointer (pB b3)), (6, iq (sclE ((cutR a b c d 0 0 W H).x0) ((cutR a b c d 0 0 W H).y0) ((cutR a b c d 0 0 W H).x1) ((cutR a b c d 0 0 W H).y1) s))] [.cells b3 [iq 0, iq 0, iq 0, iq 0] 32 true, .cells b2 [iq ((sclR ((cutR a b c d 0 0 W H).x0) ((cutR a b c d 0 0 W H).y0) ((cutR a b c d 0 0 W H).x1) ((cutR a b c d 0 0 W H).y1) s).x0), iq ((sclR ((cutR a b c d 0 0 W H).x0) ((cutR a b c d 0 0 W H).y0) ((cutR a b c d 0 0 W H).x1) ((cutR a b c d 0 0 W H).y1) s).y0), iq ((sclR ((cutR a b c d 0 0 W H).x0) ((cutR a b c d 0 0 W H).y0) ((cutR a b c d 0 0 W H).x1) ((cutR a b c d 0 0 W H).y1) s).x1), iq ((sclR ((cutR a b c d 0 0 W H).x0) ((cutR a b c d 0 0 W H).y0) ((cutR a b c d 0 0 W H).x1) ((cutR a b c d 0 0 W H).y1) s).y1)] 32 true, .cells b1 [.pointer (pB m), iq X, iq Y, iq s, iq al, iq ca, iq cb, iq cc, iq cd] 120 true, .ro m [iq W, iq H, .slice (pB r) n cap] 116, rD (pB r) r 0 n 1 (cV px)] <| zDNSSR 2 <| bD [0, 0] 2 0 [(23, .bool ((sclE ((cutR a b c d 0 0 W H).x0) ((cutR a b c d 0 0 W H).y0) ((cutR a b c d 0 0 W H).x1) ((cutR a b c d 0 0 W H).y1) s) != 0))] [22] <| zDN <| sN 23 rfl (fun c5_ => ?_) fun c5_ => ?_
  ·
   refine zTSR 3 <| bD [0, 0, 0] 3 0 [(5, .bool false)] [24] <| fG 1 <| fG 1 <| zDNrt <| rB rfl 0 0 (.agg #[iq 0, iq 0, iq 0, iq 0]) (.bool false) fun w hT => ?_
   exact ⟨by simp [shwR, shwB, *], hT.post rfl⟩
  refine zFKNSR 13 ?_
  have hsr := sclR_range (cutR a b c d 0 0 W H).x0 (cutR a b c d 0 0 W H).y0 (cutR a b c d 0 0 W H).x1 (cutR a b c d 0 0 W H).y1 s
  refine bD [1, 0, 0, 2, 0, 0, 2] 7 6 [(26, .agg #[iq ((sclR ((cutR a b c d 0 0 W H).x0) ((cutR a b c d 0 0 W H).y0) ((cutR a b c d 0 0 W H).x1) ((cutR a b c d 0 0 W H).y1) s).x0), iq ((sclR ((cutR a b c d 0 0 W H).x0) ((cutR a b c d 0 0 W H).y0) ((cutR a b c d 0 0 W H).x1) ((cutR a b c d 0 0 W H).y1) s).y0), iq ((sclR ((cutR a b c d 0 0 W H).x0) ((cutR a b c d 0 0 W H).y0) ((cutR a b c d 0 0 W H).x1) ((cutR a b c d 0 0 W H).y1) s).x1), iq ((sclR ((cutR a b c d 0 0 W H).x0) ((cutR a b c d 0 0 W H).y0) ((cutR a b c d 0 0 W H).x1) ((cutR a b c d 0 0 W H).y1) s).y1)]), (29, iq X), (32, iq Y)] [27, 28, 30, 31] <| fG 2 <| pS 8 5 <| cP 33 (.tuple #[.agg #[iq ((movR ((sclR ((cutR a b c d 0 0 W H).x0) ((cutR a b c d 0 0 W H).y0) ((cutR a b c d 0 0 W H).x1) ((cutR a b c d 0 0 W H).y1) s).x0) ((sclR ((cutR a b c d 0 0 W H).x0) ((cutR a b c d 0 0 W H).y0) ((cutR a b c d 0 0 W H).x1) ((cutR a b c d 0 0 W H).y1) s).y0) ((sclR ((cutR a b c d 0 0 W H).x0) ((cutR a b c d 0 0 W H).y0) ((cutR a b c d 0 0 W H).x1) ((cutR a b c d 0 0 W H).y1) s).x1) ((sclR ((cutR a b c d 0 0 W H).x0) ((cutR a b c d 0 0 W H).y0) ((cutR a b c d 0 0 W H).x1) ((cutR a b c d 0 0 W H).y1) s).y1) X Y).x0), iq ((movR ((sclR ((cutR a b c d 0 0 W H).x0) ((cutR a b c d 0 0 W H).y0) ((cutR a b c d 0 0 W H).x1) ((cutR a b c d 0 0 W H).y1) s).x0) ((sclR ((cutR a b c d 0 0 W H).x0) ((cutR a b c d 0 0 W H).y0) ((cutR a b c d 0 0 W H).x1) ((cutR a b c d 0 0 W H).y1) s).y0) ((sclR ((cutR a b c d 0 0 W H).x0) ((cutR a b c d 0 0 W H).y0) ((cutR a b c d 0 0 W H).x1) ((cutR a b c d 0 0 W H).y1) s).x1) ((sclR ((cutR a b c d 0 0 W H).x0) ((cutR a b c d 0 0 W H).y0) ((cutR a b c d 0 0 W H).x1) ((cutR a b c d 0 0 W H).y1) s).y1) X Y).y0), iq ((movR ((sclR ((cutR a b c d 0 0 W H).x0) ((cutR a b c d 0 0 W H).y0) ((cutR a b c d 0 0 W H).x1) ((cutR a b c d 0 0 W H).y1) s).x0) ((sclR ((cutR a b c d 0 0 W H).x0) ((cutR a b c d 0 0 W H).y0) ((cutR a b c d 0 0 W H).x1) ((cutR a b c d 0 0 W H).y1) s).y0) ((sclR ((cutR a b c d 0 0 W H).x0) ((cutR a b c d 0 0 W H).y0) ((cutR a b c d 0 0 W H).x1) ((cutR a b c d 0 0 W H).y1) s).x1) ((sclR ((cutR a b c d 0 0 W H).x0) ((cutR a b c d 0 0 W H).y0) ((cutR a b c d 0 0 W H).x1) ((cutR a b c d 0 0 W H).y1) s).y1) X Y).x1), iq ((movR ((sclR ((cutR a b c d 0 0 W H).x0) ((cutR a b c d 0 0 W H).y0) ((cutR a b c d 0 0 W H).x1) ((cutR a b c d 0 0 W H).y1) s).x0) ((sclR ((cutR a b c d 0 0 W H).x0) ((cutR a b c d 0 0 W H).y0) ((cutR a b c d 0 0 W H).x1) ((cutR a b c d 0 0 W H).y1) s).y0) ((sclR ((cutR a b c d 0 0 W H).x0) ((cutR a b c d 0 0 W H).y0) ((cutR a b c d 0 0 W H).x1) ((cutR a b c d 0 0 W H).y1) s).x1) ((sclR ((cutR a b c d 0 0 W H).x0) ((cutR a b c d 0 0 W H).y0) ((cutR a b c d 0 0 W H).x1) ((cutR a b c d 0 0 W H).y1) s).y1) X Y).y1)], iq (movE ((sclR ((cutR a b c d 0 0 W H).x0) ((cutR a b c d 0 0 W H).y0) ((cutR a b c d 0 0 W H).x1) ((cutR a b c d 0 0 W H).y1) s).x0) ((sclR ((cutR a b c d 0 0 W H).x0) ((cutR a b c d 0 0 W H).y0) ((cutR a b c d 0 0 W H).x1) ((cutR a b c d 0 0 W H).y1) s).y0) ((sclR ((cutR a b c d 0 0 W H).x0) ((cutR a b c d 0 0 W H).y0) ((cutR a b c d 0 0 W H).x1) ((cutR a b c d 0 0 W H).y1) s).x1) ((sclR ((cutR a b c d 0 0 W H).x0) ((cutR a b c d 0 0 W H).y0) ((cutR a b c d 0 0 W H).x1) ((cutR a b c d 0 0 W H).y1) s).y1) X Y)]) (fun w hT => rectMov ((sclR ((cutR a b c d 0 0 W H).x0) ((cutR a b c d 0 0 W H).y0) ((cutR a b c d 0 0 W H).x1) ((cutR a b c d 0 0 W H).y1) s).x0) ((sclR ((cutR a b c d 0 0 W H).x0) ((cutR a b c d 0 0 W H).y0) ((cutR a b c d 0 0 W H).x1) ((cutR a b c d 0 0 W H).y1) s).y0) ((sclR ((cutR a b c d 0 0 W H).x0) ((cutR a b c d 0 0 W H).y0) ((cutR a b c d 0 0 W H).x1) ((cutR a b c d 0 0 W H).y1) s).x1) ((sclR ((cutR a b c d 0 0 W H).x0) ((cutR a b c d 0 0 W H).y0) ((cutR a b c d 0 0 W H).x1) ((cutR a b c d 0 0 W H).y1) s).y1) X Y w (by omega) (by omega) (by omega) (by omega)) ?_
  refine bZ [0, 0, 0, 1, 0] 13 0 [(3, .pointer (pB b2)), (4, .pointer (pB b3)), (6, iq (movE ((sclR ((cutR a b c d 0 0 W H).x0) ((cutR a b c d 0 0 W H).y0) ((cutR a b c d 0 0 W H).x1) ((cutR a b c d 0 0 W H).y1) s).x0) ((sclR ((cutR a b c d 0 0 W H).x0) ((cutR a b c d 0 0 W H).y0) ((cutR a b c d 0 0 W H).x1) ((cutR a b c d 0 0 W H).y1) s).y0) ((sclR ((cutR a b c d 0 0 W H).x0) ((cutR a b c d 0 0 W H).y0) ((cutR a b c d 0 0 W H).x1) ((cutR a b c d 0 0 W H).y1) s).x1) ((sclR ((cutR a b c d 0 0 W H).x0) ((cutR a b c d 0 0 W H).y0) ((cutR a b c d 0 0 W H).x1) ((cutR a b c d 0 0 W H).y1) s).y1) X Y))] [.cells b3 [iq 0, iq 0, iq 0, iq 0] 32 true, .cells b2 [iq ((movR ((sclR ((cutR a b c d 0 0 W H).x0) ((cutR a b c d 0 0 W H).y0) ((cutR a b c d 0 0 W H).x1) ((cutR a b c d 0 0 W H).y1) s).x0) ((sclR ((cutR a b c d 0 0 W H).x0) ((cutR a b c d 0 0 W H).y0) ((cutR a b c d 0 0 W H).x1) ((cutR a b c d 0 0 W H).y1) s).y0) ((sclR ((cutR a b c d 0 0 W H).x0) ((cutR a b c d 0 0 W H).y0) ((cutR a b c d 0 0 W H).x1) ((cutR a b c d 0 0 W H).y1) s).x1) ((sclR ((cutR a b c d 0 0 W H).x0) ((cutR a b c d 0 0 W H).y0) ((cutR a b c d 0 0 W H).x1) ((cutR a b c d 0 0 W H).y1) s).y1) X Y).x0), iq ((movR ((sclR ((cutR a b c d 0 0 W H).x0) ((cutR a b c d 0 0 W H).y0) ((cutR a b c d 0 0 W H).x1) ((cutR a b c d 0 0 W H).y1) s).x0) ((sclR ((cutR a b c d 0 0 W H).x0) ((cutR a b c d 0 0 W H).y0) ((cutR a b c d 0 0 W H).x1) ((cutR a b c d 0 0 W H).y1) s).y0) ((sclR ((cutR a b c d 0 0 W H).x0) ((cutR a b c d 0 0 W H).y0) ((cutR a b c d 0 0 W H).x1) ((cutR a b c d 0 0 W H).y1) s).x1) ((sclR ((cutR a b c d 0 0 W H).x0) ((cutR a b c d 0 0 W H).y0) ((cutR a b c d 0 0 W H).x1) ((cutR a b c d 0 0 W H).y1) s).y1) X Y).y0), iq ((movR ((sclR ((cutR a b c d 0 0 W H).x0) ((cutR a b c d 0 0 W H).y0) ((cutR a b c d 0 0 W H).x1) ((cutR a b c d 0 0 W H).y1) s).x0) ((sclR ((cutR a b c d 0 0 W H).x0) ((cutR a b c d 0 0 W H).y0) ((cutR a b c d 0 0 W H).x1) ((cutR a b c d 0 0 W H).y1) s).y0) ((sclR ((cutR a b c d 0 0 W H).x0) ((cutR a b c d 0 0 W H).y0) ((cutR a b c d 0 0 W H).x1) ((cutR a b c d 0 0 W H).y1) s).x1) ((sclR ((cutR a b c d 0 0 W H).x0) ((cutR a b c d 0 0 W H).y0) ((cutR a b c d 0 0 W H).x1) ((cutR a b c d 0 0 W H).y1) s).y1) X Y).x1), iq ((movR ((sclR ((cutR a b c d 0 0 W H).x0) ((cutR a b c d 0 0 W H).y0) ((cutR a b c d 0 0 W H).x1) ((cutR a b c d 0 0 W H).y1) s).x0) ((sclR ((cutR a b c d 0 0 W H).x0) ((cutR a b c d 0 0 W H).y0) ((cutR a b c d 0 0 W H).x1) ((cutR a b c d 0 0 W H).y1) s).y0) ((sclR ((cutR a b c d 0 0 W H).x0) ((cutR a b c d 0 0 W H).y0) ((cutR a b c d 0 0 W H).x1) ((cutR a b c d 0 0 W H).y1) s).x1) ((sclR ((cutR a b c d 0 0 W H).x0) ((cutR a b c d 0 0 W H).y0) ((cutR a b c d 0 0 W H).x1) ((cutR a b c d 0 0 W H).y1) s).y1) X Y).y1)] 32 true, .ro m [iq W, iq H, .slice (pB r) n cap] 116, rD (pB r) r 0 n 1 (cV px)] ?_
  refine zDNSR 5 <| bZ [1, 0, 0, 0, 0] 5 0 [(4, .pointer (pB b3)), (5, .bool ((movE ((sclR ((cutR a b c d 0 0 W H).x0) ((cutR a b c d 0 0 W H).y0) ((cutR a b c d 0 0 W H).x1) ((cutR a b c d 0 0 W H).y1) s).x0) ((sclR ((cutR a b c d 0 0 W H).x0) ((cutR a b c d 0 0 W H).y0) ((cutR a b c d 0 0 W H).x1) ((cutR a b c d 0 0 W H).y1) s).y0) ((sclR ((cutR a b c d 0 0 W H).x0) ((cutR a b c d 0 0 W H).y0) ((cutR a b c d 0 0 W H).x1) ((cutR a b c d 0 0 W H).y1) s).x1) ((sclR ((cutR a b c d 0 0 W H).x0) ((cutR a b c d 0 0 W H).y0) ((cutR a b c d 0 0 W H).x1) ((cutR a b c d 0 0 W H).y1) s).y1) X Y) == 0))] [.cells b3 [iq ((movR ((sclR ((cutR a b c d 0 0 W H).x0) ((cutR a b c d 0 0 W H).y0) ((cutR a b c d 0 0 W H).x1) ((cutR a b c d 0 0 W H).y1) s).x0) ((sclR ((cutR a b c d 0 0 W H).x0) ((cutR a b c d 0 0 W H).y0) ((cutR a b c d 0 0 W H).x1) ((cutR a b c d 0 0 W H).y1) s).y0) ((sclR ((cutR a b c d 0 0 W H).x0) ((cutR a b c d 0 0 W H).y0) ((cutR a b c d 0 0 W H).x1) ((cutR a b c d 0 0 W H).y1) s).x1) ((sclR ((cutR a b c d 0 0 W H).x0) ((cutR a b c d 0 0 W H).y0) ((cutR a b c d 0 0 W H).x1) ((cutR a b c d 0 0 W H).y1) s).y1) X Y).x0), iq ((movR ((sclR ((cutR a b c d 0 0 W H).x0) ((cutR a b c d 0 0 W H).y0) ((cutR a b c d 0 0 W H).x1) ((cutR a b c d 0 0 W H).y1) s).x0) ((sclR ((cutR a b c d 0 0 W H).x0) ((cutR a b c d 0 0 W H).y0) ((cutR a b c d 0 0 W H).x1) ((cutR a b c d 0 0 W H).y1) s).y0) ((sclR ((cutR a b c d 0 0 W H).x0) ((cutR a b c d 0 0 W H).y0) ((cutR a b c d 0 0 W H).x1) ((cutR a b c d 0 0 W H).y1) s).x1) ((sclR ((cutR a b c d 0 0 W H).x0) ((cutR a b c d 0 0 W H).y0) ((cutR a b c d 0 0 W H).x1) ((cutR a b c d 0 0 W H).y1) s).y1) X Y).y0), iq ((movR ((sclR ((cutR a b c d 0 0 W H).x0) ((cutR a b c d 0 0 W H).y0) ((cutR a b c d 0 0 W H).x1) ((cutR a b c d 0 0 W H).y1) s).x0) ((sclR ((cutR a b c d 0 0 W H).x0) ((cutR a b c d 0 0 W H).y0) ((cutR a b c d 0 0 W H).x1) ((cutR a b c d 0 0 W H).y1) s).y0) ((sclR ((cutR a b c d 0 0 W H).x0) ((cutR a b c d 0 0 W H).y0) ((cutR a b c d 0 0 W H).x1) ((cutR a b c d 0 0 W H).y1) s).x1) ((sclR ((cutR a b c d 0 0 W H).x0) ((cutR a b c d 0 0 W H).y0) ((cutR a b c d 0 0 W H).x1) ((cutR a b c d 0 0 W H).y1) s).y1) X Y).x1), iq ((movR ((sclR ((cutR a b c d 0 0 W H).x0) ((cutR a b c d 0 0 W H).y0) ((cutR a b c d 0 0 W H).x1) ((cutR a b c d 0 0 W H).y1) s).x0) ((sclR ((cutR a b c d 0 0 W H).x0) ((cutR a b c d 0 0 W H).y0) ((cutR a b c d 0 0 W H).x1) ((cutR a b c d 0 0 W H).y1) s).y0) ((sclR ((cutR a b c d 0 0 W H).x0) ((cutR a b c d 0 0 W H).y0) ((cutR a b c d 0 0 W H).x1) ((cutR a b c d 0 0 W H).y1) s).x1) ((sclR ((cutR a b c d 0 0 W H).x0) ((cutR a b c d 0 0 W H).y0) ((cutR a b c d 0 0 W H).x1) ((cutR a b c d 0 0 W H).y1) s).y1) X Y).y1)] 32 true, .cells b2 [iq ((movR ((sclR ((cutR a b c d 0 0 W H).x0) ((cutR a b c d 0 0 W H).y0) ((cutR a b c d 0 0 W H).x1) ((cutR a b c d 0 0 W H).y1) s).x0) ((sclR ((cutR a b c d 0 0 W H).x0) ((cutR a b c d 0 0 W H).y0) ((cutR a b c d 0 0 W H).x1) ((cutR a b c d 0 0 W H).y1) s).y0) ((sclR ((cutR a b c d 0 0 W H).x0) ((cutR a b c d 0 0 W H).y0) ((cutR a b c d 0 0 W H).x1) ((cutR a b c d 0 0 W H).y1) s).x1) ((sclR ((cutR a b c d 0 0 W H).x0) ((cutR a b c d 0 0 W H).y0) ((cutR a b c d 0 0 W H).x1) ((cutR a b c d 0 0 W H).y1) s).y1) X Y).x0), iq ((movR ((sclR ((cutR a b c d 0 0 W H).x0) ((cutR a b c d 0 0 W H).y0) ((cutR a b c d 0 0 W H).x1) ((cutR a b c d 0 0 W H).y1) s).x0) ((sclR ((cutR a b c d 0 0 W H).x0) ((cutR a b c d 0 0 W H).y0) ((cutR a b c d 0 0 W H).x1) ((cutR a b c d 0 0 W H).y1) s).y0) ((sclR ((cutR a b c d 0 0 W H).x0) ((cutR a b c d 0 0 W H).y0) ((cutR a b c d 0 0 W H).x1) ((cutR a b c d 0 0 W H).y1) s).x1) ((sclR ((cutR a b c d 0 0 W H).x0) ((cutR a b c d 0 0 W H).y0) ((cutR a b c d 0 0 W H).x1) ((cutR a b c d 0 0 W H).y1) s).y1) X Y).y0), iq ((movR ((sclR ((cutR a b c d 0 0 W H).x0) ((cutR a b c d 0 0 W H).y0) ((cutR a b c d 0 0 W H).x1) ((cutR a b c d 0 0 W H).y1) s).x0) ((sclR ((cutR a b c d 0 0 W H).x0) ((cutR a b c d 0 0 W H).y0) ((cutR a b c d 0 0 W H).x1) ((cutR a b c d 0 0 W H).y1) s).y0) ((sclR ((cutR a b c d 0 0 W H).x0) ((cutR a b c d 0 0 W H).y0) ((cutR a b c d 0 0 W H).x1) ((cutR a b c d 0 0 W H).y1) s).x1) ((sclR ((cutR a b c d 0 0 W H).x0) ((cutR a b c d 0 0 W H).y0) ((cutR a b c d 0 0 W H).x1) ((cutR a b c d 0 0 W H).y1) s).y1) X Y).x1), iq ((movR ((sclR ((cutR a b c d 0 0 W H).x0) ((cutR a b c d 0 0 W H).y0) ((cutR a b c d 0 0 W H).x1) ((cutR a b c d 0 0 W H).y1) s).x0) ((sclR ((cutR a b c d 0 0 W H).x0) ((cutR a b c d 0 0 W H).y0) ((cutR a b c d 0 0 W H).x1) ((cutR a b c d 0 0 W H).y1) s).y0) ((sclR ((cutR a b c d 0 0 W H).x0) ((cutR a b c d 0 0 W H).y0) ((cutR a b c d 0 0 W H).x1) ((cutR a b c d 0 0 W H).y1) s).x1) ((sclR ((cutR a b c d 0 0 W H).x0) ((cutR a b c d 0 0 W H).y0) ((cutR a b c d 0 0 W H).x1) ((cutR a b c d 0 0 W H).y1) s).y1) X Y).y1)] 32 true, .ro m [iq W, iq H, .slice (pB r) n cap] 116, rD (pB r) r 0 n 1 (cV px)] <| fG 1 <| zDNr ?_
  refine rB rfl 0 0 (.agg #[iq ((movR ((sclR ((cutR a b c d 0 0 W H).x0) ((cutR a b c d 0 0 W H).y0) ((cutR a b c d 0 0 W H).x1) ((cutR a b c d 0 0 W H).y1) s).x0) ((sclR ((cutR a b c d 0 0 W H).x0) ((cutR a b c d 0 0 W H).y0) ((cutR a b c d 0 0 W H).x1) ((cutR a b c d 0 0 W H).y1) s).y0) ((sclR ((cutR a b c d 0 0 W H).x0) ((cutR a b c d 0 0 W H).y0) ((cutR a b c d 0 0 W H).x1) ((cutR a b c d 0 0 W H).y1) s).x1) ((sclR ((cutR a b c d 0 0 W H).x0) ((cutR a b c d 0 0 W H).y0) ((cutR a b c d 0 0 W H).x1) ((cutR a b c d 0 0 W H).y1) s).y1) X Y).x0), iq ((movR ((sclR ((cutR a b c d 0 0 W H).x0) ((cutR a b c d 0 0 W H).y0) ((cutR a b c d 0 0 W H).x1) ((cutR a b c d 0 0 W H).y1) s).x0) ((sclR ((cutR a b c d 0 0 W H).x0) ((cutR a b c d 0 0 W H).y0) ((cutR a b c d 0 0 W H).x1) ((cutR a b c d 0 0 W H).y1) s).y0) ((sclR ((cutR a b c d 0 0 W H).x0) ((cutR a b c d 0 0 W H).y0) ((cutR a b c d 0 0 W H).x1) ((cutR a b c d 0 0 W H).y1) s).x1) ((sclR ((cutR a b c d 0 0 W H).x0) ((cutR a b c d 0 0 W H).y0) ((cutR a b c d 0 0 W H).x1) ((cutR a b c d 0 0 W H).y1) s).y1) X Y).y0), iq ((movR ((sclR ((cutR a b c d 0 0 W H).x0) ((cutR a b c d 0 0 W H).y0) ((cutR a b c d 0 0 W H).x1) ((cutR a b c d 0 0 W H).y1) s).x0) ((sclR ((cutR a b c d 0 0 W H).x0) ((cutR a b c d 0 0 W H).y0) ((cutR a b c d 0 0 W H).x1) ((cutR a b c d 0 0 W H).y1) s).y0) ((sclR ((cutR a b c d 0 0 W H).x0) ((cutR a b c d 0 0 W H).y0) ((cutR a b c d 0 0 W H).x1) ((cutR a b c d 0 0 W H).y1) s).x1) ((sclR ((cutR a b c d 0 0 W H).x0) ((cutR a b c d 0 0 W H).y0) ((cutR a b c d 0 0 W H).x1) ((cutR a b c d 0 0 W H).y1) s).y1) X Y).x1), iq ((movR ((sclR ((cutR a b c d 0 0 W H).x0) ((cutR a b c d 0 0 W H).y0) ((cutR a b c d 0 0 W H).x1) ((cutR a b c d 0 0 W H).y1) s).x0) ((sclR ((cutR a b c d 0 0 W H).x0) ((cutR a b c d 0 0 W H).y0) ((cutR a b c d 0 0 W H).x1) ((cutR a b c d 0 0 W H).y1) s).y0) ((sclR ((cutR a b c d 0 0 W H).x0) ((cutR a b c d 0 0 W H).y0) ((cutR a b c d 0 0 W H).x1) ((cutR a b c d 0 0 W H).y1) s).x1) ((sclR ((cutR a b c d 0 0 W H).x0) ((cutR a b c d 0 0 W H).y0) ((cutR a b c d 0 0 W H).x1) ((cutR a b c d 0 0 W H).y1) s).y1) X Y).y1)]) (.bool ((movE ((sclR ((cutR a b c d 0 0 W H).x0) ((cutR a b c d 0 0 W H).y0) ((cutR a b c d 0 0 W H).x1) ((cutR a b c d 0 0 W H).y1) s).x0) ((sclR ((cutR a b c d 0 0 W H).x0) ((cutR a b c d 0 0 W H).y0) ((cutR a b c d 0 0 W H).x1) ((cutR a b c d 0 0 W H).y1) s).y0) ((sclR ((cutR a b c d 0 0 W H).x0) ((cutR a b c d 0 0 W H).y0) ((cutR a b c d 0 0 W H).x1) ((cutR a b c d 0 0 W H).y1) s).x1) ((sclR ((cutR a b c d 0 0 W H).x0) ((cutR a b c d 0 0 W H).y0) ((cutR a b c d 0 0 W H).x1) ((cutR a b c d 0 0 W H).y1) s).y1) X Y) == 0)) fun w hT => ?_
  exact ⟨by simp [shwR, shwB, *], hT.post rfl⟩
 refine cP 10 (.agg #[iq 0, iq 0, iq W, iq H]) (fun w hT => imgBox m W H r n cap px  w ⟨hT.ok 3 _ rfl, hT.ok 4 _ rfl, by omega⟩ hok) <| dX 0 [1] <| dO 0 2 <| oS 1 [(2, .pointer (pB b1)), (3, .pointer (pB b2)), (4, .pointer (pB b3)), (7, .agg #[iq a, iq b, iq c, iq d]), (10, .agg #[iq 0, iq 0, iq W, iq H])] [.cells b3 [iq 0, iq 0, iq 0, iq 0] 32 true, .cells b2 [iq a, iq b, iq c, iq d] 32 true, .cells b1 [.pointer (pB m), iq X, iq Y, iq s, iq al, iq ca, iq cb, iq cc, iq cd] 120 true, .ro m [iq W, iq H, .slice (pB r) n cap] 116, rD (pB r) r 0 n 1 (cV px)] <| dX 0 [1] <| dO 4 1 <| cP 11 (.agg #[iq ((cutR a b c d 0 0 W H).x0), iq ((cutR a b c d 0 0 W H).y0), iq ((cutR a b c d 0 0 W H).x1), iq ((cutR a b c d 0 0 W H).y1)]) (fun w hT => rectCut a b c d 0 0 W H w) <| dX 0 [1] <| dO 5 0 <| oS 1 [(2, .pointer (pB b1)), (3, .pointer (pB b2)), (4, .pointer (pB b3))] [.cells b3 [iq 0, iq 0, iq 0, iq 0] 32 true, .cells b2 [iq ((cutR a b c d 0 0 W H).x0), iq ((cutR a b c d 0 0 W H).y0), iq ((cutR a b c d 0 0 W H).x1), iq ((cutR a b c d 0 0 W H).y1)] 32 true, .cells b1 [.pointer (pB m), iq X, iq Y, iq s, iq al, iq ca, iq cb, iq cc, iq cd] 120 true, .ro m [iq W, iq H, .slice (pB r) n cap] 116, rD (pB r) r 0 n 1 (cV px)] <| dX 0 [1] <| dD <| zN <| zSSR 2 <| bD [1] 1 1 [(12, .agg #[iq ((cutR a b c d 0 0 W H).x0), iq ((cutR a b c d 0 0 W H).y0), iq ((cutR a b c d 0 0 W H).x1), iq ((cutR a b c d 0 0 W H).y1)])] [] <| pS 2 0 <| cP 13 (.bool (emptyB ((cutR a b c d 0 0 W H).x0) ((cutR a b c d 0 0 W H).y0) ((cutR a b c d 0 0 W H).x1) ((cutR a b c d 0 0 W H).y1))) (fun w hT => rectEmpty ((cutR a b c d 0 0 W H).x0) ((cutR a b c d 0 0 W H).y0) ((cutR a b c d 0 0 W H).x1) ((cutR a b c d 0 0 W H).y1) w) <| zDN <| cSp 13 _ rfl (fun c6_ => ?_) fun c6_ => ?_
 ·
  refine zTSR 3 <| bD [0, 0, 0] 3 0 [(5, .bool true)] [14] <| fG 1 <| fG 1 <| zDNrt <| rB rfl 0 0 (.agg #[iq 0, iq 0, iq 0, iq 0]) (.bool true) fun w hT => ?_
  exact ⟨by simp [shwR, shwB, *], hT.post rfl⟩
 refine zFKNSR 9 <| bD [1, 0, 2] 3 6 [(16, .agg #[iq ((cutR a b c d 0 0 W H).x0), iq ((cutR a b c d 0 0 W H).y0), iq ((cutR a b c d 0 0 W H).x1), iq ((cutR a b c d 0 0 W H).y1)]), (18, iq s)] [17] <| pS 4 5 <| cP 19 (.tuple #[.agg #[iq ((sclR ((cutR a b c d 0 0 W H).x0) ((cutR a b c d 0 0 W H).y0) ((cutR a b c d 0 0 W H).x1) ((cutR a b c d 0 0 W H).y1) s).x0), iq ((sclR ((cutR a b c d 0 0 W H).x0) ((cutR a b c d 0 0 W H).y0) ((cutR a b c d 0 0 W H).x1) ((cutR a b c d 0 0 W H).y1) s).y0), iq ((sclR ((cutR a b c d 0 0 W H).x0) ((cutR a b c d 0 0 W H).y0) ((cutR a b c d 0 0 W H).x1) ((cutR a b c d 0 0 W H).y1) s).x1), iq ((sclR ((cutR a b c d 0 0 W H).x0) ((cutR a b c d 0 0 W H).y0) ((cutR a b c d 0 0 W H).x1) ((cutR a b c d 0 0 W H).y1) s).y1)], iq (sclE ((cutR a b c d 0 0 W H).x0) ((cutR a b c d 0 0 W H).y0) ((cutR a b c d 0 0 W H).x1) ((cutR a b c d 0 0 W H).y1) s)]) (fun w hT => rectScl ((cutR a b c d 0 0 W H).x0) ((cutR a b c d 0 0 W H).y0) ((cutR a b c d 0 0 W H).x1) ((cutR a b c d 0 0 W H).y1) s w) <| bZ [0, 0, 0, 1, 0] 9 0 [(2, .pointer (pB b1)), (3, .pointer (pB b2)), (4, .pointer (pB b3)), (6, iq (sclE ((cutR a b c d 0 0 W H).x0) ((cutR a b c d 0 0 W H).y0) ((cutR a b c d 0 0 W H).x1) ((cutR a b c d 0 0 W H).y1) s))] [.cells b3 [iq 0, iq 0, iq 0, iq 0] 32 true, .cells b2 [iq ((sclR ((cutR a b c d 0 0 W H).x0) ((cutR a b c d 0 0 W H).y0) ((cutR a b c d 0 0 W H).x1) ((cutR a b c d 0 0 W H).y1) s).x0), iq ((sclR ((cutR a b c d 0 0 W H).x0) ((cutR a b c d 0 0 W H).y0) ((cutR a b c d 0 0 W H).x1) ((cutR a b c d 0 0 W H).y1) s).y0), iq ((sclR ((cutR a b c d 0 0 W H).x0) ((cutR a b c d 0 0 W H).y0) ((cutR a b c d 0 0 W H).x1) ((cutR a b c d 0 0 W H).y1) s).x1), iq ((sclR ((cutR a b c d 0 0 W H).x0) ((cutR a b c d 0 0 W H).y0) ((cutR a b c d 0 0 W H).x1) ((cutR a b c d 0 0 W H).y1) s).y1)] 32 true, .cells b1 [.pointer (pB m), iq X, iq Y, iq s, iq al, iq ca, iq cb, iq cc, iq cd] 120 true, .ro m [iq W, iq H, .slice (pB r) n cap] 116, rD (pB r) r 0 n 1 (cV px)] <| zDNSSR 2 <| bD [0, 0] 2 0 [(23, .bool ((sclE ((cutR a b c d 0 0 W H).x0) ((cutR a b c d 0 0 W H).y0) ((cutR a b c d 0 0 W H).x1) ((cutR a b c d 0 0 W H).y1) s) != 0))] [22] <| zDN <| sN 23 rfl (fun c7_ => ?_) fun c7_ => ?_
 ·
  refine zTSR 3 <| bD [0, 0, 0] 3 0 [(5, .bool false)] [24] <| fG 1 <| fG 1 <| zDNrt <| rB rfl 0 0 (.agg #[iq 0, iq 0, iq 0, iq 0]) (.bool false) fun w hT => ?_
  exact ⟨by simp [shwR, shwB, *], hT.post rfl⟩
 refine zFKNSR 13 ?_
 have hsr := sclR_range (cutR a b c d 0 0 W H).x0 (cutR a b c d 0 0 W H).y0 (cutR a b c d 0 0 W H).x1 (cutR a b c d 0 0 W H).y1 s
 refine bD [1, 0, 0, 2, 0, 0, 2] 7 6 [(26, .agg #[iq ((sclR ((cutR a b c d 0 0 W H).x0) ((cutR a b c d 0 0 W H).y0) ((cutR a b c d 0 0 W H).x1) ((cutR a b c d 0 0 W H).y1) s).x0), iq ((sclR ((cutR a b c d 0 0 W H).x0) ((cutR a b c d 0 0 W H).y0) ((cutR a b c d 0 0 W H).x1) ((cutR a b c d 0 0 W H).y1) s).y0), iq ((sclR ((cutR a b c d 0 0 W H).x0) ((cutR a b c d 0 0 W H).y0) ((cutR a b c d 0 0 W H).x1) ((cutR a b c d 0 0 W H).y1) s).x1), iq ((sclR ((cutR a b c d 0 0 W H).x0) ((cutR a b c d 0 0 W H).y0) ((cutR a b c d 0 0 W H).x1) ((cutR a b c d 0 0 W H).y1) s).y1)]), (29, iq X), (32, iq Y)] [27, 28, 30, 31] <| fG 2 <| pS 8 5 <| cP 33 (.tuple #[.agg #[iq ((movR ((sclR ((cutR a b c d 0 0 W H).x0) ((cutR a b c d 0 0 W H).y0) ((cutR a b c d 0 0 W H).x1) ((cutR a b c d 0 0 W H).y1) s).x0) ((sclR ((cutR a b c d 0 0 W H).x0) ((cutR a b c d 0 0 W H).y0) ((cutR a b c d 0 0 W H).x1) ((cutR a b c d 0 0 W H).y1) s).y0) ((sclR ((cutR a b c d 0 0 W H).x0) ((cutR a b c d 0 0 W H).y0) ((cutR a b c d 0 0 W H).x1) ((cutR a b c d 0 0 W H).y1) s).x1) ((sclR ((cutR a b c d 0 0 W H).x0) ((cutR a b c d 0 0 W H).y0) ((cutR a b c d 0 0 W H).x1) ((cutR a b c d 0 0 W H).y1) s).y1) X Y).x0), iq ((movR ((sclR ((cutR a b c d 0 0 W H).x0) ((cutR a b c d 0 0 W H).y0) ((cutR a b c d 0 0 W H).x1) ((cutR a b c d 0 0 W H).y1) s).x0) ((sclR ((cutR a b c d 0 0 W H).x0) ((cutR a b c d 0 0 W H).y0) ((cutR a b c d 0 0 W H).x1) ((cutR a b c d 0 0 W H).y1) s).y0) ((sclR ((cutR a b c d 0 0 W H).x0) ((cutR a b c d 0 0 W H).y0) ((cutR a b c d 0 0 W H).x1) ((cutR a b c d 0 0 W H).y1) s).x1) ((sclR ((cutR a b c d 0 0 W H).x0) ((cutR a b c d 0 0 W H).y0) ((cutR a b c d 0 0 W H).x1) ((cutR a b c d 0 0 W H).y1) s).y1) X Y).y0), iq ((movR ((sclR ((cutR a b c d 0 0 W H).x0) ((cutR a b c d 0 0 W H).y0) ((cutR a b c d 0 0 W H).x1) ((cutR a b c d 0 0 W H).y1) s).x0) ((sclR ((cutR a b c d 0 0 W H).x0) ((cutR a b c d 0 0 W H).y0) ((cutR a b c d 0 0 W H).x1) ((cutR a b c d 0 0 W H).y1) s).y0) ((sclR ((cutR a b c d 0 0 W H).x0) ((cutR a b c d 0 0 W H).y0) ((cutR a b c d 0 0 W H).x1) ((cutR a b c d 0 0 W H).y1) s).x1) ((sclR ((cutR a b c d 0 0 W H).x0) ((cutR a b c d 0 0 W H).y0) ((cutR a b c d 0 0 W H).x1) ((cutR a b c d 0 0 W H).y1) s).y1) X Y).x1), iq ((movR ((sclR ((cutR a b c d 0 0 W H).x0) ((cutR a b c d 0 0 W H).y0) ((cutR a b c d 0 0 W H).x1) ((cutR a b c d 0 0 W H).y1) s).x0) ((sclR ((cutR a b c d 0 0 W H).x0) ((cutR a b c d 0 0 W H).y0) ((cutR a b c d 0 0 W H).x1) ((cutR a b c d 0 0 W H).y1) s).y0) ((sclR ((cutR a b c d 0 0 W H).x0) ((cutR a b c d 0 0 W H).y0) ((cutR a b c d 0 0 W H).x1) ((cutR a b c d 0 0 W H).y1) s).x1) ((sclR ((cutR a b c d 0 0 W H).x0) ((cutR a b c d 0 0 W H).y0) ((cutR a b c d 0 0 W H).x1) ((cutR a b c d 0 0 W H).y1) s).y1) X Y).y1)], iq (movE ((sclR ((cutR a b c d 0 0 W H).x0) ((cutR a b c d 0 0 W H).y0) ((cutR a b c d 0 0 W H).x1) ((cutR a b c d 0 0 W H).y1) s).x0) ((sclR ((cutR a b c d 0 0 W H).x0) ((cutR a b c d 0 0 W H).y0) ((cutR a b c d 0 0 W H).x1) ((cutR a b c d 0 0 W H).y1) s).y0) ((sclR ((cutR a b c d 0 0 W H).x0) ((cutR a b c d 0 0 W H).y0) ((cutR a b c d 0 0 W H).x1) ((cutR a b c d 0 0 W H).y1) s).x1) ((sclR ((cutR a b c d 0 0 W H).x0) ((cutR a b c d 0 0 W H).y0) ((cutR a b c d 0 0 W H).x1) ((cutR a b c d 0 0 W H).y1) s).y1) X Y)]) (fun w hT => rectMov ((sclR ((cutR a b c d 0 0 W H).x0) ((cutR a b c d 0 0 W H).y0) ((cutR a b c d 0 0 W H).x1) ((cutR a b c d 0 0 W H).y1) s).x0) ((sclR ((cutR a b c d 0 0 W H).x0) ((cutR a b c d 0 0 W H).y0) ((cutR a b c d 0 0 W H).x1) ((cutR a b c d 0 0 W H).y1) s).y0) ((sclR ((cutR a b c d 0 0 W H).x0) ((cutR a b c d 0 0 W H).y0) ((cutR a b c d 0 0 W H).x1) ((cutR a b c d 0 0 W H).y1) s).x1) ((sclR ((cutR a b c d 0 0 W H).x0) ((cutR a b c d 0 0 W H).y0) ((cutR a b c d 0 0 W H).x1) ((cutR a b c d 0 0 W H).y1) s).y1) X Y w (by omega) (by omega) (by omega) (by omega)) ?_
 refine bZ [0, 0, 0, 1, 0] 13 0 [(3, .pointer (pB b2)), (4, .pointer (pB b3)), (6, iq (movE ((sclR ((cutR a b c d 0 0 W H).x0) ((cutR a b c d 0 0 W H).y0) ((cutR a b c d 0 0 W H).x1) ((cutR a b c d 0 0 W H).y1) s).x0) ((sclR ((cutR a b c d 0 0 W H).x0) ((cutR a b c d 0 0 W H).y0) ((cutR a b c d 0 0 W H).x1) ((cutR a b c d 0 0 W H).y1) s).y0) ((sclR ((cutR a b c d 0 0 W H).x0) ((cutR a b c d 0 0 W H).y0) ((cutR a b c d 0 0 W H).x1) ((cutR a b c d 0 0 W H).y1) s).x1) ((sclR ((cutR a b c d 0 0 W H).x0) ((cutR a b c d 0 0 W H).y0) ((cutR a b c d 0 0 W H).x1) ((cutR a b c d 0 0 W H).y1) s).y1) X Y))] [.cells b3 [iq 0, iq 0, iq 0, iq 0] 32 true, .cells b2 [iq ((movR ((sclR ((cutR a b c d 0 0 W H).x0) ((cutR a b c d 0 0 W H).y0) ((cutR a b c d 0 0 W H).x1) ((cutR a b c d 0 0 W H).y1) s).x0) ((sclR ((cutR a b c d 0 0 W H).x0) ((cutR a b c d 0 0 W H).y0) ((cutR a b c d 0 0 W H).x1) ((cutR a b c d 0 0 W H).y1) s).y0) ((sclR ((cutR a b c d 0 0 W H).x0) ((cutR a b c d 0 0 W H).y0) ((cutR a b c d 0 0 W H).x1) ((cutR a b c d 0 0 W H).y1) s).x1) ((sclR ((cutR a b c d 0 0 W H).x0) ((cutR a b c d 0 0 W H).y0) ((cutR a b c d 0 0 W H).x1) ((cutR a b c d 0 0 W H).y1) s).y1) X Y).x0), iq ((movR ((sclR ((cutR a b c d 0 0 W H).x0) ((cutR a b c d 0 0 W H).y0) ((cutR a b c d 0 0 W H).x1) ((cutR a b c d 0 0 W H).y1) s).x0) ((sclR ((cutR a b c d 0 0 W H).x0) ((cutR a b c d 0 0 W H).y0) ((cutR a b c d 0 0 W H).x1) ((cutR a b c d 0 0 W H).y1) s).y0) ((sclR ((cutR a b c d 0 0 W H).x0) ((cutR a b c d 0 0 W H).y0) ((cutR a b c d 0 0 W H).x1) ((cutR a b c d 0 0 W H).y1) s).x1) ((sclR ((cutR a b c d 0 0 W H).x0) ((cutR a b c d 0 0 W H).y0) ((cutR a b c d 0 0 W H).x1) ((cutR a b c d 0 0 W H).y1) s).y1) X Y).y0), iq ((movR ((sclR ((cutR a b c d 0 0 W H).x0) ((cutR a b c d 0 0 W H).y0) ((cutR a b c d 0 0 W H).x1) ((cutR a b c d 0 0 W H).y1) s).x0) ((sclR ((cutR a b c d 0 0 W H).x0) ((cutR a b c d 0 0 W H).y0) ((cutR a b c d 0 0 W H).x1) ((cutR a b c d 0 0 W H).y1) s).y0) ((sclR ((cutR a b c d 0 0 W H).x0) ((cutR a b c d 0 0 W H).y0) ((cutR a b c d 0 0 W H).x1) ((cutR a b c d 0 0 W H).y1) s).x1) ((sclR ((cutR a b c d 0 0 W H).x0) ((cutR a b c d 0 0 W H).y0) ((cutR a b c d 0 0 W H).x1) ((cutR a b c d 0 0 W H).y1) s).y1) X Y).x1), iq ((movR ((sclR ((cutR a b c d 0 0 W H).x0) ((cutR a b c d 0 0 W H).y0) ((cutR a b c d 0 0 W H).x1) ((cutR a b c d 0 0 W H).y1) s).x0) ((sclR ((cutR a b c d 0 0 W H).x0) ((cutR a b c d 0 0 W H).y0) ((cutR a b c d 0 0 W H).x1) ((cutR a b c d 0 0 W H).y1) s).y0) ((sclR ((cutR a b c d 0 0 W H).x0) ((cutR a b c d 0 0 W H).y0) ((cutR a b c d 0 0 W H).x1) ((cutR a b c d 0 0 W H).y1) s).x1) ((sclR ((cutR a b c d 0 0 W H).x0) ((cutR a b c d 0 0 W H).y0) ((cutR a b c d 0 0 W H).x1) ((cutR a b c d 0 0 W H).y1) s).y1) X Y).y1)] 32 true, .ro m [iq W, iq H, .slice (pB r) n cap] 116, rD (pB r) r 0 n 1 (cV px)] ?_
 refine zDNSR 5 <| bZ [1, 0, 0, 0, 0] 5 0 [(4, .pointer (pB b3)), (5, .bool ((movE ((sclR ((cutR a b c d 0 0 W H).x0) ((cutR a b c d 0 0 W H).y0) ((cutR a b c d 0 0 W H).x1) ((cutR a b c d 0 0 W H).y1) s).x0) ((sclR ((cutR a b c d 0 0 W H).x0) ((cutR a b c d 0 0 W H).y0) ((cutR a b c d 0 0 W H).x1) ((cutR a b c d 0 0 W H).y1) s).y0) ((sclR ((cutR a b c d 0 0 W H).x0) ((cutR a b c d 0 0 W H).y0) ((cutR a b c d 0 0 W H).x1) ((cutR a b c d 0 0 W H).y1) s).x1) ((sclR ((cutR a b c d 0 0 W H).x0) ((cutR a b c d 0 0 W H).y0) ((cutR a b c d 0 0 W H).x1) ((cutR a b c d 0 0 W H).y1) s).y1) X Y) == 0))] [.cells b3 [iq ((movR ((sclR ((cutR a b c d 0 0 W H).x0) ((cutR a b c d 0 0 W H).y0) ((cutR a b c d 0 0 W H).x1) ((cutR a b c d 0 0 W H).y1) s).x0) ((sclR ((cutR a b c d 0 0 W H).x0) ((cutR a b c d 0 0 W H).y0) ((cutR a b c d 0 0 W H).x1) ((cutR a b c d 0 0 W H).y1) s).y0) ((sclR ((cutR a b c d 0 0 W H).x0) ((cutR a b c d 0 0 W H).y0) ((cutR a b c d 0 0 W H).x1) ((cutR a b c d 0 0 W H).y1) s).x1) ((sclR ((cutR a b c d 0 0 W H).x0) ((cutR a b c d 0 0 W H).y0) ((cutR a b c d 0 0 W H).x1) ((cutR a b c d 0 0 W H).y1) s).y1) X Y).x0), iq ((movR ((sclR ((cutR a b c d 0 0 W H).x0) ((cutR a b c d 0 0 W H).y0) ((cutR a b c d 0 0 W H).x1) ((cutR a b c d 0 0 W H).y1) s).x0) ((sclR ((cutR a b c d 0 0 W H).x0) ((cutR a b c d 0 0 W H).y0) ((cutR a b c d 0 0 W H).x1) ((cutR a b c d 0 0 W H).y1) s).y0) ((sclR ((cutR a b c d 0 0 W H).x0) ((cutR a b c d 0 0 W H).y0) ((cutR a b c d 0 0 W H).x1) ((cutR a b c d 0 0 W H).y1) s).x1) ((sclR ((cutR a b c d 0 0 W H).x0) ((cutR a b c d 0 0 W H).y0) ((cutR a b c d 0 0 W H).x1) ((cutR a b c d 0 0 W H).y1) s).y1) X Y).y0), iq ((movR ((sclR ((cutR a b c d 0 0 W H).x0) ((cutR a b c d 0 0 W H).y0) ((cutR a b c d 0 0 W H).x1) ((cutR a b c d 0 0 W H).y1) s).x0) ((sclR ((cutR a b c d 0 0 W H).x0) ((cutR a b c d 0 0 W H).y0) ((cutR a b c d 0 0 W H).x1) ((cutR a b c d 0 0 W H).y1) s).y0) ((sclR ((cutR a b c d 0 0 W H).x0) ((cutR a b c d 0 0 W H).y0) ((cutR a b c d 0 0 W H).x1) ((cutR a b c d 0 0 W H).y1) s).x1) ((sclR ((cutR a b c d 0 0 W H).x0) ((cutR a b c d 0 0 W H).y0) ((cutR a b c d 0 0 W H).x1) ((cutR a b c d 0 0 W H).y1) s).y1) X Y).x1), iq ((movR ((sclR ((cutR a b c d 0 0 W H).x0) ((cutR a b c d 0 0 W H).y0) ((cutR a b c d 0 0 W H).x1) ((cutR a b c d 0 0 W H).y1) s).x0) ((sclR ((cutR a b c d 0 0 W H).x0) ((cutR a b c d 0 0 W H).y0) ((cutR a b c d 0 0 W H).x1) ((cutR a b c d 0 0 W H).y1) s).y0) ((sclR ((cutR a b c d 0 0 W H).x0) ((cutR a b c d 0 0 W H).y0) ((cutR a b c d 0 0 W H).x1) ((cutR a b c d 0 0 W H).y1) s).x1) ((sclR ((cutR a b c d 0 0 W H).x0) ((cutR a b c d 0 0 W H).y0) ((cutR a b c d 0 0 W H).x1) ((cutR a b c d 0 0 W H).y1) s).y1) X Y).y1)] 32 true, .cells b2 [iq ((movR ((sclR ((cutR a b c d 0 0 W H).x0) ((cutR a b c d 0 0 W H).y0) ((cutR a b c d 0 0 W H).x1) ((cutR a b c d 0 0 W H).y1) s).x0) ((sclR ((cutR a b c d 0 0 W H).x0) ((cutR a b c d 0 0 W H).y0) ((cutR a b c d 0 0 W H).x1) ((cutR a b c d 0 0 W H).y1) s).y0) ((sclR ((cutR a b c d 0 0 W H).x0) ((cutR a b c d 0 0 W H).y0) ((cutR a b c d 0 0 W H).x1) ((cutR a b c d 0 0 W H).y1) s).x1) ((sclR ((cutR a b c d 0 0 W H).x0) ((cutR a b c d 0 0 W H).y0) ((cutR a b c d 0 0 W H).x1) ((cutR a b c d 0 0 W H).y1) s).y1) X Y).x0), iq ((movR ((sclR ((cutR a b c d 0 0 W H).x0) ((cutR a b c d 0 0 W H).y0) ((cutR a b c d 0 0 W H).x1) ((cutR a b c d 0 0 W H).y1) s).x0) ((sclR ((cutR a b c d 0 0 W H).x0) ((cutR a b c d 0 0 W H).y0) ((cutR a b c d 0 0 W H).x1) ((cutR a b c d 0 0 W H).y1) s).y0) ((sclR ((cutR a b c d 0 0 W H).x0) ((cutR a b c d 0 0 W H).y0) ((cutR a b c d 0 0 W H).x1) ((cutR a b c d 0 0 W H).y1) s).x1) ((sclR ((cutR a b c d 0 0 W H).x0) ((cutR a b c d 0 0 W H).y0) ((cutR a b c d 0 0 W H).x1) ((cutR a b c d 0 0 W H).y1) s).y1) X Y).y0), iq ((movR ((sclR ((cutR a b c d 0 0 W H).x0) ((cutR a b c d 0 0 W H).y0) ((cutR a b c d 0 0 W H).x1) ((cutR a b c d 0 0 W H).y1) s).x0) ((sclR ((cutR a b c d 0 0 W H).x0) ((cutR a b c d 0 0 W H).y0) ((cutR a b c d 0 0 W H).x1) ((cutR a b c d 0 0 W H).y1) s).y0) ((sclR ((cutR a b c d 0 0 W H).x0) ((cutR a b c d 0 0 W H).y0) ((cutR a b c d 0 0 W H).x1) ((cutR a b c d 0 0 W H).y1) s).x1) ((sclR ((cutR a b c d 0 0 W H).x0) ((cutR a b c d 0 0 W H).y0) ((cutR a b c d 0 0 W H).x1) ((cutR a b c d 0 0 W H).y1) s).y1) X Y).x1), iq ((movR ((sclR ((cutR a b c d 0 0 W H).x0) ((cutR a b c d 0 0 W H).y0) ((cutR a b c d 0 0 W H).x1) ((cutR a b c d 0 0 W H).y1) s).x0) ((sclR ((cutR a b c d 0 0 W H).x0) ((cutR a b c d 0 0 W H).y0) ((cutR a b c d 0 0 W H).x1) ((cutR a b c d 0 0 W H).y1) s).y0) ((sclR ((cutR a b c d 0 0 W H).x0) ((cutR a b c d 0 0 W H).y0) ((cutR a b c d 0 0 W H).x1) ((cutR a b c d 0 0 W H).y1) s).x1) ((sclR ((cutR a b c d 0 0 W H).x0) ((cutR a b c d 0 0 W H).y0) ((cutR a b c d 0 0 W H).x1) ((cutR a b c d 0 0 W H).y1) s).y1) X Y).y1)] 32 true, .ro m [iq W, iq H, .slice (pB r) n cap] 116, rD (pB r) r 0 n 1 (cV px)] <| fG 1 <| zDNr ?_
 refine rB rfl 0 0 (.agg #[iq ((movR ((sclR ((cutR a b c d 0 0 W H).x0) ((cutR a b c d 0 0 W H).y0) ((cutR a b c d 0 0 W H).x1) ((cutR a b c d 0 0 W H).y1) s).x0) ((sclR ((cutR a b c d 0 0 W H).x0) ((cutR a b c d 0 0 W H).y0) ((cutR a b c d 0 0 W H).x1) ((cutR a b c d 0 0 W H).y1) s).y0) ((sclR ((cutR a b c d 0 0 W H).x0) ((cutR a b c d 0 0 W H).y0) ((cutR a b c d 0 0 W H).x1) ((cutR a b c d 0 0 W H).y1) s).x1) ((sclR ((cutR a b c d 0 0 W H).x0) ((cutR a b c d 0 0 W H).y0) ((cutR a b c d 0 0 W H).x1) ((cutR a b c d 0 0 W H).y1) s).y1) X Y).x0), iq ((movR ((sclR ((cutR a b c d 0 0 W H).x0) ((cutR a b c d 0 0 W H).y0) ((cutR a b c d 0 0 W H).x1) ((cutR a b c d 0 0 W H).y1) s).x0) ((sclR ((cutR a b c d 0 0 W H).x0) ((cutR a b c d 0 0 W H).y0) ((cutR a b c d 0 0 W H).x1) ((cutR a b c d 0 0 W H).y1) s).y0) ((sclR ((cutR a b c d 0 0 W H).x0) ((cutR a b c d 0 0 W H).y0) ((cutR a b c d 0 0 W H).x1) ((cutR a b c d 0 0 W H).y1) s).x1) ((sclR ((cutR a b c d 0 0 W H).x0) ((cutR a b c d 0 0 W H).y0) ((cutR a b c d 0 0 W H).x1) ((cutR a b c d 0 0 W H).y1) s).y1) X Y).y0), iq ((movR ((sclR ((cutR a b c d 0 0 W H).x0) ((cutR a b c d 0 0 W H).y0) ((cutR a b c d 0 0 W H).x1) ((cutR a b c d 0 0 W H).y1) s).x0) ((sclR ((cutR a b c d 0 0 W H).x0) ((cutR a b c d 0 0 W H).y0) ((cutR a b c d 0 0 W H).x1) ((cutR a b c d 0 0 W H).y1) s).y0) ((sclR ((cutR a b c d 0 0 W H).x0) ((cutR a b c d 0 0 W H).y0) ((cutR a b c d 0 0 W H).x1) ((cutR a b c d 0 0 W H).y1) s).x1) ((sclR ((cutR a b c d 0 0 W H).x0) ((cutR a b c d 0 0 W H).y0) ((cutR a b c d 0 0 W H).x1) ((cutR a b c d 0 0 W H).y1) s).y1) X Y).x1), iq ((movR ((sclR ((cutR a b c d 0 0 W H).x0) ((cutR a b c d 0 0 W H).y0) ((cutR a b c d 0 0 W H).x1) ((cutR a b c d 0 0 W H).y1) s).x0) ((sclR ((cutR a b c d 0 0 W H).x0) ((cutR a b c d 0 0 W H).y0) ((cutR a b c d 0 0 W H).x1) ((cutR a b c d 0 0 W H).y1) s).y0) ((sclR ((cutR a b c d 0 0 W H).x0) ((cutR a b c d 0 0 W H).y0) ((cutR a b c d 0 0 W H).x1) ((cutR a b c d 0 0 W H).y1) s).x1) ((sclR ((cutR a b c d 0 0 W H).x0) ((cutR a b c d 0 0 W H).y0) ((cutR a b c d 0 0 W H).x1) ((cutR a b c d 0 0 W H).y1) s).y1) X Y).y1)]) (.bool ((movE ((sclR ((cutR a b c d 0 0 W H).x0) ((cutR a b c d 0 0 W H).y0) ((cutR a b c d 0 0 W H).x1) ((cutR a b c d 0 0 W H).y1) s).x0) ((sclR ((cutR a b c d 0 0 W H).x0) ((cutR a b c d 0 0 W H).y0) ((cutR a b c d 0 0 W H).x1) ((cutR a b c d 0 0 W H).y1) s).y0) ((sclR ((cutR a b c d 0 0 W H).x0) ((cutR a b c d 0 0 W H).y0) ((cutR a b c d 0 0 W H).x1) ((cutR a b c d 0 0 W H).y1) s).x1) ((sclR ((cutR a b c d 0 0 W H).x0) ((cutR a b c d 0 0 W H).y0) ((cutR a b c d 0 0 W H).x1) ((cutR a b c d 0 0 W H).y1) s).y1) X Y) == 0)) fun w hT => ?_
 exact ⟨by simp [shwR, shwB, *], hT.post rfl⟩
theorem layBox (m : Nat) (W H : Int) (r n cap : Nat) (px : List Int) (X Y s al ca cb cc cd : Int) (w : World) (hI : ImgR 116 w m W H r n cap px) (hok : ImgOk W H n px) :
    Calls Tryz.prog 77 #[.agg #[pT m, iQ X, iQ Y, iQ s, iQ al, iQ ca, iQ cb, iQ cc, iQ cd]] w fun e w' => e = .returned (.agg #[iQ ((shwR W H X Y s ca cb cc cd).x0), iQ ((shwR W H X Y s ca cb cc cd).y0), iQ ((shwR W H X Y s ca cb cc cd).x1), iQ ((shwR W H X Y s ca cb cc cd).y1)]) ∧ Below w.heap.size w w' := by
 have hcap := hI.cap
 refine enter 13 [(0, .agg #[.pointer (pB m), iq X, iq Y, iq s, iq al, iq ca, iq cb, iq cc, iq cd])] [.ro m [iq W, iq H, .slice (pB r) n cap] 116, rD (pB r) r 0 n 1 (cV px)] Tryz.func77 rfl Tryz.ntmps77 rfl (by kernel_rfl) hI.tab ?_
 refine zSR 2 <| batch2 [0, 0] 2 0 (fun b1 b2 => [(1, .pointer (pB b1)), (2, .pointer (pB b2))]) (fun b1 b2 => [.cells b2 [iq 0, iq 0, iq 0, iq 0] 32 true, .cells b1 [.pointer (pB m), iq X, iq Y, iq s, iq al, iq ca, iq cb, iq cc, iq cd] 120 true, .ro m [iq W, iq H, .slice (pB r) n cap] 116, rD (pB r) r 0 n 1 (cV px)]) rfl rfl [1, 2] (fun _ _ => rfl) (fun b1 b2 => by kernel_rfl) (fun b1 b2 => by kernel_rfl) (fun b1 b2 => ?_)
 refine zDNSR 10 <| bD [1, 0, 1] 3 7 [(6, .agg #[.pointer (pB m), iq X, iq Y, iq s, iq al, iq ca, iq cb, iq cc, iq cd]), (8, .agg #[iq ca, iq cb, iq cc, iq cd])] [7] <| fG 1 <| pS 4 6 <| cP 9 (.tuple #[.agg #[iq ((shwR W H X Y s ca cb cc cd).x0), iq ((shwR W H X Y s ca cb cc cd).y0), iq ((shwR W H X Y s ca cb cc cd).x1), iq ((shwR W H X Y s ca cb cc cd).y1)], .bool (shwB W H X Y s ca cb cc cd)]) (fun w hT => layShown m W H r n cap px X Y s al ca cb cc cd ca cb cc cd w ⟨hT.ok 1 _ rfl, hT.ok 2 _ rfl, by omega⟩ hok) <| bW [0, 0, 0, 0, 0, 0] 10 0 (fun b3 => [(2, .pointer (pB b2)), (3, .pointer (pB b3))]) (fun b3 => [.cells b3 [iq ((shwR W H X Y s ca cb cc cd).x0), iq ((shwR W H X Y s ca cb cc cd).y0), iq ((shwR W H X Y s ca cb cc cd).x1), iq ((shwR W H X Y s ca cb cc cd).y1)] 32 true, .cells b2 [iq 0, iq 0, iq 0, iq 0] 32 true, .ro m [iq W, iq H, .slice (pB r) n cap] 116, rD (pB r) r 0 n 1 (cV px)]) [2, 3] fun b3 => ?_
 refine zDNSR 2 <| bZ [0, 1] 2 0 [(2, .pointer (pB b2))] [.cells b3 [iq ((shwR W H X Y s ca cb cc cd).x0), iq ((shwR W H X Y s ca cb cc cd).y0), iq ((shwR W H X Y s ca cb cc cd).x1), iq ((shwR W H X Y s ca cb cc cd).y1)] 32 true, .cells b2 [iq ((shwR W H X Y s ca cb cc cd).x0), iq ((shwR W H X Y s ca cb cc cd).y0), iq ((shwR W H X Y s ca cb cc cd).x1), iq ((shwR W H X Y s ca cb cc cd).y1)] 32 true, .ro m [iq W, iq H, .slice (pB r) n cap] 116, rD (pB r) r 0 n 1 (cV px)] <| fG 0 <| zDNr <| rA rfl 0 (.agg #[iq ((shwR W H X Y s ca cb cc cd).x0), iq ((shwR W H X Y s ca cb cc cd).y0), iq ((shwR W H X Y s ca cb cc cd).x1), iq ((shwR W H X Y s ca cb cc cd).y1)]) fun w hT => ?_
 exact ⟨rfl, hT.post rfl⟩
theorem refEmpty (a b c d : Int) (w : World) :
    Calls Tryz.prog 47 #[.agg #[iQ a, iQ b, iQ c, iQ d]] w fun e w' => e = .returned (.bool (emptyB a b c d)) ∧ Below w.heap.size w w' := by
 refine eN [(0, .agg #[iq a, iq b, iq c, iq d])] Tryz.func47 Tryz.ntmps47 rfl (Tab.start w) ?_
 refine zSR 2 <| bW [0, 0] 2 0 (fun b1 => [(1, .pointer (pB b1))]) (fun b1 => [.cells b1 [iq a, iq b, iq c, iq d] 32 true]) [1] fun b1 => ?_
 refine zDNSR 13 <| bD [0, 0, 0, 0, 0, 0] 6 7 [(8, .bool (decide (a ≥ c)))] [3, 4, 5, 6, 7] <| sD 8 rfl (fun c2_ => ?_) fun c2_ => ?_
 ·
  refine bS [0, 0, 0, 0, 0, 0, 0] 13 0 [(2, .bool true)] <| fG 0 <| zDNr <| rA rfl 0 (.bool true) fun w hT => ?_
  exact ⟨ret_bool (by simp [emptyB, *] <;> omega), hT.post rfl⟩
 refine bS [0, 0, 0, 0, 0, 0, 0] 13 0 [(2, .bool (decide (b ≥ d)))] <| fG 0 <| zDNr <| rA rfl 0 (.bool (decide (b ≥ d))) fun w hT => ?_
 exact ⟨ret_bool (by simp [emptyB, *] <;> omega), hT.post rfl⟩
theorem refGood5 (A1 : Option Addr) (g1 o1 n1 cap1 : Nat) (xs1 : List Int) (sm : Bool) (mw mh : Int) (ms : Value) (X Y s al ca cb cc cd : Int) (a b : Int) (w : World) (hT0 : Tab w w [rD (A1) g1 o1 n1 1 (cV xs1)]) (hh : GoodIn a b A1 g1 o1 n1 cap1 xs1) (hX : -9223372036854775808 ≤ X ∧ X ≤ 9223372036854775807) (hY : -9223372036854775808 ≤ Y ∧ Y ≤ 9223372036854775807) (hs : -9223372036854775808 ≤ s ∧ s ≤ 9223372036854775807) (hal : -9223372036854775808 ≤ al ∧ al ≤ 9223372036854775807) :
    Calls Tryz.prog 34 #[.agg #[.bool sm, iQ mw, iQ mh, ms, iQ X, iQ Y, iQ s, iQ al, iQ ca, iQ cb, iQ cc, iQ cd], iQ a, iQ b, .slice A1 n1 cap1] w fun e w' => ∃ r n : Nat, e = .returned (.agg #[.bool true, iQ (1 + aroundI (aroundI a 6) 16), iQ (1 + aroundI (aroundI b 6) 16), sL r n n, iQ (aroundI X 24 - 6), iQ (aroundI Y 24 - 6), iQ (1 + aroundI s 3), iQ (aroundI al 256), iQ ca, iQ cb, iQ cc, iQ cd]) ∧ (n : Int) = (1 + aroundI (aroundI a 6) 16) * (1 + aroundI (aroundI b 6) 16) ∧ Tab w w' [oE r n n 52 1 (cV (goodP n xs1 n))] := by
 obtain ⟨ha, hb, hl1, hc1, hm1, hx1, hat1⟩ := hh
 have hqa := aroundI_range a (m := 6) (by omega)
 have hqb := aroundI_range b (m := 6) (by omega)
 refine eN [(0, .agg #[.bool sm, iq mw, iq mh, ms, iq X, iq Y, iq s, iq al, iq ca, iq cb, iq cc, iq cd]), (1, iq a), (2, iq b), (3, .slice A1 n1 cap1)] Tryz.func34 Tryz.ntmps34 rfl hT0 ?_
 refine zSR 2 <| batch2 [0, 0] 2 0 (fun b1 b2 => [(1, iq a), (2, iq b), (3, .slice A1 n1 cap1), (4, .pointer (pB b1)), (8, .pointer (pB b2))]) (fun b1 b2 => [.cells b2 [.bool false, iq 0, iq 0, .slice none 0 0, iq 0, iq 0, iq 0, iq 0, iq 0, iq 0, iq 0, iq 0] 82 true, .cells b1 [.bool sm, iq mw, iq mh, ms, iq X, iq Y, iq s, iq al, iq ca, iq cb, iq cc, iq cd] 82 true, rD (A1) g1 o1 n1 1 (cV xs1)]) rfl rfl [1, 2, 3, 4, 8] (fun _ _ => rfl) (fun b1 b2 => by kernel_rfl) (fun b1 b2 => by kernel_rfl) (fun b1 b2 => ?_)
 refine zDNSR 2 <| bZ [0, 1] 2 0 [(1, iq a), (2, iq b), (3, .slice A1 n1 cap1), (4, .pointer (pB b1)), (8, .pointer (pB b2))] [.cells b2 [.bool false, iq 0, iq 0, .slice none 0 0, iq 0, iq 0, iq 0, iq 0, iq 0, iq 0, iq 0, iq 0] 82 true, .cells b1 [.bool true, iq mw, iq mh, ms, iq X, iq Y, iq s, iq al, iq ca, iq cb, iq cc, iq cd] 82 true, rD (A1) g1 o1 n1 1 (cV xs1)] <| zDNSR 8 <| bD [0] 1 7 [(10, iq a)] [] <| pS 2 6 <| cP 11 (iq (aroundI a 6)) (fun w hT => refAround a 6 w (by omega) (by omega)) ?_
 have hq3_ := aroundI_range a (m := 6) (by omega)
 refine bD [0] 3 5 [(12, iq b)] [] <| pS 4 4 <| cP 13 (iq (aroundI b 6)) (fun w hT => refAround b 6 w (by omega) (by omega)) ?_
 have hq4_ := aroundI_range b (m := 6) (by omega)
 refine bD [0] 5 3 [(14, .slice A1 n1 cap1)] [] <| pS 6 2 <| cG (d := 15) (α := Nat × Nat) (fun x_ => .agg #[iq (1 + aroundI (aroundI a 6) 16), iq (1 + aroundI (aroundI b 6) 16), .slice (pB x_.1) x_.2 x_.2]) (fun x_ => [.gen (rowE (pB x_.1) x_.1 x_.2 x_.2 52 1 (cV (goodP x_.2 xs1 x_.2)) true), .cells b2 [.bool false, iq 0, iq 0, .slice none 0 0, iq 0, iq 0, iq 0, iq 0, iq 0, iq 0, iq 0, iq 0] 82 true, .cells b1 [.bool true, iq mw, iq mh, ms, iq X, iq Y, iq s, iq al, iq ca, iq cb, iq cc, iq cd] 82 true, rD (A1) g1 o1 n1 1 (cV xs1)]) (fun x_ => (x_.2 : Int) = (1 + aroundI (aroundI a 6) 16) * (1 + aroundI (aroundI b 6) 16)) (fun w hT => (refGood4 A1 g1 o1 n1 cap1 xs1 (aroundI a 6) (aroundI b 6) w (hT.viewRo (.cons (i := 2) rfl Vw.rd .nil) rfl) ⟨by omega, by omega, hl1, hc1, hm1, hx1, hat1⟩).mono fun e w' ⟨r5, n6, he_, hf_, ht_⟩ => ⟨(r5, n6), he_, hf_, hT.news ht_ rfl⟩) ?_
 rintro ⟨r5, n6⟩ hf7_
 replace hf7_ : (n6 : Int) = (1 + aroundI (aroundI a 6) 16) * (1 + aroundI (aroundI b 6) 16) := hf7_
 refine bZ [0, 2] 8 0 [(4, .pointer (pB b1)), (8, .pointer (pB b2))] [.gen (rowE (pB r5) r5 n6 n6 52 1 (cV (goodP n6 xs1 n6)) true), .cells b2 [.bool false, iq 0, iq 0, .slice none 0 0, iq 0, iq 0, iq 0, iq 0, iq 0, iq 0, iq 0, iq 0] 82 true, .cells b1 [.bool true, iq (1 + aroundI (aroundI a 6) 16), iq (1 + aroundI (aroundI b 6) 16), .slice (pB r5) n6 n6, iq X, iq Y, iq s, iq al, iq ca, iq cb, iq cc, iq cd] 82 true, rD (A1) g1 o1 n1 1 (cV xs1)] <| zDNS <| drawn_enter 13 [2] rfl (by kernel_rfl) ?_
 refine tD 0 [2] [(0, 0), (5, 0), (1, 0), (6, 0)] 9 [6, 1, 5, 0] [(18, .pointer (some ⟨b1, 4, none⟩)), (23, .pointer (some ⟨b1, 5, none⟩))] [17, 22] <| drawn_two 2 7 8 rfl (by kernel_rfl) ?_ ?_
 ·
  refine oS 2 [(4, .pointer (pB b1)), (8, .pointer (pB b2)), (19, iq X), (23, .pointer (some ⟨b1, 5, none⟩))] [.gen (rowE (pB r5) r5 n6 n6 52 1 (cV (goodP n6 xs1 n6)) true), .cells b2 [.bool false, iq 0, iq 0, .slice none 0 0, iq 0, iq 0, iq 0, iq 0, iq 0, iq 0, iq 0, iq 0] 82 true, .cells b1 [.bool true, iq (1 + aroundI (aroundI a 6) 16), iq (1 + aroundI (aroundI b 6) 16), .slice (pB r5) n6 n6, iq X, iq Y, iq s, iq al, iq ca, iq cb, iq cc, iq cd] 82 true, rD (A1) g1 o1 n1 1 (cV xs1)] <| dX 0 [2] <| drawn_two 3 7 7 rfl (by kernel_rfl) ?_ ?_
  ·
   refine cP 20 (iq (aroundI X 24)) (fun w hT => refAround X 24 w (by omega) (by omega)) ?_
   have hq8_ := aroundI_range X (m := 24) (by omega)
   refine dX 0 [2] <| tD 0 [2] [(4, 0)] 6 [4, 3, 2, 6, 1, 5, 0] [(21, iq (IntKind.i64.wrap ((aroundI X 24) - 6)))] [] <| wI 21 ((aroundI X 24) - 6) <| dO 7 5 <| oS 2 [(4, .pointer (pB b1)), (8, .pointer (pB b2)), (21, iq ((aroundI X 24) - 6)), (24, iq Y)] [.gen (rowE (pB r5) r5 n6 n6 52 1 (cV (goodP n6 xs1 n6)) true), .cells b2 [.bool false, iq 0, iq 0, .slice none 0 0, iq 0, iq 0, iq 0, iq 0, iq 0, iq 0, iq 0, iq 0] 82 true, .cells b1 [.bool true, iq (1 + aroundI (aroundI a 6) 16), iq (1 + aroundI (aroundI b 6) 16), .slice (pB r5) n6 n6, iq X, iq Y, iq s, iq al, iq ca, iq cb, iq cc, iq cd] 82 true, rD (A1) g1 o1 n1 1 (cV xs1)] <| dX 0 [2] <| dO 8 4 <| cP 25 (iq (aroundI Y 24)) (fun w hT => refAround Y 24 w (by omega) (by omega)) ?_
   have hq9_ := aroundI_range Y (m := 24) (by omega)
   refine dX 0 [2] <| tD 0 [2] [(9, 0)] 3 [9, 8, 7, 4, 3, 2, 6, 1, 5, 0] [(26, iq (IntKind.i64.wrap ((aroundI Y 24) - 6)))] [] <| wI 26 ((aroundI Y 24) - 6) <| tD 0 [2] [(10, 0), (11, 0)] 1 [11, 10, 9, 8, 7, 4, 3, 2, 6, 1, 5, 0] [(27, .agg #[iq ((aroundI X 24) - 6), iq ((aroundI Y 24) - 6)]), (28, .pointer (some ⟨b1, 4, none⟩))] [] <| dO 12 0 <| oS 2 [(4, .pointer (pB b1)), (8, .pointer (pB b2))] [.gen (rowE (pB r5) r5 n6 n6 52 1 (cV (goodP n6 xs1 n6)) true), .cells b2 [.bool false, iq 0, iq 0, .slice none 0 0, iq 0, iq 0, iq 0, iq 0, iq 0, iq 0, iq 0, iq 0] 82 true, .cells b1 [.bool true, iq (1 + aroundI (aroundI a 6) 16), iq (1 + aroundI (aroundI b 6) 16), .slice (pB r5) n6 n6, iq ((aroundI X 24) - 6), iq ((aroundI Y 24) - 6), iq s, iq al, iq ca, iq cb, iq cc, iq cd] 82 true, rD (A1) g1 o1 n1 1 (cV xs1)] <| dX 0 [2] <| dD <| zN <| zSR 6 <| bD [0, 2] 2 4 [(30, iq s)] [29] <| pS 3 3 <| cP 31 (iq (aroundI s 3)) (fun w hT => refAround s 3 w (by omega) (by omega)) ?_
   have hq10_ := aroundI_range s (m := 3) (by omega)
   refine bD [0] 4 2 [(32, iq (IntKind.i64.wrap (1 + (aroundI s 3))))] [] <| wI 32 (1 + (aroundI s 3)) <| bZ [0, 2] 6 0 [(4, .pointer (pB b1)), (8, .pointer (pB b2))] [.gen (rowE (pB r5) r5 n6 n6 52 1 (cV (goodP n6 xs1 n6)) true), .cells b2 [.bool false, iq 0, iq 0, .slice none 0 0, iq 0, iq 0, iq 0, iq 0, iq 0, iq 0, iq 0, iq 0] 82 true, .cells b1 [.bool true, iq (1 + aroundI (aroundI a 6) 16), iq (1 + aroundI (aroundI b 6) 16), .slice (pB r5) n6 n6, iq ((aroundI X 24) - 6), iq ((aroundI Y 24) - 6), iq (1 + (aroundI s 3)), iq al, iq ca, iq cb, iq cc, iq cd] 82 true, rD (A1) g1 o1 n1 1 (cV xs1)] <| zDNSR 5 <| bD [0, 2] 2 3 [(35, iq al)] [34] <| pS 3 2 <| cP 36 (iq (aroundI al 256)) (fun w hT => refAround al 256 w (by omega) (by omega)) ?_
   have hq11_ := aroundI_range al (m := 256) (by omega)
   refine bZ [0, 2] 5 0 [(4, .pointer (pB b1)), (8, .pointer (pB b2))] [.gen (rowE (pB r5) r5 n6 n6 52 1 (cV (goodP n6 xs1 n6)) true), .cells b2 [.bool false, iq 0, iq 0, .slice none 0 0, iq 0, iq 0, iq 0, iq 0, iq 0, iq 0, iq 0, iq 0] 82 true, .cells b1 [.bool true, iq (1 + aroundI (aroundI a 6) 16), iq (1 + aroundI (aroundI b 6) 16), .slice (pB r5) n6 n6, iq ((aroundI X 24) - 6), iq ((aroundI Y 24) - 6), iq (1 + (aroundI s 3)), iq (aroundI al 256), iq ca, iq cb, iq cc, iq cd] 82 true, rD (A1) g1 o1 n1 1 (cV xs1)] <| zDNSR 2 <| bZ [2, 1] 2 0 [(8, .pointer (pB b2))] [.gen (rowE (pB r5) r5 n6 n6 52 1 (cV (goodP n6 xs1 n6)) true), .cells b2 [.bool true, iq (1 + aroundI (aroundI a 6) 16), iq (1 + aroundI (aroundI b 6) 16), .slice (pB r5) n6 n6, iq ((aroundI X 24) - 6), iq ((aroundI Y 24) - 6), iq (1 + (aroundI s 3)), iq (aroundI al 256), iq ca, iq cb, iq cc, iq cd] 82 true, .cells b1 [.bool true, iq (1 + aroundI (aroundI a 6) 16), iq (1 + aroundI (aroundI b 6) 16), .slice (pB r5) n6 n6, iq ((aroundI X 24) - 6), iq ((aroundI Y 24) - 6), iq (1 + (aroundI s 3)), iq (aroundI al 256), iq ca, iq cb, iq cc, iq cd] 82 true, rD (A1) g1 o1 n1 1 (cV xs1)] <| fG 2 <| zDNr <| rA rfl 1 (.agg #[.bool true, iq (1 + aroundI (aroundI a 6) 16), iq (1 + aroundI (aroundI b 6) 16), .slice (pB r5) n6 n6, iq ((aroundI X 24) - 6), iq ((aroundI Y 24) - 6), iq (1 + (aroundI s 3)), iq (aroundI al 256), iq ca, iq cb, iq cc, iq cd]) fun w hT => ?_
   replace hT := hT.erase 2 (fun e h hw => by cases h; first | rfl | cases hw)
   replace hT := hT.erase 1 (fun e h hw => by cases h; first | rfl | cases hw)
   exact ⟨_, _, rfl, ‹_›, hT⟩
  refine oS 2 [(4, .pointer (pB b1)), (8, .pointer (pB b2)), (19, iq X), (24, iq Y)] [.gen (rowE (pB r5) r5 n6 n6 52 1 (cV (goodP n6 xs1 n6)) true), .cells b2 [.bool false, iq 0, iq 0, .slice none 0 0, iq 0, iq 0, iq 0, iq 0, iq 0, iq 0, iq 0, iq 0] 82 true, .cells b1 [.bool true, iq (1 + aroundI (aroundI a 6) 16), iq (1 + aroundI (aroundI b 6) 16), .slice (pB r5) n6 n6, iq X, iq Y, iq s, iq al, iq ca, iq cb, iq cc, iq cd] 82 true, rD (A1) g1 o1 n1 1 (cV xs1)] <| dX 0 [2] <| dO 3 6 <| cP 20 (iq (aroundI X 24)) (fun w hT => refAround X 24 w (by omega) (by omega)) ?_
  have hq12_ := aroundI_range X (m := 24) (by omega)
  refine dX 0 [2] <| tD 0 [2] [(4, 0)] 5 [4, 3, 7, 2, 6, 1, 5, 0] [(21, iq (IntKind.i64.wrap ((aroundI X 24) - 6)))] [] <| wI 21 ((aroundI X 24) - 6) <| dO 8 4 <| cP 25 (iq (aroundI Y 24)) (fun w hT => refAround Y 24 w (by omega) (by omega)) ?_
  have hq13_ := aroundI_range Y (m := 24) (by omega)
  refine dX 0 [2] <| tD 0 [2] [(9, 0)] 3 [9, 8, 4, 3, 7, 2, 6, 1, 5, 0] [(26, iq (IntKind.i64.wrap ((aroundI Y 24) - 6)))] [] <| wI 26 ((aroundI Y 24) - 6) <| tD 0 [2] [(10, 0), (11, 0)] 1 [11, 10, 9, 8, 4, 3, 7, 2, 6, 1, 5, 0] [(27, .agg #[iq ((aroundI X 24) - 6), iq ((aroundI Y 24) - 6)]), (28, .pointer (some ⟨b1, 4, none⟩))] [] <| dO 12 0 <| oS 2 [(4, .pointer (pB b1)), (8, .pointer (pB b2))] [.gen (rowE (pB r5) r5 n6 n6 52 1 (cV (goodP n6 xs1 n6)) true), .cells b2 [.bool false, iq 0, iq 0, .slice none 0 0, iq 0, iq 0, iq 0, iq 0, iq 0, iq 0, iq 0, iq 0] 82 true, .cells b1 [.bool true, iq (1 + aroundI (aroundI a 6) 16), iq (1 + aroundI (aroundI b 6) 16), .slice (pB r5) n6 n6, iq ((aroundI X 24) - 6), iq ((aroundI Y 24) - 6), iq s, iq al, iq ca, iq cb, iq cc, iq cd] 82 true, rD (A1) g1 o1 n1 1 (cV xs1)] <| dX 0 [2] <| dD <| zN <| zSR 6 <| bD [0, 2] 2 4 [(30, iq s)] [29] <| pS 3 3 <| cP 31 (iq (aroundI s 3)) (fun w hT => refAround s 3 w (by omega) (by omega)) ?_
  have hq14_ := aroundI_range s (m := 3) (by omega)
  refine bD [0] 4 2 [(32, iq (IntKind.i64.wrap (1 + (aroundI s 3))))] [] <| wI 32 (1 + (aroundI s 3)) <| bZ [0, 2] 6 0 [(4, .pointer (pB b1)), (8, .pointer (pB b2))] [.gen (rowE (pB r5) r5 n6 n6 52 1 (cV (goodP n6 xs1 n6)) true), .cells b2 [.bool false, iq 0, iq 0, .slice none 0 0, iq 0, iq 0, iq 0, iq 0, iq 0, iq 0, iq 0, iq 0] 82 true, .cells b1 [.bool true, iq (1 + aroundI (aroundI a 6) 16), iq (1 + aroundI (aroundI b 6) 16), .slice (pB r5) n6 n6, iq ((aroundI X 24) - 6), iq ((aroundI Y 24) - 6), iq (1 + (aroundI s 3)), iq al, iq ca, iq cb, iq cc, iq cd] 82 true, rD (A1) g1 o1 n1 1 (cV xs1)] <| zDNSR 5 <| bD [0, 2] 2 3 [(35, iq al)] [34] <| pS 3 2 <| cP 36 (iq (aroundI al 256)) (fun w hT => refAround al 256 w (by omega) (by omega)) ?_
  have hq15_ := aroundI_range al (m := 256) (by omega)
  refine bZ [0, 2] 5 0 [(4, .pointer (pB b1)), (8, .pointer (pB b2))] [.gen (rowE (pB r5) r5 n6 n6 52 1 (cV (goodP n6 xs1 n6)) true), .cells b2 [.bool false, iq 0, iq 0, .slice none 0 0, iq 0, iq 0, iq 0, iq 0, iq 0, iq 0, iq 0, iq 0] 82 true, .cells b1 [.bool true, iq (1 + aroundI (aroundI a 6) 16), iq (1 + aroundI (aroundI b 6) 16), .slice (pB r5) n6 n6, iq ((aroundI X 24) - 6), iq ((aroundI Y 24) - 6), iq (1 + (aroundI s 3)), iq (aroundI al 256), iq ca, iq cb, iq cc, iq cd] 82 true, rD (A1) g1 o1 n1 1 (cV xs1)] <| zDNSR 2 <| bZ [2, 1] 2 0 [(8, .pointer (pB b2))] [.gen (rowE (pB r5) r5 n6 n6 52 1 (cV (goodP n6 xs1 n6)) true), .cells b2 [.bool true, iq (1 + aroundI (aroundI a 6) 16), iq (1 + aroundI (aroundI b 6) 16), .slice (pB r5) n6 n6, iq ((aroundI X 24) - 6), iq ((aroundI Y 24) - 6), iq (1 + (aroundI s 3)), iq (aroundI al 256), iq ca, iq cb, iq cc, iq cd] 82 true, .cells b1 [.bool true, iq (1 + aroundI (aroundI a 6) 16), iq (1 + aroundI (aroundI b 6) 16), .slice (pB r5) n6 n6, iq ((aroundI X 24) - 6), iq ((aroundI Y 24) - 6), iq (1 + (aroundI s 3)), iq (aroundI al 256), iq ca, iq cb, iq cc, iq cd] 82 true, rD (A1) g1 o1 n1 1 (cV xs1)] <| fG 2 <| zDNr <| rA rfl 1 (.agg #[.bool true, iq (1 + aroundI (aroundI a 6) 16), iq (1 + aroundI (aroundI b 6) 16), .slice (pB r5) n6 n6, iq ((aroundI X 24) - 6), iq ((aroundI Y 24) - 6), iq (1 + (aroundI s 3)), iq (aroundI al 256), iq ca, iq cb, iq cc, iq cd]) fun w hT => ?_
  replace hT := hT.erase 2 (fun e h hw => by cases h; first | rfl | cases hw)
  replace hT := hT.erase 1 (fun e h hw => by cases h; first | rfl | cases hw)
  exact ⟨_, _, rfl, ‹_›, hT⟩
 refine oS 2 [(4, .pointer (pB b1)), (8, .pointer (pB b2)), (18, .pointer (some ⟨b1, 4, none⟩)), (24, iq Y)] [.gen (rowE (pB r5) r5 n6 n6 52 1 (cV (goodP n6 xs1 n6)) true), .cells b2 [.bool false, iq 0, iq 0, .slice none 0 0, iq 0, iq 0, iq 0, iq 0, iq 0, iq 0, iq 0, iq 0] 82 true, .cells b1 [.bool true, iq (1 + aroundI (aroundI a 6) 16), iq (1 + aroundI (aroundI b 6) 16), .slice (pB r5) n6 n6, iq X, iq Y, iq s, iq al, iq ca, iq cb, iq cc, iq cd] 82 true, rD (A1) g1 o1 n1 1 (cV xs1)] <| dX 0 [2] <| dO 2 7 <| oS 2 [(4, .pointer (pB b1)), (8, .pointer (pB b2)), (19, iq X), (24, iq Y)] [.gen (rowE (pB r5) r5 n6 n6 52 1 (cV (goodP n6 xs1 n6)) true), .cells b2 [.bool false, iq 0, iq 0, .slice none 0 0, iq 0, iq 0, iq 0, iq 0, iq 0, iq 0, iq 0, iq 0] 82 true, .cells b1 [.bool true, iq (1 + aroundI (aroundI a 6) 16), iq (1 + aroundI (aroundI b 6) 16), .slice (pB r5) n6 n6, iq X, iq Y, iq s, iq al, iq ca, iq cb, iq cc, iq cd] 82 true, rD (A1) g1 o1 n1 1 (cV xs1)] <| dX 0 [2] <| dO 3 6 <| cP 20 (iq (aroundI X 24)) (fun w hT => refAround X 24 w (by omega) (by omega)) ?_
 have hq16_ := aroundI_range X (m := 24) (by omega)
 refine dX 0 [2] <| tD 0 [2] [(4, 0)] 5 [4, 3, 2, 7, 6, 1, 5, 0] [(21, iq (IntKind.i64.wrap ((aroundI X 24) - 6)))] [] <| wI 21 ((aroundI X 24) - 6) <| dO 8 4 <| cP 25 (iq (aroundI Y 24)) (fun w hT => refAround Y 24 w (by omega) (by omega)) ?_
 have hq17_ := aroundI_range Y (m := 24) (by omega)
 refine dX 0 [2] <| tD 0 [2] [(9, 0)] 3 [9, 8, 4, 3, 2, 7, 6, 1, 5, 0] [(26, iq (IntKind.i64.wrap ((aroundI Y 24) - 6)))] [] <| wI 26 ((aroundI Y 24) - 6) <| tD 0 [2] [(10, 0), (11, 0)] 1 [11, 10, 9, 8, 4, 3, 2, 7, 6, 1, 5, 0] [(27, .agg #[iq ((aroundI X 24) - 6), iq ((aroundI Y 24) - 6)]), (28, .pointer (some ⟨b1, 4, none⟩))] [] <| dO 12 0 <| oS 2 [(4, .pointer (pB b1)), (8, .pointer (pB b2))] [.gen (rowE (pB r5) r5 n6 n6 52 1 (cV (goodP n6 xs1 n6)) true), .cells b2 [.bool false, iq 0, iq 0, .slice none 0 0, iq 0, iq 0, iq 0, iq 0, iq 0, iq 0, iq 0, iq 0] 82 true, .cells b1 [.bool true, iq (1 + aroundI (aroundI a 6) 16), iq (1 + aroundI (aroundI b 6) 16), .slice (pB r5) n6 n6, iq ((aroundI X 24) - 6), iq ((aroundI Y 24) - 6), iq s, iq al, iq ca, iq cb, iq cc, iq cd] 82 true, rD (A1) g1 o1 n1 1 (cV xs1)] <| dX 0 [2] <| dD <| zN <| zSR 6 <| bD [0, 2] 2 4 [(30, iq s)] [29] <| pS 3 3 <| cP 31 (iq (aroundI s 3)) (fun w hT => refAround s 3 w (by omega) (by omega)) ?_
 have hq18_ := aroundI_range s (m := 3) (by omega)
 refine bD [0] 4 2 [(32, iq (IntKind.i64.wrap (1 + (aroundI s 3))))] [] <| wI 32 (1 + (aroundI s 3)) <| bZ [0, 2] 6 0 [(4, .pointer (pB b1)), (8, .pointer (pB b2))] [.gen (rowE (pB r5) r5 n6 n6 52 1 (cV (goodP n6 xs1 n6)) true), .cells b2 [.bool false, iq 0, iq 0, .slice none 0 0, iq 0, iq 0, iq 0, iq 0, iq 0, iq 0, iq 0, iq 0] 82 true, .cells b1 [.bool true, iq (1 + aroundI (aroundI a 6) 16), iq (1 + aroundI (aroundI b 6) 16), .slice (pB r5) n6 n6, iq ((aroundI X 24) - 6), iq ((aroundI Y 24) - 6), iq (1 + (aroundI s 3)), iq al, iq ca, iq cb, iq cc, iq cd] 82 true, rD (A1) g1 o1 n1 1 (cV xs1)] <| zDNSR 5 <| bD [0, 2] 2 3 [(35, iq al)] [34] <| pS 3 2 <| cP 36 (iq (aroundI al 256)) (fun w hT => refAround al 256 w (by omega) (by omega)) ?_
 have hq19_ := aroundI_range al (m := 256) (by omega)
 refine bZ [0, 2] 5 0 [(4, .pointer (pB b1)), (8, .pointer (pB b2))] [.gen (rowE (pB r5) r5 n6 n6 52 1 (cV (goodP n6 xs1 n6)) true), .cells b2 [.bool false, iq 0, iq 0, .slice none 0 0, iq 0, iq 0, iq 0, iq 0, iq 0, iq 0, iq 0, iq 0] 82 true, .cells b1 [.bool true, iq (1 + aroundI (aroundI a 6) 16), iq (1 + aroundI (aroundI b 6) 16), .slice (pB r5) n6 n6, iq ((aroundI X 24) - 6), iq ((aroundI Y 24) - 6), iq (1 + (aroundI s 3)), iq (aroundI al 256), iq ca, iq cb, iq cc, iq cd] 82 true, rD (A1) g1 o1 n1 1 (cV xs1)] <| zDNSR 2 <| bZ [2, 1] 2 0 [(8, .pointer (pB b2))] [.gen (rowE (pB r5) r5 n6 n6 52 1 (cV (goodP n6 xs1 n6)) true), .cells b2 [.bool true, iq (1 + aroundI (aroundI a 6) 16), iq (1 + aroundI (aroundI b 6) 16), .slice (pB r5) n6 n6, iq ((aroundI X 24) - 6), iq ((aroundI Y 24) - 6), iq (1 + (aroundI s 3)), iq (aroundI al 256), iq ca, iq cb, iq cc, iq cd] 82 true, .cells b1 [.bool true, iq (1 + aroundI (aroundI a 6) 16), iq (1 + aroundI (aroundI b 6) 16), .slice (pB r5) n6 n6, iq ((aroundI X 24) - 6), iq ((aroundI Y 24) - 6), iq (1 + (aroundI s 3)), iq (aroundI al 256), iq ca, iq cb, iq cc, iq cd] 82 true, rD (A1) g1 o1 n1 1 (cV xs1)] <| fG 2 <| zDNr <| rA rfl 1 (.agg #[.bool true, iq (1 + aroundI (aroundI a 6) 16), iq (1 + aroundI (aroundI b 6) 16), .slice (pB r5) n6 n6, iq ((aroundI X 24) - 6), iq ((aroundI Y 24) - 6), iq (1 + (aroundI s 3)), iq (aroundI al 256), iq ca, iq cb, iq cc, iq cd]) fun w hT => ?_
 replace hT := hT.erase 2 (fun e h hw => by cases h; first | rfl | cases hw)
 replace hT := hT.erase 1 (fun e h hw => by cases h; first | rfl | cases hw)
 exact ⟨_, _, rfl, ‹_›, hT⟩
end Go.Proofs.YtlfahohbkgdabaaGreat
namespace Go.Proofs.YtlfahohbkgdabaaGreat
open Go Go.RowKit
theorem floor_neg {a b : Int} (hb : 0 < b) : 0 - (b - 1 - a) / b = a / b := by
  have h1 := Int.mul_ediv_add_emod a b
  have h2 := Int.emod_nonneg a (show b ≠ 0 by omega)
  have h3 := Int.emod_lt_of_pos a hb
  have e : b - 1 - a = (b - 1 - a % b) + b * (-(a / b)) := by rw [Int.mul_neg]; omega
  rw [e, Int.add_mul_ediv_left _ _ (by omega), Int.ediv_eq_zero_of_lt (by omega) (by omega)]
  omega
theorem tdiv_floor {a b : Int} (hb : 0 < b) : (if a.tdiv b * b > a then a.tdiv b - 1 else a.tdiv b) = a / b := by
  have h1 := Int.mul_ediv_add_emod a b
  have h2 := Int.emod_nonneg a (show b ≠ 0 by omega)
  have h3 := Int.emod_lt_of_pos a hb
  have h4 : a / b * b = b * (a / b) := Int.mul_comm _ _
  rw [Int.tdiv_eq_ediv]
  split
  · rename_i h
    split
    · rename_i hc
      rw [Int.add_zero] at hc
      omega
    · omega
  · rename_i h
    have hs : b.sign = 1 := Int.sign_eq_one_of_pos hb
    rw [hs]
    have h5 : (a / b + 1) * b = a / b * b + b := by rw [Int.add_mul]; omega
    rw [if_pos (by rw [h5]; omega)]
    omega
theorem tdiv_range {a b m : Int} (hb : 0 < b) (h0 : -m ≤ a) (h1 : a ≤ m) (hm : 0 ≤ m) : -m - 1 ≤ a.tdiv b ∧ a.tdiv b ≤ m + 1 := by
  have hs : b.sign = 1 := Int.sign_eq_one_of_pos hb
  have e1 : a / b ≤ m := by
    rcases Int.le_total 0 a with h | h
    · have := Int.ediv_le_self b h; omega
    · have := (Int.ediv_lt_iff_lt_mul (a := a) (b := 1) hb).2 (by omega); omega
  have e2 : -m ≤ a / b := by
    refine (Int.le_ediv_iff_mul_le hb).2 ?_
    have := Int.mul_le_mul_of_nonneg_left (show 1 ≤ b by omega) hm
    rw [Int.neg_mul]
    omega
  rw [Int.tdiv_eq_ediv, hs]
  split <;> omega
theorem ediv_range {a b m : Int} (hb : 0 < b) (h0 : -m ≤ a) (h1 : a ≤ m) (hm : 0 ≤ m) : -m ≤ a / b ∧ a / b ≤ m := by
  refine ⟨?_, ?_⟩
  · refine (Int.le_ediv_iff_mul_le hb).2 ?_
    have := Int.mul_le_mul_of_nonneg_left (show 1 ≤ b by omega) hm
    rw [Int.neg_mul]
    omega
  · rcases Int.le_total 0 a with h | h
    · have := Int.ediv_le_self b h; omega
    · have := (Int.ediv_lt_iff_lt_mul (a := a) (b := 1) hb).2 (by omega); omega
theorem rbox_has {W H X Y s a b c d x y : Int} (hs : 1 ≤ s) : hasB (rboxR W H X Y s a b c d).x0 (rboxR W H X Y s a b c d).y0 (rboxR W H X Y s a b c d).x1 (rboxR W H X Y s a b c d).y1 x y = (hasB 0 0 W H ((x - X) / s) ((y - Y) / s) && hasB a b c d ((x - X) / s) ((y - Y) / s)) := by
  rw [Bool.eq_iff_iff, Bool.and_eq_true]
  have hcut := cutR_has a b c d 0 0 W H ((x - X) / s) ((y - Y) / s)
  have hsp : 0 < s := by omega
  have k : ∀ (p q z Z : Int), Z + p * s ≤ z ∧ z < Z + q * s ↔ p ≤ (z - Z) / s ∧ (z - Z) / s < q := fun p q z Z => by
    rw [Int.le_ediv_iff_mul_le hsp, Int.ediv_lt_iff_lt_mul hsp]
    omega
  rw [and_comm (a := hasB 0 0 W H _ _ = true), ← hcut]
  unfold rboxR
  dsimp only
  generalize cutR a b c d 0 0 W H = r
  cases hne : emptyB r.x0 r.y0 r.x1 r.y1 with
  | true =>
    have := emptyB_true.1 hne
    simp only [if_true, hasB_true]
    omega
  | false =>
    have k1 := k r.x0 r.x1 x X
    have k2 := k r.y0 r.y1 y Y
    simp only [Bool.false_eq_true, if_false, hasB_true]
    omega
def pcolB (W H X Y s a b c d : Int) (x y : Int) : Bool := hasB 0 0 W H ((x - X) / s) ((y - Y) / s) && hasB a b c d ((x - X) / s) ((y - Y) / s)
def pcolC (W H X Y s al a b c d : Int) (px : List Int) (x y : Int) : Int := if pcolB W H X Y s a b c d x y then fadeC (atC W H px ((x - X) / s) ((y - Y) / s)) al else 0
theorem tdiv_mul_range {a b : Int} (hb : 0 < b) : a - b ≤ a.tdiv b * b ∧ a.tdiv b * b ≤ a + b := by
  have h1 := Int.mul_ediv_add_emod a b
  have h2 := Int.emod_nonneg a (show b ≠ 0 by omega)
  have h3 := Int.emod_lt_of_pos a hb
  have h4 : a / b * b = b * (a / b) := Int.mul_comm _ _
  have hs : b.sign = 1 := Int.sign_eq_one_of_pos hb
  have h5 : (a / b + 1) * b = a / b * b + b := by rw [Int.add_mul]; omega
  rw [Int.tdiv_eq_ediv, hs]
  split
  · rw [Int.add_zero]; omega
  · rw [h5]; omega
theorem pcol_box {W H X Y s a b c d x y : Int} (hs : 1 ≤ s ∧ s ≤ 8) (hX : -1000000 ≤ X ∧ X ≤ 1000000) (hY : -1000000 ≤ Y ∧ Y ≤ 1000000) (hw : 1 ≤ W ∧ W ≤ 256) (hh : 1 ≤ H ∧ H ≤ 256) :
    hasB (shwR W H X Y s a b c d).x0 (shwR W H X Y s a b c d).y0 (shwR W H X Y s a b c d).x1 (shwR W H X Y s a b c d).y1 x y = pcolB W H X Y s a b c d x y := by
  rw [box_same hs hX hY hw hh]
  exact rbox_has (by omega)
theorem pcolB_in {W H X Y s a b c d x y : Int} (h : pcolB W H X Y s a b c d x y = true) : hasB 0 0 W H ((x - X) / s) ((y - Y) / s) = true := (Bool.and_eq_true_iff.1 h).1
end Go.Proofs.YtlfahohbkgdabaaGreat
namespace Go.Proofs.YtlfahohbkgdabaaGreat
open Go Go.RowKit
set_option maxRecDepth 100000
set_option maxHeartbeats 8000000
theorem payFloor (a s : Int) (w : World) (ha : -20000000 ≤ a ∧ a ≤ 20000000) (hs : 1 ≤ s ∧ s ≤ 8) :
    Calls Tryz.prog 110 #[iQ a, iQ s] w fun e w' => e = .returned (iQ (a / s)) ∧ Below w.heap.size w w' := by
 have hd := ediv_range (a := s - 1 - a) (b := s) (m := 30000000) (by omega) (by omega) (by omega) (by omega)
 have hd2 := ediv_range (a := a) (b := s) (m := 30000000) (by omega) (by omega) (by omega) (by omega)
 refine eN [(0, iq a), (1, iq s)] Tryz.func110 Tryz.ntmps110 rfl (Tab.start w) ?_
 refine zSR 1 <| bD [0] 1 0 [] [4] <| zDNSSR 2 <| bD [0, 0] 2 0 [(6, .bool (decide (a < 0)))] [5] <| zDN <| sD 6 rfl (fun c1_ => ?_) fun c1_ => ?_
 ·
  refine zTSR 8 <| bD [0, 0] 2 6 [(8, iq (IntKind.i64.wrap (s - 1)))] [7] <| wI 8 (s - 1) <| bD [0, 0] 4 4 [(10, iq (IntKind.i64.wrap ((s - 1) - a)))] [9] <| wI 10 ((s - 1) - a) <| bD [0] 5 3 [(11, iq s)] [] <| pS 6 2 <| sS 12 (bopS .quo 3 (.tmp 10) (.tmp 11) (iq ((s - 1) - a)) (iq s)) (iq (IntKind.i64.wrap (((s - 1) - a).tdiv s))) (fun w hT => run_quo (by omega) w) <| rC 12 (iq (((s - 1) - a) / s)) rfl (tdivI (by omega) (by omega) (by omega)) <| bS [0] 7 1 [(13, iq (IntKind.i64.wrap (0 - (((s - 1) - a) / s))))] <| wI 13 (0 - (((s - 1) - a) / s)) <| bS [0] 8 0 [(4, iq (0 - (((s - 1) - a) / s)))] <| zDNrt <| rA rfl 0 (iq (0 - (((s - 1) - a) / s))) fun w hT => ?_
  exact ⟨ret_int (floor_neg (by omega)), hT.post rfl⟩
 refine zFKNSR 4 <| bS [0, 0] 2 2 [(14, iq a), (15, iq s)] <| pS 3 1 <| sS 16 (bopS .quo 3 (.tmp 14) (.tmp 15) (iq a) (iq s)) (iq (IntKind.i64.wrap (a.tdiv s))) (fun w hT => run_quo (by omega) w) <| rC 16 (iq (a / s)) rfl (tdivI (by omega) (by omega) (by omega)) <| bS [0] 4 0 [(4, iq (a / s))] <| zDNr <| rA rfl 0 (iq (a / s)) fun w hT => ?_
 exact ⟨rfl, hT.post rfl⟩
theorem refFloor (a s : Int) (w : World) (ha : -20000000 ≤ a ∧ a ≤ 20000000) (hs : 1 ≤ s ∧ s ≤ 8) :
    Calls Tryz.prog 105 #[iQ a, iQ s] w fun e w' => e = .returned (iQ (a / s)) ∧ Below w.heap.size w w' := by
 have hd := tdiv_range (a := a) (b := s) (m := 30000000) (by omega) (by omega) (by omega) (by omega)
 have hd2 := tdiv_mul_range (a := a) (b := s) (by omega)
 refine eN [(0, iq a), (1, iq s)] Tryz.func105 Tryz.ntmps105 rfl (Tab.start w) ?_
 refine zSR 1 <| bD [0] 1 0 [] [4] <| zDNSR 4 <| bD [0, 0] 2 2 [(6, iq a), (7, iq s)] [] <| pS 3 1 <| sS 8 (bopS .quo 3 (.tmp 6) (.tmp 7) (iq a) (iq s)) (iq (IntKind.i64.wrap (a.tdiv s))) (fun w hT => run_quo (by omega) w) <| wI 8 (a.tdiv s) <| bD [0] 4 0 [(5, iq (a.tdiv s))] [] <| zDNSSR 5 <| bD [0, 0, 0] 3 2 [(11, iq (IntKind.i64.wrap ((a.tdiv s) * s)))] [9, 10] <| wI 11 ((a.tdiv s) * s) <| bD [0, 0] 5 0 [(13, .bool (decide (((a.tdiv s) * s) > a)))] [12] <| zDN <| sD 13 rfl (fun c1_ => ?_) fun c1_ => ?_
 ·
  refine cTr rfl <| cRg 3 rfl <| bS [0, 0] 2 1 [(15, iq (IntKind.i64.wrap ((a.tdiv s) - 1)))] <| wI 15 ((a.tdiv s) - 1) <| bS [0] 3 0 [(5, iq ((a.tdiv s) - 1))] <| zDNSR 2 <| bS [0, 0] 2 0 [(4, iq ((a.tdiv s) - 1))] <| zDNr <| rA rfl 0 (iq ((a.tdiv s) - 1)) fun w hT => ?_
  exact ⟨ret_int (by rw [← tdiv_floor (a := a) (b := s) (by omega), if_pos ‹_›]), hT.post rfl⟩
 refine zFKNSR 2 <| bS [0, 0] 2 0 [(4, iq (a.tdiv s))] <| zDNr <| rA rfl 0 (iq (a.tdiv s)) fun w hT => ?_
 exact ⟨ret_int (by rw [← tdiv_floor (a := a) (b := s) (by omega), if_neg ‹_›]), hT.post rfl⟩
theorem refShows (W H : Int) (r n cap : Nat) (px : List Int) (X Y s al ca cb cc cd : Int) (x y : Int) (w : World) (hT0 : Tab w w [rD (some ⟨r, 0, none⟩) r 0 n 1 (cV px)]) (hok : ImgOk W H n px) (hs : 1 ≤ s ∧ s ≤ 8) (hX : -1000000 ≤ X ∧ X ≤ 1000000) (hY : -1000000 ≤ Y ∧ Y ≤ 1000000) (hx : -2000000 ≤ x ∧ x ≤ 2000000) (hy : -2000000 ≤ y ∧ y ≤ 2000000) :
    Calls Tryz.prog 80 #[.agg #[.bool true, iQ W, iQ H, sL r n cap, iQ X, iQ Y, iQ s, iQ al, iQ ca, iQ cb, iQ cc, iQ cd], iQ x, iQ y] w fun e w' => e = .returned (.tuple #[iQ ((x - X) / s), iQ ((y - Y) / s), .bool (pcolB W H X Y s ca cb cc cd x y)]) ∧ Below w.heap.size w w' := by
 have hw1 := hok.w1
 have hw2 := hok.w2
 have hh1 := hok.h1
 have hh2 := hok.h2
 have hdx := ediv_range (a := x - X) (b := s) (m := 4000000) (by omega) (by omega) (by omega) (by omega)
 have hdy := ediv_range (a := y - Y) (b := s) (m := 4000000) (by omega) (by omega) (by omega) (by omega)
 have hac := hok.atC_range ((x - X) / s) ((y - Y) / s)
 refine eN [(0, .agg #[.bool true, iq W, iq H, .slice (pB r) n cap, iq X, iq Y, iq s, iq al, iq ca, iq cb, iq cc, iq cd]), (1, iq x), (2, iq y)] Tryz.func80 Tryz.ntmps80 rfl hT0 ?_
 refine zSR 4 <| bW [0, 0, 0, 0] 4 0 (fun b1 => [(1, iq x), (2, iq y), (3, .pointer (pB b1))]) (fun b1 => [.cells b1 [.bool true, iq W, iq H, .slice (pB r) n cap, iq X, iq Y, iq s, iq al, iq ca, iq cb, iq cc, iq cd] 82 true, rD (pB r) r 0 n 1 (cV px)]) [1, 2, 3] fun b1 => ?_
 refine zDNSR 9 <| bD [0, 0, 0, 0, 0] 5 4 [(17, iq (IntKind.i64.wrap (x - X)))] [13, 14, 15, 16] <| wI 17 (x - X) <| bD [0, 0] 7 2 [(19, iq s)] [18] <| pS 8 1 <| cP 20 (iq ((x - X) / s)) (fun w hT => refFloor (x - X) s w (by omega) (by omega)) <| bD [0] 9 0 [(9, iq ((x - X) / s))] [] <| zDNSR 9 <| bD [0, 0, 0, 0, 0] 5 4 [(25, iq (IntKind.i64.wrap (y - Y)))] [21, 22, 23, 24] <| wI 25 (y - Y) <| bD [0, 0] 7 2 [(27, iq s)] [26] <| pS 8 1 <| cP 28 (iq ((y - Y) / s)) (fun w hT => refFloor (y - Y) s w (by omega) (by omega)) <| bD [0] 9 0 [(10, iq ((y - Y) / s))] [] <| zDNSR 10 <| bD [0, 0, 0, 0] 4 6 [(31, .agg #[iq W, iq H, .slice (pB r) n cap]), (32, iq ((x - X) / s)), (33, iq ((y - Y) / s))] [30] <| pS 5 5 <| cP 34 (.tuple #[cQ (atC W H px ((x - X) / s) ((y - Y) / s)), .bool (hasB 0 0 W H ((x - X) / s) ((y - Y) / s))]) (fun w hT => refAt W H r n cap px ((x - X) / s) ((y - Y) / s) w (hT.viewRo (.cons (i := 1) rfl Vw.rd .nil) rfl) hok) <| bD [0, 0, 0, 0, 0] 10 0 [(12, .bool (hasB 0 0 W H ((x - X) / s) ((y - Y) / s)))] [11, 29, 35, 36] <| zDNSR 13 <| bD [0, 0, 0, 0] 4 9 [(37, iq ((x - X) / s)), (38, iq ((y - Y) / s)), (40, .bool (hasB 0 0 W H ((x - X) / s) ((y - Y) / s)))] [39] <| cSp 40 _ rfl (fun c2_ => ?_) fun c2_ => ?_
 ·
  refine bD [0, 0, 0, 0] 8 5 [(42, .agg #[iq ca, iq cb, iq cc, iq cd]), (43, iq ((x - X) / s)), (44, iq ((y - Y) / s))] [41] <| fG 0 <| pS 9 4 <| cP 45 (.bool (hasB ca cb cc cd ((x - X) / s) ((y - Y) / s))) (fun w hT => refHas ca cb cc cd ((x - X) / s) ((y - Y) / s) w) <| bS [0, 0, 0, 0] 13 0 [(6, iq ((x - X) / s)), (7, iq ((y - Y) / s)), (8, .bool (hasB ca cb cc cd ((x - X) / s) ((y - Y) / s)))] <| zDNr <| ret_three (.inl rfl) rfl 0 0 0 (iq ((x - X) / s)) (iq ((y - Y) / s)) (.bool (hasB ca cb cc cd ((x - X) / s) ((y - Y) / s))) (by kernel_rfl) (by kernel_rfl) (by kernel_rfl) (by kernel_rfl) (by kernel_rfl) (by kernel_rfl) (fun w hT => ?_)
  exact ⟨by simp [pcolB, *], hT.post rfl⟩
 refine bS [0, 0, 0, 0, 0, 0, 0, 0, 0] 13 0 [(6, iq ((x - X) / s)), (7, iq ((y - Y) / s)), (8, .bool false)] <| fG 0 <| zDNr <| ret_three (.inl rfl) rfl 0 0 0 (iq ((x - X) / s)) (iq ((y - Y) / s)) (.bool false) (by kernel_rfl) (by kernel_rfl) (by kernel_rfl) (by kernel_rfl) (by kernel_rfl) (by kernel_rfl) (fun w hT => ?_)
 exact ⟨by simp [pcolB, *], hT.post rfl⟩
theorem refColor5 (W H : Int) (r n cap : Nat) (px : List Int) (X Y s al ca cb cc cd : Int) (x y : Int) (w : World) (hT0 : Tab w w [rD (some ⟨r, 0, none⟩) r 0 n 1 (cV px)]) (hok : ImgOk W H n px) (hs : 1 ≤ s ∧ s ≤ 8) (hX : -1000000 ≤ X ∧ X ≤ 1000000) (hY : -1000000 ≤ Y ∧ Y ≤ 1000000) (hx : -2000000 ≤ x ∧ x ≤ 2000000) (hy : -2000000 ≤ y ∧ y ≤ 2000000) :
    Calls Tryz.prog 52 #[.agg #[.bool true, iQ W, iQ H, sL r n cap, iQ X, iQ Y, iQ s, iQ al, iQ ca, iQ cb, iQ cc, iQ cd], iQ x, iQ y] w fun e w' => e = .returned (.tuple #[cQ (pcolC W H X Y s al ca cb cc cd px x y), .bool (pcolB W H X Y s ca cb cc cd x y)]) ∧ Below w.heap.size w w' := by
 have hw1 := hok.w1
 have hw2 := hok.w2
 have hh1 := hok.h1
 have hh2 := hok.h2
 have hdx := ediv_range (a := x - X) (b := s) (m := 4000000) (by omega) (by omega) (by omega) (by omega)
 have hdy := ediv_range (a := y - Y) (b := s) (m := 4000000) (by omega) (by omega) (by omega) (by omega)
 have hac := hok.atC_range ((x - X) / s) ((y - Y) / s)
 refine eN [(0, .agg #[.bool true, iq W, iq H, .slice (pB r) n cap, iq X, iq Y, iq s, iq al, iq ca, iq cb, iq cc, iq cd]), (1, iq x), (2, iq y)] Tryz.func52 Tryz.ntmps52 rfl hT0 ?_
 refine zSR 3 <| bW [0, 0, 0] 3 0 (fun b1 => [(1, iq x), (2, iq y), (3, .pointer (pB b1))]) (fun b1 => [.cells b1 [.bool true, iq W, iq H, .slice (pB r) n cap, iq X, iq Y, iq s, iq al, iq ca, iq cb, iq cc, iq cd] 82 true, rD (pB r) r 0 n 1 (cV px)]) [1, 2, 3] fun b1 => ?_
 refine zDNSR 11 <| bD [0, 0, 0] 3 8 [(14, .agg #[.bool true, iq W, iq H, .slice (pB r) n cap, iq X, iq Y, iq s, iq al, iq ca, iq cb, iq cc, iq cd]), (15, iq x), (16, iq y)] [] <| pS 4 7 <| cP 17 (.tuple #[iq ((x - X) / s), iq ((y - Y) / s), .bool (pcolB W H X Y s ca cb cc cd x y)]) (fun w hT => refShows W H r n cap px X Y s al ca cb cc cd x y w (hT.viewRo (.cons (i := 1) rfl Vw.rd .nil) rfl) hok (by omega) (by omega) (by omega) (by omega) (by omega)) <| bD [0, 0, 0, 0, 0, 0, 0] 11 0 [(8, iq ((x - X) / s)), (9, iq ((y - Y) / s)), (10, .bool (pcolB W H X Y s ca cb cc cd x y))] [13, 18, 19, 20] <| zDNSSR 2 <| bD [0, 0] 2 0 [(22, .bool (!(pcolB W H X Y s ca cb cc cd x y)))] [21] <| zDN <| cSp 22 _ rfl (fun c2_ => ?_) fun c2_ => ?_
 ·
  replace c2_ : (pcolB W H X Y s ca cb cc cd x y) = false := by simpa using c2_
  refine zTSR 2 <| bS [0, 0] 2 0 [(6, cQ 0), (7, .bool false)] <| fG 0 <| zDNrt <| rB rfl 0 0 (cQ 0) (.bool false) fun w hT => ?_
  exact ⟨by simp [pcolC, *], hT.post rfl⟩
 replace c2_ : (pcolB W H X Y s ca cb cc cd x y) = true := by simpa using c2_
 refine zFKNSR 10 <| bD [0, 0, 0, 0] 4 6 [(25, .agg #[iq W, iq H, .slice (pB r) n cap]), (26, iq ((x - X) / s)), (27, iq ((y - Y) / s))] [24] <| pS 5 5 <| cP 28 (.tuple #[cQ (atC W H px ((x - X) / s) ((y - Y) / s)), .bool (hasB 0 0 W H ((x - X) / s) ((y - Y) / s))]) (fun w hT => refAt W H r n cap px ((x - X) / s) ((y - Y) / s) w (hT.viewRo (.cons (i := 1) rfl Vw.rd .nil) rfl) hok) <| bD [0, 0, 0, 0, 0] 10 0 [(11, cQ (atC W H px ((x - X) / s) ((y - Y) / s)))] [12, 23, 29, 30] <| zDNSR 6 <| bS [0, 0, 0] 3 3 [(31, cQ (atC W H px ((x - X) / s) ((y - Y) / s))), (33, iq al)] <| fG 0 <| pS 4 2 <| cP 34 (cQ (fadeC (atC W H px ((x - X) / s) ((y - Y) / s)) al)) (fun w hT => refFade (atC W H px ((x - X) / s) ((y - Y) / s)) al w (by omega) (by omega)) <| bS [0, 0] 6 0 [(6, cQ (fadeC (atC W H px ((x - X) / s) ((y - Y) / s)) al)), (7, .bool true)] <| zDNr <| rB rfl 0 0 (cQ (fadeC (atC W H px ((x - X) / s) ((y - Y) / s)) al)) (.bool true) fun w hT => ?_
 exact ⟨by simp [pcolC, *], hT.post rfl⟩
theorem layColor (m : Nat) (W H : Int) (r n cap : Nat) (px : List Int) (X Y s al ca cb cc cd : Int) (x y : Int) (w : World) (hI : ImgR 116 w m W H r n cap px) (hok : ImgOk W H n px) (hs : 1 ≤ s ∧ s ≤ 8) (hX : -1000000 ≤ X ∧ X ≤ 1000000) (hY : -1000000 ≤ Y ∧ Y ≤ 1000000) (hx : -2000000 ≤ x ∧ x ≤ 2000000) (hy : -2000000 ≤ y ∧ y ≤ 2000000) :
    Calls Tryz.prog 89 #[.agg #[pT m, iQ X, iQ Y, iQ s, iQ al, iQ ca, iQ cb, iQ cc, iQ cd], iQ x, iQ y] w fun e w' => e = .returned (.tuple #[cQ (pcolC W H X Y s al ca cb cc cd px x y), .bool (pcolB W H X Y s ca cb cc cd x y)]) ∧ Below w.heap.size w w' := by
 have hcap := hI.cap
 have hw1 := hok.w1
 have hw2 := hok.w2
 have hh1 := hok.h1
 have hh2 := hok.h2
 have hdx := ediv_range (a := x - X) (b := s) (m := 4000000) (by omega) (by omega) (by omega) (by omega)
 have hdy := ediv_range (a := y - Y) (b := s) (m := 4000000) (by omega) (by omega) (by omega) (by omega)
 have hac := hok.atC_range ((x - X) / s) ((y - Y) / s)
 refine enter 43 [(0, .agg #[.pointer (pB m), iq X, iq Y, iq s, iq al, iq ca, iq cb, iq cc, iq cd]), (1, iq x), (2, iq y)] [.ro m [iq W, iq H, .slice (pB r) n cap] 116, rD (pB r) r 0 n 1 (cV px)] Tryz.func89 rfl Tryz.ntmps89 rfl (by kernel_rfl) hI.tab ?_
 refine zSR 3 <| bW [0, 0, 0] 3 0 (fun b1 => [(1, iq x), (2, iq y), (3, .pointer (pB b1))]) (fun b1 => [.cells b1 [.pointer (pB m), iq X, iq Y, iq s, iq al, iq ca, iq cb, iq cc, iq cd] 120 true, .ro m [iq W, iq H, .slice (pB r) n cap] 116, rD (pB r) r 0 n 1 (cV px)]) [1, 2, 3] fun b1 => ?_
 refine zDNSSR 6 <| bD [0] 1 5 [(10, .agg #[.pointer (pB m), iq X, iq Y, iq s, iq al, iq ca, iq cb, iq cc, iq cd])] [] <| pS 2 4 <| cP 11 (.agg #[iq ((shwR W H X Y s ca cb cc cd).x0), iq ((shwR W H X Y s ca cb cc cd).y0), iq ((shwR W H X Y s ca cb cc cd).x1), iq ((shwR W H X Y s ca cb cc cd).y1)]) (fun w hT => layBox m W H r n cap px X Y s al ca cb cc cd w ⟨hT.ok 1 _ rfl, hT.ok 2 _ rfl, by omega⟩ hok) <| bD [0, 0] 4 2 [(12, iq x), (13, iq y)] [] <| pS 5 1 <| cP 14 (.bool (hasB ((shwR W H X Y s ca cb cc cd).x0) ((shwR W H X Y s ca cb cc cd).y0) ((shwR W H X Y s ca cb cc cd).x1) ((shwR W H X Y s ca cb cc cd).y1) x y)) (fun w hT => rectHas ((shwR W H X Y s ca cb cc cd).x0) ((shwR W H X Y s ca cb cc cd).y0) ((shwR W H X Y s ca cb cc cd).x1) ((shwR W H X Y s ca cb cc cd).y1) x y w) <| rC 14 (.bool (pcolB W H X Y s ca cb cc cd x y)) rfl (congrArg (Value.bool) (pcol_box hs hX hY ⟨hw1, hw2⟩ ⟨hh1, hh2⟩)) <| bD [0] 6 0 [(15, .bool (!(pcolB W H X Y s ca cb cc cd x y)))] [] <| zDN <| cSp 15 _ rfl (fun c2_ => ?_) fun c2_ => ?_
 ·
  replace c2_ : (pcolB W H X Y s ca cb cc cd x y) = false := by simpa using c2_
  refine zTSR 2 <| bS [0, 0] 2 0 [(6, cQ 0), (7, .bool false)] <| fG 0 <| zDNrt <| rB rfl 0 0 (cQ 0) (.bool false) fun w hT => ?_
  exact ⟨by simp [pcolC, *], hT.post rfl⟩
 replace c2_ : (pcolB W H X Y s ca cb cc cd x y) = true := by simpa using c2_
 refine cFa rfl <| cont_skip <| zN <| cSq <| drawn_enter 24 [] rfl (by kernel_rfl) ?_
 refine tD 0 [] [(0, 0), (2, 0), (3, 0), (7, 0), (10, 0), (11, 0), (15, 0), (1, 0), (4, 0), (8, 0), (12, 0), (16, 0), (5, 0), (13, 0), (6, 0)] 9 [6, 13, 5, 16, 12, 8, 4, 1, 15, 11, 10, 7, 3, 2, 0] [(18, .pointer (pB m)), (23, iq (IntKind.i64.wrap (x - X))), (25, iq s), (27, iq y), (30, iq Y), (33, iq s)] [17, 19, 20, 21, 22, 24, 28, 29, 32] <| wI 23 (x - X) <| tD 0 [] [(14, 0)] 8 [14, 6, 13, 5, 16, 12, 8, 4, 1, 15, 11, 10, 7, 3, 2, 0] [(31, iq (IntKind.i64.wrap (y - Y)))] [] <| wI 31 (y - Y) <| dO 9 7 <| cP 26 (iq ((x - X) / s)) (fun w hT => payFloor (x - X) s w (by omega) (by omega)) <| dX 0 [] <| dO 17 6 <| cP 34 (iq ((y - Y) / s)) (fun w hT => payFloor (y - Y) s w (by omega) (by omega)) <| dX 0 [] <| dO 18 5 <| cP 35 (.tuple #[cQ (atC W H px ((x - X) / s) ((y - Y) / s)), .bool (hasB 0 0 W H ((x - X) / s) ((y - Y) / s))]) (fun w hT => imgAt m W H r n cap px ((x - X) / s) ((y - Y) / s) w ⟨hT.ok 1 _ rfl, hT.ok 2 _ rfl, by omega⟩ hok) <| dX 0 [] <| tD 0 [] [(19, 0), (20, 0), (21, 0), (22, 0), (23, 0)] 0 [23, 22, 21, 20, 19, 18, 17, 9, 14, 6, 13, 5, 16, 12, 8, 4, 1, 15, 11, 10, 7, 3, 2, 0] [(8, cQ (atC W H px ((x - X) / s) ((y - Y) / s))), (9, .bool (hasB 0 0 W H ((x - X) / s) ((y - Y) / s)))] [16, 36, 37] <| dD <| zN <| zSR 7 <| bD [0, 0, 0] 3 4 [(38, cQ (atC W H px ((x - X) / s) ((y - Y) / s))), (40, iq al)] [39] <| fG 0 <| pS 4 3 <| cP 41 (cQ (fadeC (atC W H px ((x - X) / s) ((y - Y) / s)) al)) (fun w hT => colFade (atC W H px ((x - X) / s) ((y - Y) / s)) al w (by omega) (by omega)) <| bS [0, 0, 0] 7 0 [(6, cQ (fadeC (atC W H px ((x - X) / s) ((y - Y) / s)) al)), (7, .bool (hasB 0 0 W H ((x - X) / s) ((y - Y) / s)))] <| zDNr <| rB rfl 0 0 (cQ (fadeC (atC W H px ((x - X) / s) ((y - Y) / s)) al)) (.bool (hasB 0 0 W H ((x - X) / s) ((y - Y) / s))) fun w hT => ?_
 exact ⟨by rw [pcolB_in ‹_›]; simp [pcolC, *], hT.post rfl⟩
end Go.Proofs.YtlfahohbkgdabaaGreat
namespace Go.Proofs
open Go.Shelf
def Tryz.lays189_ren : Go.Shelf.Ren := ⟨fun | 189 => 115 | 125 => 128 | 257 => 127 | 128 => 143 | 129 => 144 | 294 => 134 | 295 => 135 | 296 => 136 | 297 => 137 | 298 => 138 | 299 => 139 | 216 => 140 | 300 => 141 | 301 => 142 | 328 => 145 | 329 => 146 | 330 => 147 | 331 => 148 | 332 => 149 | 215 => 150 | 343 => 151 | n => n, fun | 28 => 72 | 3 => 3 | 46 => 177 | 0 => 0 | 51 => 51 | 53 => 190 | 4 => 4 | 183 => 182 | 182 => 181 | 131 => 186 | 5 => 5 | 9 => 9 | 218 => 191 | 222 => 195 | 228 => 198 | 229 => 165 | n => n, fun | n => n⟩
theorem Tryz.lays189 : Go.Proofs.Lays.n189 Tryz.prog Tryz.lays189_ren := {
  mixed := by kernel_rfl
  f125 := Tryz.func128.trans (congrArg some (by kernel_rfl))
  f128 := Tryz.func143.trans (congrArg some (by kernel_rfl))
  f129 := Tryz.func144.trans (congrArg some (by kernel_rfl))
  f189 := Tryz.func115.trans (congrArg some (by kernel_rfl))
  f215 := Tryz.func150.trans (congrArg some (by kernel_rfl))
  f216 := Tryz.func140.trans (congrArg some (by kernel_rfl))
  f257 := Tryz.func127.trans (congrArg some (by kernel_rfl))
  f294 := Tryz.func134.trans (congrArg some (by kernel_rfl))
  f295 := Tryz.func135.trans (congrArg some (by kernel_rfl))
  f296 := Tryz.func136.trans (congrArg some (by kernel_rfl))
  f297 := Tryz.func137.trans (congrArg some (by kernel_rfl))
  f298 := Tryz.func138.trans (congrArg some (by kernel_rfl))
  f299 := Tryz.func139.trans (congrArg some (by kernel_rfl))
  f300 := Tryz.func141.trans (congrArg some (by kernel_rfl))
  f301 := Tryz.func142.trans (congrArg some (by kernel_rfl))
  f328 := Tryz.func145.trans (congrArg some (by kernel_rfl))
  f329 := Tryz.func146.trans (congrArg some (by kernel_rfl))
  f330 := Tryz.func147.trans (congrArg some (by kernel_rfl))
  f331 := Tryz.func148.trans (congrArg some (by kernel_rfl))
  f332 := Tryz.func149.trans (congrArg some (by kernel_rfl))
  f343 := Tryz.func151.trans (congrArg some (by kernel_rfl))
  t0 := Tryz.underlying0
  a0 := Tryz.isAgg0
  z0 := Tryz.sizeOf0
  v0 := Tryz.zeroValue0
  t3 := Tryz.underlying3
  a3 := Tryz.isAgg3
  z3 := Tryz.sizeOf3
  v3 := Tryz.zeroValue3
  t4 := Tryz.underlying4
  a4 := Tryz.isAgg4
  z4 := Tryz.sizeOf4
  v4 := Tryz.zeroValue4
  t5 := Tryz.underlying5
  a5 := Tryz.isAgg5
  z5 := Tryz.sizeOf5
  v5 := Tryz.zeroValue5
  t9 := Tryz.underlying9
  a9 := Tryz.isAgg9
  z9 := Tryz.sizeOf9
  v9 := Tryz.zeroValue9
  t28 := Tryz.underlying72
  a28 := Tryz.isAgg72
  z28 := Tryz.sizeOf72
  v28 := Tryz.zeroValue72
  t46 := Tryz.underlying177
  a46 := Tryz.isAgg177
  z46 := Tryz.sizeOf177
  v46 := Tryz.zeroValue177
  t51 := Tryz.underlying51
  a51 := Tryz.isAgg51
  z51 := Tryz.sizeOf51
  v51 := Tryz.zeroValue51
  t53 := Tryz.underlying190
  a53 := Tryz.isAgg190
  z53 := Tryz.sizeOf190
  v53 := Tryz.zeroValue190
  t131 := Tryz.underlying186
  a131 := Tryz.isAgg186
  z131 := Tryz.sizeOf186
  v131 := Tryz.zeroValue186
  t182 := Tryz.underlying181
  a182 := Tryz.isAgg181
  z182 := Tryz.sizeOf181
  v182 := Tryz.zeroValue181
  t183 := Tryz.underlying182
  a183 := Tryz.isAgg182
  z183 := Tryz.sizeOf182
  v183 := Tryz.zeroValue182
  t218 := Tryz.underlying191
  a218 := Tryz.isAgg191
  z218 := Tryz.sizeOf191
  v218 := Tryz.zeroValue191
  t222 := Tryz.underlying195
  a222 := Tryz.isAgg195
  z222 := Tryz.sizeOf195
  v222 := Tryz.zeroValue195
  t228 := Tryz.underlying198
  a228 := Tryz.isAgg198
  z228 := Tryz.sizeOf198
  v228 := Tryz.zeroValue198
  t229 := Tryz.underlying165
  a229 := Tryz.isAgg165
  z229 := Tryz.sizeOf165
  v229 := Tryz.zeroValue165 }
open Go.Sort Go.RowKit in
theorem Tryz.slices_Sort_int (blk off cap : Nat) (zs : List Int) (w : World) (hH : Holds (Value.int .i64) w blk off zs.toArray) (hblk : blk < w.heap.size) (hsz : zs.length < 4611686018427387904) :
    Calls Tryz.prog 115 #[.slice (some ⟨blk, off, none⟩) zs.length cap] w fun e w' =>
      e = .returned (.tuple #[]) ∧ ∃ n os, w' = grow (putRow (Value.int .i64) (Sort.ahead w n) blk off (zs.mergeSort fun x y => decide (x ≤ y)).toArray) os := Any.slices_Sort_int Tryz.lays189 blk off cap zs w hH hblk hsz
def Tryz.laysNm220_ren : Go.Shelf.Ren := ⟨fun | 20 => 116 | n => n, fun | 22 => 72 | 3 => 3 | 4 => 4 | 0 => 0 | n => n, fun | n => n⟩
theorem Tryz.laysNm220 : Go.Proofs.Lays2.n20 Tryz.prog Tryz.laysNm220_ren := {
  mixed := by kernel_rfl
  f20 := Tryz.func116.trans (congrArg some (by kernel_rfl))
  t0 := Tryz.underlying0
  a0 := Tryz.isAgg0
  z0 := Tryz.sizeOf0
  v0 := Tryz.zeroValue0
  t3 := Tryz.underlying3
  a3 := Tryz.isAgg3
  z3 := Tryz.sizeOf3
  v3 := Tryz.zeroValue3
  t4 := Tryz.underlying4
  a4 := Tryz.isAgg4
  z4 := Tryz.sizeOf4
  v4 := Tryz.zeroValue4
  t22 := Tryz.underlying72
  a22 := Tryz.isAgg72
  z22 := Tryz.sizeOf72
  v22 := Tryz.zeroValue72
  i3 := by kernel_rfl }
open Go.RowKit Go.Lib Go.Sort in
theorem Tryz.slices_Compact_int (blk off cap : Nat) (zs : List Int) (w : World) (hH : Holds (Value.int .i64) w blk off zs.toArray) (hsz : zs.length ≤ 9223372036854775807) (hcap : zs.length ≤ cap) :
    Calls Tryz.prog 116 #[.slice (some ⟨blk, off, none⟩) zs.length cap] w fun e w' => e = .returned (.slice (some ⟨blk, off, none⟩) (Lib.compact zs).length cap) ∧ ∃ q, w' = putRow (Value.int .i64) (Sort.ahead w q) blk off (Lib.compact zs ++ List.replicate (zs.length - (Lib.compact zs).length) 0).toArray := Any.slices_Compact_int Tryz.laysNm220 blk off cap zs w hH hsz hcap
open Go.RowKit Go.Lib Go.Sort in
theorem Tryz.slices_Compact_int_empty (a : Option Addr) (cap : Nat) (w : World) :
    Calls Tryz.prog 116 #[.slice a 0 cap] w fun e w' => e = .returned (.slice a 0 cap) ∧ w' = w := Any.slices_Compact_int_empty Tryz.laysNm220 a cap w
open Go.RowKit Go.Sort in
theorem Tryz.slices_Sort_int_none (p : Option Addr) (cap : Nat) (w : World) :
    Calls Tryz.prog 115 #[.slice p 0 cap] w fun e w' => e = .returned (.tuple #[]) ∧ w' = w := Any.slices_Sort_int_none Tryz.lays189 p cap w
end Go.Proofs
namespace Go.Proofs.YtlfahohbkgdabaaGreat
open Go Go.RowKit
section
variable {β : Type}
abbrev Run (β : Type) := Int × Int × β
def RunsOk : List (Run β) → Prop
  | [] => True
  | r :: t => r.1 < r.2.1 ∧ (match t with | [] => True | s :: _ => s.2.1 ≤ r.1 ∧ (s.2.1 = r.1 → s.2.2 ≠ r.2.2)) ∧ RunsOk t
def look : List (Run β) → Int → Option β
  | [], _ => none
  | r :: t, p => if r.1 ≤ p ∧ p < r.2.1 then some r.2.2 else look t p
theorem RunsOk.tail {r : Run β} {t : List (Run β)} (h : RunsOk (r :: t)) : RunsOk t := h.2.2
theorem RunsOk.below {r : Run β} {t : List (Run β)} (h : RunsOk (r :: t)) : ∀ s ∈ t, s.2.1 ≤ r.1 := by
  induction t generalizing r with
  | nil => intro s hs; cases hs
  | cons q t ih =>
    intro s hs
    obtain ⟨_, ⟨h1, _⟩, h2⟩ := h
    rcases List.mem_cons.1 hs with rfl | hs
    · exact h1
    · have := ih h2 s hs
      have := h2.1
      omega
theorem look_above {t : List (Run β)} {p q : Int} (h : ∀ s ∈ t, s.2.1 ≤ q) (hp : q ≤ p) : look t p = none := by
  induction t with
  | nil => rfl
  | cons r t ih =>
    have := h r (by simp)
    rw [look, if_neg (by omega)]
    exact ih (fun s hs => h s (by simp [hs]))
theorem runs_unique : ∀ {l l' : List (Run β)}, RunsOk l → RunsOk l' → (∀ p, look l p = look l' p) → l = l' := by
  intro l
  induction l with
  | nil =>
    intro l' _ h' he
    cases l' with
    | nil => rfl
    | cons r t =>
      have := he r.1
      have h1 := h'.1
      rw [look, look, if_pos (by omega)] at this
      cases this
  | cons r t ih =>
    intro l' h h' he
    cases l' with
    | nil =>
      have := he r.1
      have h1 := h.1
      rw [look, look, if_pos (by omega)] at this
      cases this
    | cons s u =>
      have h1 := h.1
      have h1' := h'.1
      have hb := h.below
      have hb' := h'.below
      have ehi : r.2.1 = s.2.1 := by
        rcases Int.lt_trichotomy r.2.1 s.2.1 with hlt | heq | hgt
        · have e := he (s.2.1 - 1)
          rw [look_above (q := r.2.1) (t := r :: t) (fun q hq => by rcases List.mem_cons.1 hq with rfl | hq; omega; have := hb q hq; omega) (by omega), look, if_pos (by omega)] at e
          cases e
        · exact heq
        · have e := he (r.2.1 - 1)
          rw [look_above (q := s.2.1) (t := s :: u) (fun q hq => by rcases List.mem_cons.1 hq with rfl | hq; omega; have := hb' q hq; omega) (by omega), look, if_pos (by omega)] at e
          cases e
      have ev : r.2.2 = s.2.2 := by
        have e := he (r.2.1 - 1)
        rw [look, look, if_pos (by omega), if_pos (by omega)] at e
        exact Option.some.inj e
      have key : ∀ {a b : Run β} {x y : List (Run β)}, RunsOk (a :: x) → RunsOk (b :: y) → a.2.1 = b.2.1 → a.2.2 = b.2.2 → (∀ p, look (a :: x) p = look (b :: y) p) → ¬ a.1 < b.1 := by
        intro a b x y ha hb eh ev he hlt
        have e := he (b.1 - 1)
        have hb1 := hb.1
        rw [look, if_pos (by omega), look, if_neg (by omega)] at e
        cases y with
        | nil => cases e
        | cons c y =>
          obtain ⟨_, ⟨g1, g2⟩, g3⟩ := hb
          have g4 := RunsOk.below g3
          by_cases hc : c.2.1 = b.1
          · have g5 := g3.1
            rw [look, if_pos (by omega)] at e
            exact g2 hc ((Option.some.inj e).symm.trans ev)
          · rw [look_above (q := c.2.1) (fun q hq => by rcases List.mem_cons.1 hq with rfl | hq; omega; have := g4 q hq; have := g3.1; omega) (by omega)] at e
            cases e
      have elo : r.1 = s.1 := by
        have k1 := key h h' ehi ev he
        have k2 := key h' h ehi.symm ev.symm (fun p => (he p).symm)
        omega
      have er : r = s := by
        obtain ⟨a, b, c⟩ := r
        obtain ⟨a', b', c'⟩ := s
        simp only at elo ehi ev
        rw [elo, ehi, ev]
      subst er
      congr 1
      refine ih h.tail h'.tail (fun p => ?_)
      by_cases hp : r.1 ≤ p
      · rw [look_above hb hp, look_above hb' hp]
      · have e := he p
        rw [look, look, if_neg (by omega), if_neg (by omega)] at e
        exact e
end
abbrev Spans := List (Run Unit)
def spR (y y' : Int) (s : Run Unit) : Rect := ⟨s.1, y, s.2.1, y'⟩
def bandR (y y' : Int) (sp : Spans) : List Rect := (sp.map (spR y y')).reverse
def rget (l : List Rect) (i : Nat) : Rect := l.getD i ⟨0, 0, 0, 0⟩
def hasL (l : List Rect) (x y : Int) : Bool := l.any fun r => hasB r.x0 r.y0 r.x1 r.y1 x y
def putX (own : List Rect) (x x' y y' : Int) : List Rect :=
  if 0 < own.length ∧ (rget own (own.length - 1)).x1 = x then own.set (own.length - 1) { rget own (own.length - 1) with x1 := x' } else own ++ [⟨x, y, x', y'⟩]
def ownL (f : Int → Bool) (y y' : Int) (xs : List Int) : Nat → List Rect
  | 0 => []
  | i + 1 => if f (xs.getD i 0) then putX (ownL f y y' xs i) (xs.getD i 0) (xs.getD (i + 1) 0) y y' else ownL f y y' xs i
def Rise (xs : List Int) : Prop := ∀ i, i + 1 < xs.length → xs.getD i 0 < xs.getD (i + 1) 0
theorem Rise.lt {xs : List Int} (h : Rise xs) {i j : Nat} (hij : i < j) (hj : j < xs.length) : xs.getD i 0 < xs.getD j 0 := by
  induction j with
  | zero => omega
  | succ j ih =>
    have h1 := h j hj
    by_cases e : i = j
    · subst e; exact h1
    · have := ih (by omega) (by omega); omega
theorem Rise.le {xs : List Int} (h : Rise xs) {i j : Nat} (hij : i ≤ j) (hj : j < xs.length) : xs.getD i 0 ≤ xs.getD j 0 := by
  by_cases e : i = j
  · subst e; omega
  · have := h.lt (i := i) (j := j) (by omega) hj; omega
theorem bandR_length (y y' : Int) (sp : Spans) : (bandR y y' sp).length = sp.length := by simp [bandR]
theorem bandR_last (y y' : Int) (s : Run Unit) (sp : Spans) : rget (bandR y y' (s :: sp)) (sp.length) = ⟨s.1, y, s.2.1, y'⟩ := by
  simp [rget, bandR, List.getD_eq_getElem?_getD, List.getElem?_append_right, spR]
theorem set_last {α : Type} (l : List α) (a b : α) : (l ++ [a]).set l.length b = l ++ [b] := by
  induction l with
  | nil => rfl
  | cons x l ih => simp [ih]
theorem putX_band {sp : Spans} {x x' y y' : Int} (h : RunsOk sp) (hb : ∀ s ∈ sp, s.2.1 ≤ x) (hx : x < x') :
    ∃ sp', RunsOk sp' ∧ putX (bandR y y' sp) x x' y y' = bandR y y' sp' ∧ (∀ s ∈ sp', s.2.1 ≤ x') ∧ ∀ t, (look sp' t).isSome = (decide (x ≤ t ∧ t < x') || (look sp t).isSome) := by
  cases sp with
  | nil =>
    refine ⟨[(x, x', ())], ⟨hx, trivial, trivial⟩, by simp [putX, bandR, spR], fun s hs => by simp at hs; subst hs; exact Int.le_refl _, fun t => ?_⟩
    by_cases ht : x ≤ t ∧ t < x' <;> simp [look, ht]
  | cons s sp =>
    have hs := hb s (by simp)
    unfold putX
    rw [bandR_length, List.length_cons, Nat.add_sub_cancel, bandR_last]
    by_cases e : s.2.1 = x
    · rw [if_pos ⟨by omega, e⟩]
      refine ⟨(s.1, x', ()) :: sp, ⟨by have := h.1; simp only; omega, h.2.1, h.2.2⟩, ?_, fun q hq => ?_, fun t => ?_⟩
      · have e2 : bandR y y' (s :: sp) = bandR y y' sp ++ [spR y y' s] := by simp [bandR]
        have e3 : bandR y y' ((s.1, x', ()) :: sp) = bandR y y' sp ++ [⟨s.1, y, x', y'⟩] := by simp [bandR, spR]
        rw [e2, e3]
        have := set_last (bandR y y' sp) (spR y y' s) (⟨s.1, y, x', y'⟩ : Rect)
        rw [bandR_length] at this
        exact this
      · rcases List.mem_cons.1 hq with rfl | hq
        · exact Int.le_refl _
        · have := h.below q hq; have := h.1; omega
      · have h1 := h.1
        by_cases a : x ≤ t ∧ t < x'
        · rw [look, if_pos (by simp only; omega)]; simp [a]
        · by_cases b : s.1 ≤ t ∧ t < s.2.1
          · rw [look, look, if_pos (by simp only; omega), if_pos b]; simp
          · rw [look, look, if_neg (by simp only; omega), if_neg b]; simp [a]
    · rw [if_neg (fun h => e h.2)]
      refine ⟨(x, x', ()) :: s :: sp, ⟨hx, ⟨hs, fun h => absurd h e⟩, h⟩, by simp [bandR, spR], fun q hq => ?_, fun t => ?_⟩
      · rcases List.mem_cons.1 hq with rfl | hq
        · exact Int.le_refl _
        · have := hb q hq; omega
      · rw [look]
        by_cases a : x ≤ t ∧ t < x' <;> simp [a]
theorem ownL_inv {f : Int → Bool} {y y' : Int} {xs : List Int} (hr : Rise xs) (hc : ∀ k, k + 1 < xs.length → ∀ t, xs.getD k 0 ≤ t → t < xs.getD (k + 1) 0 → f t = f (xs.getD k 0)) :
    ∀ i, i < xs.length → ∃ sp, RunsOk sp ∧ ownL f y y' xs i = bandR y y' sp ∧ (∀ s ∈ sp, s.2.1 ≤ xs.getD i 0) ∧ ∀ t, (look sp t).isSome = (decide (xs.getD 0 0 ≤ t ∧ t < xs.getD i 0) && f t) := by
  intro i
  induction i with
  | zero =>
    intro _
    refine ⟨[], trivial, rfl, fun s hs => (by cases hs), fun t => ?_⟩
    have : ¬ (xs.getD 0 0 ≤ t ∧ t < xs.getD 0 0) := by omega
    rw [decide_eq_false this]; simp [look]
  | succ i ih =>
    intro hi
    obtain ⟨sp, h1, h2, h3, h4⟩ := ih (by omega)
    have hx := hr i hi
    have h0 : xs.getD 0 0 ≤ xs.getD i 0 := hr.le (by omega) (by omega)
    rw [ownL]
    cases hf : f (xs.getD i 0) with
    | true =>
      simp only [if_true]
      rw [h2]
      obtain ⟨sp', g1, g2, g3, g4⟩ := putX_band (y := y) (y' := y') h1 h3 hx
      refine ⟨sp', g1, g2, g3, fun t => ?_⟩
      rw [g4, h4]
      by_cases ht : xs.getD i 0 ≤ t ∧ t < xs.getD (i + 1) 0
      · rw [decide_eq_true ht, hc i hi t ht.1 ht.2, hf, decide_eq_true (show xs.getD 0 0 ≤ t ∧ t < xs.getD (i + 1) 0 by omega)]; simp
      · rw [decide_eq_false ht, Bool.false_or]
        congr 1
        by_cases q : xs.getD 0 0 ≤ t ∧ t < xs.getD i 0
        · rw [decide_eq_true q, decide_eq_true (by omega)]
        · rw [decide_eq_false q, decide_eq_false (by omega)]
    | false =>
      simp only [Bool.false_eq_true, if_false]
      refine ⟨sp, h1, h2, fun s hs => by have := h3 s hs; omega, fun t => ?_⟩
      rw [h4]
      by_cases ht : xs.getD i 0 ≤ t ∧ t < xs.getD (i + 1) 0
      · rw [hc i hi t ht.1 ht.2, hf]; simp
      · congr 1
        by_cases q : xs.getD 0 0 ≤ t ∧ t < xs.getD i 0
        · rw [decide_eq_true q, decide_eq_true (by omega)]
        · rw [decide_eq_false q, decide_eq_false (by omega)]
theorem ownL_all {f : Int → Bool} {y y' : Int} {xs : List Int} (hr : Rise xs) (hc : ∀ k, k + 1 < xs.length → ∀ t, xs.getD k 0 ≤ t → t < xs.getD (k + 1) 0 → f t = f (xs.getD k 0))
    (ho : ∀ t, f t = true → ∃ i j, i < xs.length ∧ j < xs.length ∧ xs.getD i 0 ≤ t ∧ t < xs.getD j 0) :
    ∃ sp, RunsOk sp ∧ ownL f y y' xs (xs.length - 1) = bandR y y' sp ∧ ∀ t, (look sp t).isSome = f t := by
  by_cases hl : xs.length = 0
  · refine ⟨[], trivial, by rw [hl]; rfl, fun t => ?_⟩
    cases hf : f t with
    | false => rfl
    | true => obtain ⟨i, _, hi, _⟩ := ho t hf; omega
  · obtain ⟨sp, h1, h2, h3, h4⟩ := ownL_inv (y := y) (y' := y') hr hc (xs.length - 1) (by omega)
    refine ⟨sp, h1, h2, fun t => ?_⟩
    rw [h4]
    cases hf : f t with
    | false => simp
    | true =>
      obtain ⟨i, j, hi, hj, a, b⟩ := ho t hf
      have := hr.le (i := 0) (j := i) (by omega) hi
      have := hr.le (i := j) (j := xs.length - 1) (by omega) (by omega)
      rw [decide_eq_true (by omega)]; rfl
abbrev Bands := List (Run Spans)
def flatR : Bands → List Rect
  | [] => []
  | b :: t => flatR t ++ bandR b.1 b.2.1 b.2.2
def memB (bs : Bands) (x y : Int) : Bool := match look bs y with
  | some sp => (look sp x).isSome
  | none => false
structure BandsOk (bs : Bands) : Prop where
  runs : RunsOk bs
  each : ∀ b ∈ bs, RunsOk b.2.2 ∧ b.2.2 ≠ []
def IsReg (l : List Rect) (F : Int → Int → Bool) : Prop := ∃ bs, BandsOk bs ∧ l = flatR bs ∧ ∀ x y, memB bs x y = F x y
theorem look_mem {β : Type} {l : List (Run β)} {p : Int} {v : β} (h : look l p = some v) : ∃ r ∈ l, r.2.2 = v ∧ r.1 ≤ p ∧ p < r.2.1 := by
  induction l with
  | nil => cases h
  | cons r t ih =>
    rw [look] at h
    split at h
    · rename_i hc
      cases h
      exact ⟨r, by simp, rfl, hc.1, hc.2⟩
    · obtain ⟨s, hs, h1, h2⟩ := ih h
      exact ⟨s, by simp [hs], h1, h2⟩
theorem look_first {β : Type} {r : Run β} {t : List (Run β)} (h : RunsOk (r :: t)) : look (r :: t) r.1 = some r.2.2 := by
  have := h.1
  rw [look, if_pos (by omega)]
theorem IsReg.unique {l l' : List Rect} {F : Int → Int → Bool} (h : IsReg l F) (h' : IsReg l' F) : l = l' := by
  obtain ⟨bs, h1, rfl, h2⟩ := h
  obtain ⟨bs', h1', rfl, h2'⟩ := h'
  have : bs = bs' := by
    refine runs_unique h1.runs h1'.runs (fun y => ?_)
    have hm : ∀ x, memB bs x y = memB bs' x y := fun x => (h2 x y).trans (h2' x y).symm
    unfold memB at hm
    cases e : look bs y with
    | none =>
      cases e' : look bs' y with
      | none => rfl
      | some sp' =>
        obtain ⟨r, hr, rfl, _⟩ := look_mem e'
        obtain ⟨g1, g2⟩ := h1'.each r hr
        cases hsp : r.2.2 with
        | nil => exact absurd hsp g2
        | cons s t =>
          rw [hsp] at g1
          have := hm s.1
          rw [e, e'] at this
          simp only [hsp, look_first g1] at this
          cases this
    | some sp =>
      obtain ⟨r, hr, rfl, _⟩ := look_mem e
      obtain ⟨g1, g2⟩ := h1.each r hr
      cases e' : look bs' y with
      | none =>
        cases hsp : r.2.2 with
        | nil => exact absurd hsp g2
        | cons s t =>
          rw [hsp] at g1
          have := hm s.1
          rw [e, e'] at this
          simp only [hsp, look_first g1] at this
          cases this
      | some sp' =>
        obtain ⟨r', hr', rfl, _⟩ := look_mem e'
        obtain ⟨g1', g2'⟩ := h1'.each r' hr'
        congr 1
        refine runs_unique g1 g1' (fun x => ?_)
        have := hm x
        rw [e, e'] at this
        simp only at this
        cases a : look r.2.2 x <;> cases b : look r'.2.2 x <;> simp_all
  rw [this]
theorem hasL_append (a b : List Rect) (x y : Int) : hasL (a ++ b) x y = (hasL a x y || hasL b x y) := by simp [hasL]
theorem hasL_band (y0 y1 : Int) (sp : Spans) (x y : Int) : hasL (bandR y0 y1 sp) x y = (decide (y0 ≤ y ∧ y < y1) && (look sp x).isSome) := by
  induction sp with
  | nil => simp [hasL, bandR, look]
  | cons s sp ih =>
    have e : bandR y0 y1 (s :: sp) = bandR y0 y1 sp ++ [spR y0 y1 s] := by simp [bandR]
    rw [e, hasL_append, ih]
    have e2 : hasL [spR y0 y1 s] x y = (decide (y0 ≤ y ∧ y < y1) && decide (s.1 ≤ x ∧ x < s.2.1)) := by
      simp only [hasL, List.any_cons, List.any_nil, Bool.or_false, spR]
      rw [Bool.eq_iff_iff, hasB_true]
      simp only [Bool.and_eq_true, decide_eq_true_eq]
      omega
    rw [e2, look]
    by_cases hx : s.1 ≤ x ∧ x < s.2.1
    · rw [if_pos hx, decide_eq_true hx]
      cases decide (y0 ≤ y ∧ y < y1) <;> simp
    · rw [if_neg hx, decide_eq_false hx]
      simp
theorem hasL_flat : ∀ {bs : Bands}, RunsOk bs → ∀ x y, hasL (flatR bs) x y = memB bs x y := by
  intro bs
  induction bs with
  | nil => intro _ x y; rfl
  | cons b t ih =>
    intro h x y
    rw [flatR, hasL_append, ih h.tail, hasL_band]
    unfold memB
    rw [look]
    by_cases hy : b.1 ≤ y ∧ y < b.2.1
    · rw [look_above h.below hy.1, if_pos hy, decide_eq_true hy]; simp
    · rw [if_neg hy, decide_eq_false hy]; simp
theorem IsReg.has {l : List Rect} {F : Int → Int → Bool} (h : IsReg l F) (x y : Int) : hasL l x y = F x y := by
  obtain ⟨bs, h1, rfl, h2⟩ := h
  rw [hasL_flat h1.runs, h2]
theorem IsReg.self {l : List Rect} {F : Int → Int → Bool} (h : IsReg l F) : IsReg l (hasL l) := by
  obtain ⟨bs, h1, rfl, h2⟩ := h
  exact ⟨bs, h1, rfl, fun x y => (hasL_flat h1.runs x y).symm⟩
theorem IsReg.congr {l : List Rect} {F G : Int → Int → Bool} (h : IsReg l F) (e : ∀ x y, F x y = G x y) : IsReg l G := by
  obtain ⟨bs, h1, rfl, h2⟩ := h
  exact ⟨bs, h1, rfl, fun x y => (h2 x y).trans (e x y)⟩
structure Alike (al : List Rect → List Rect → Int → Bool) : Prop where
  nil : ∀ o y, al [] o y = false
  none : ∀ l y, al l [] y = false
  band : ∀ (b : Run Spans) (sp : Spans) (y' : Int), b.2.2 ≠ [] → sp ≠ [] → al (bandR b.1 b.2.1 b.2.2) (bandR b.2.1 y' sp) b.2.1 = decide (b.2.2 = sp)
def setY1 (y : Int) (l : List Rect) : List Rect := l.map fun r => { r with y1 := y }
def mgSt (al : List Rect → List Rect → Int → Bool) (own : Nat → List Rect) (ys : List Int) : Nat → List Rect × List Rect
  | 0 => ([], [])
  | i + 1 => if al (mgSt al own ys i).2 (own i) (ys.getD i 0) then ((mgSt al own ys i).1, setY1 (ys.getD (i + 1) 0) (mgSt al own ys i).2) else ((mgSt al own ys i).1 ++ (mgSt al own ys i).2, own i)
def mgL (al : List Rect → List Rect → Int → Bool) (own : Nat → List Rect) (ys : List Int) : List Rect := (mgSt al own ys (ys.length - 1)).1 ++ (mgSt al own ys (ys.length - 1)).2
theorem setY1_band (y y' z : Int) (sp : Spans) : setY1 z (bandR y y' sp) = bandR y z sp := by
  simp [setY1, bandR, List.map_reverse, Function.comp_def, spR]
theorem bandR_nil_iff {y y' : Int} {sp : Spans} : bandR y y' sp = [] ↔ sp = [] := by simp [bandR]
theorem mgSt_inv {al : List Rect → List Rect → Int → Bool} (hal : Alike al) {own : Nat → List Rect} {ys : List Int} {F : Int → Int → Bool} (hr : Rise ys)
    (hown : ∀ i, i + 1 < ys.length → ∃ sp, RunsOk sp ∧ own i = bandR (ys.getD i 0) (ys.getD (i + 1) 0) sp ∧ ∀ t, (look sp t).isSome = F t (ys.getD i 0))
    (hc : ∀ k, k + 1 < ys.length → ∀ t, ys.getD k 0 ≤ t → t < ys.getD (k + 1) 0 → ∀ x, F x t = F x (ys.getD k 0)) :
    ∀ i, i < ys.length → ∃ bs, BandsOk bs ∧ (mgSt al own ys i).1 ++ (mgSt al own ys i).2 = flatR bs ∧ (∀ b ∈ bs, b.2.1 ≤ ys.getD i 0) ∧
      ((mgSt al own ys i).2 = [] ∧ (∀ b ∈ bs, b.2.1 < ys.getD i 0) ∨ ∃ b t, bs = b :: t ∧ (mgSt al own ys i).1 = flatR t ∧ (mgSt al own ys i).2 = bandR b.1 b.2.1 b.2.2 ∧ b.2.1 = ys.getD i 0) ∧
      ∀ x y, memB bs x y = (decide (ys.getD 0 0 ≤ y ∧ y < ys.getD i 0) && F x y) := by
  intro i
  induction i with
  | zero =>
    intro _
    refine ⟨[], ⟨trivial, fun b hb => by cases hb⟩, rfl, fun b hb => (by cases hb), .inl ⟨rfl, fun b hb => by cases hb⟩, fun x y => ?_⟩
    rw [decide_eq_false (by omega)]; rfl
  | succ i ih =>
    intro hi
    obtain ⟨bs, h1, h2, h3, h4, h5⟩ := ih (by omega)
    obtain ⟨sp, s1, s2, s3⟩ := hown i hi
    have hy := hr i hi
    have h0 : ys.getD 0 0 ≤ ys.getD i 0 := hr.le (by omega) (by omega)
    -- the points of one more cell
    have pts : ∀ x y, (decide (ys.getD 0 0 ≤ y ∧ y < ys.getD (i + 1) 0) && F x y) = if ys.getD i 0 ≤ y ∧ y < ys.getD (i + 1) 0 then (look sp x).isSome else (decide (ys.getD 0 0 ≤ y ∧ y < ys.getD i 0) && F x y) := by
      intro x y
      by_cases hc1 : ys.getD i 0 ≤ y ∧ y < ys.getD (i + 1) 0
      · rw [if_pos hc1, decide_eq_true (by omega), hc i hi y hc1.1 hc1.2 x, s3]; rfl
      · rw [if_neg hc1]
        congr 1
        by_cases q : ys.getD 0 0 ≤ y ∧ y < ys.getD i 0
        · rw [decide_eq_true q, decide_eq_true (by omega)]
        · rw [decide_eq_false q, decide_eq_false (by omega)]
    rw [mgSt]
    by_cases hsp : sp = []
    · -- nothing in the cell
      subst hsp
      have ho : own i = [] := by rw [s2]; rfl
      rw [ho, hal.none]
      simp only [Bool.false_eq_true, if_false]
      refine ⟨bs, h1, by rw [List.append_nil]; exact h2, fun b hb => by have := h3 b hb; omega, .inl ⟨trivial, fun b hb => by have := h3 b hb; omega⟩, fun x y => ?_⟩
      rw [pts, h5]
      split
      · rw [decide_eq_false (by omega)]; rfl
      · rfl
    · have newband : (∀ b t, bs = b :: t → b.2.1 = ys.getD i 0 → b.2.2 ≠ sp) → ∃ bs', BandsOk bs' ∧ ((mgSt al own ys i).1 ++ (mgSt al own ys i).2) ++ own i = flatR bs' ∧ (∀ b ∈ bs', b.2.1 ≤ ys.getD (i + 1) 0) ∧
          (own i = [] ∧ (∀ b ∈ bs', b.2.1 < ys.getD (i + 1) 0) ∨ ∃ b t, bs' = b :: t ∧ ((mgSt al own ys i).1 ++ (mgSt al own ys i).2) = flatR t ∧ own i = bandR b.1 b.2.1 b.2.2 ∧ b.2.1 = ys.getD (i + 1) 0) ∧
          ∀ x y, memB bs' x y = (decide (ys.getD 0 0 ≤ y ∧ y < ys.getD (i + 1) 0) && F x y) := by
        intro hne
        refine ⟨(ys.getD i 0, ys.getD (i + 1) 0, sp) :: bs, ⟨⟨hy, ?_, h1.runs⟩, fun b hb => ?_⟩, by rw [flatR, h2, s2], fun b hb => ?_, .inr ⟨_, _, rfl, h2, s2, rfl⟩, fun x y => ?_⟩
        · cases bs with
          | nil => trivial
          | cons b t => exact ⟨h3 b (by simp), fun he => hne b t rfl he⟩
        · rcases List.mem_cons.1 hb with rfl | hb
          · exact ⟨s1, hsp⟩
          · exact h1.each b hb
        · rcases List.mem_cons.1 hb with rfl | hb
          · exact Int.le_refl _
          · have := h3 b hb; omega
        · rw [pts, ← h5]
          unfold memB
          rw [look]
          simp only
          by_cases hc1 : ys.getD i 0 ≤ y ∧ y < ys.getD (i + 1) 0
          · rw [if_pos hc1, if_pos hc1]
          · rw [if_neg hc1, if_neg hc1]
      rcases h4 with ⟨hl, hlt⟩ | ⟨b, t, rfl, g1, g2, g3⟩
      · rw [hl, hal.nil]
        simp only [Bool.false_eq_true, if_false]
        rw [hl] at newband
        exact newband (fun b t hb he => by have := hlt b (by rw [hb]; simp); omega)
      · have hb := h1.each b (by simp)
        have ha : al (mgSt al own ys i).2 (own i) (ys.getD i 0) = decide (b.2.2 = sp) := by
          rw [g2, s2, ← g3]; exact hal.band b sp _ hb.2 hsp
        rw [ha]
        by_cases he : b.2.2 = sp
        · rw [decide_eq_true he]
          simp only [if_true]
          refine ⟨(b.1, ys.getD (i + 1) 0, sp) :: t, ⟨⟨by have := h1.runs.1; simp only; omega, ?_, h1.runs.2.2⟩, fun q hq => ?_⟩, ?_, fun q hq => ?_, .inr ⟨_, _, rfl, g1, ?_, rfl⟩, fun x y => ?_⟩
          · have := h1.runs.2.1
            rw [he] at this
            exact this
          · rcases List.mem_cons.1 hq with rfl | hq
            · exact ⟨s1, hsp⟩
            · exact h1.each q (by simp [hq])
          · rw [g1, g2, setY1_band, he]; rfl
          · rcases List.mem_cons.1 hq with rfl | hq
            · exact Int.le_refl _
            · have := h3 q (by simp [hq]); omega
          · rw [g2, setY1_band, he]
          · rw [pts, ← h5]
            have h6 := h1.runs.1
            unfold memB
            rw [look, look]
            simp only
            by_cases hc1 : ys.getD i 0 ≤ y ∧ y < ys.getD (i + 1) 0
            · rw [if_pos (by omega), if_pos hc1]
            · rw [if_neg hc1]
              by_cases hc2 : b.1 ≤ y ∧ y < b.2.1
              · rw [if_pos (by omega), if_pos hc2, he]
              · rw [if_neg (by omega), if_neg hc2]
        · rw [decide_eq_false he]
          simp only [Bool.false_eq_true, if_false]
          exact newband (fun b' t' hb' _ => by cases hb'; exact he)
theorem mgL_isReg {al : List Rect → List Rect → Int → Bool} (hal : Alike al) {own : Nat → List Rect} {ys : List Int} {F : Int → Int → Bool} (hr : Rise ys)
    (hown : ∀ i, i + 1 < ys.length → ∃ sp, RunsOk sp ∧ own i = bandR (ys.getD i 0) (ys.getD (i + 1) 0) sp ∧ ∀ t, (look sp t).isSome = F t (ys.getD i 0))
    (hc : ∀ k, k + 1 < ys.length → ∀ t, ys.getD k 0 ≤ t → t < ys.getD (k + 1) 0 → ∀ x, F x t = F x (ys.getD k 0))
    (ho : ∀ x t, F x t = true → ∃ i j, i < ys.length ∧ j < ys.length ∧ ys.getD i 0 ≤ t ∧ t < ys.getD j 0) : IsReg (mgL al own ys) F := by
  by_cases hl : ys.length = 0
  · refine ⟨[], ⟨trivial, fun b hb => by cases hb⟩, by unfold mgL; rw [hl]; rfl, fun x y => ?_⟩
    cases hf : F x y with
    | false => rfl
    | true => obtain ⟨i, _, hi, _⟩ := ho x y hf; omega
  · obtain ⟨bs, h1, h2, _, _, h5⟩ := mgSt_inv hal hr hown hc (ys.length - 1) (by omega)
    refine ⟨bs, h1, h2, fun x y => ?_⟩
    rw [h5]
    cases hf : F x y with
    | false => simp
    | true =>
      obtain ⟨i, j, hi, hj, a, b⟩ := ho x y hf
      have := hr.le (i := 0) (j := i) (by omega) hi
      have := hr.le (i := j) (j := ys.length - 1) (by omega) (by omega)
      rw [decide_eq_true (by omega)]; rfl
end Go.Proofs.YtlfahohbkgdabaaGreat
