/- Texts of this proof's own, put together: what each holds is told ahead of it. -/
import Derived.Test.YtlfahohbkgdabaaPhG3
import Derived.Test.YtlfahohbkgdabaaPhG1
import Derived.Test.YtlfahohbkgdabaaProg
import Derived.Test.YtlfahohbkgdabaaPhG2
set_option linter.unusedSimpArgs false
set_option linter.unusedVariables false
namespace Go.Proofs.Ytlfahohbkgdabaa
open Go Go.RowKit
set_option maxRecDepth 100000
set_option maxHeartbeats 8000000
theorem refSmallQ (r : Rect) (w : World) (hr : R64 r) :
    Calls Try.prog 41 #[.agg #[iQ r.x0, iQ r.y0, iQ r.x1, iQ r.y1]] w fun e w' => e = .returned (.agg #[iQ ((smallR r).x0), iQ ((smallR r).y0), iQ ((smallR r).x1), iQ ((smallR r).y1)]) ∧ Below w.heap.size w w' := by
 obtain ⟨⟨h0, h0'⟩, ⟨h1, h1'⟩, ⟨h2, h2'⟩, ⟨h3, h3'⟩⟩ := hr
 refine eN [(0, .agg #[iq r.x0, iq r.y0, iq r.x1, iq r.y1])] Try.func41 Try.ntmps41 rfl (Tab.start w) ?_
 refine zSR 2 <| batch2 [0, 0] 2 0 (fun b1 b2 => [(1, .pointer (pB b1)), (2, .pointer (pB b2))]) (fun b1 b2 => [.cells b2 [iq 0, iq 0, iq 0, iq 0] 53 true, .cells b1 [iq r.x0, iq r.y0, iq r.x1, iq r.y1] 53 true]) rfl rfl [1, 2] (fun _ _ => rfl) (fun b1 b2 => by kernel_rfl) (fun b1 b2 => by kernel_rfl) (fun b1 b2 => ?_)
 refine zDNSR 5 <| bD [0, 1] 2 3 [(6, iq r.x0)] [5] <| pS 3 2 <| cP 7 (iq (aroundI r.x0 24)) (fun w hT => refAround r.x0 24 w (by omega) (by omega)) ?_
 have hq3_ := aroundI_range r.x0 (m := 24) (by omega)
 refine bD [0] 4 1 [(8, iq (IntKind.i64.wrap ((aroundI r.x0 24) - 4)))] [] <| wI 8 ((aroundI r.x0 24) - 4) <| bD [0] 5 0 [(3, iq ((aroundI r.x0 24) - 4))] [] <| zDNSR 5 <| bD [0, 1] 2 3 [(10, iq r.y0)] [9] <| pS 3 2 <| cP 11 (iq (aroundI r.y0 24)) (fun w hT => refAround r.y0 24 w (by omega) (by omega)) ?_
 have hq4_ := aroundI_range r.y0 (m := 24) (by omega)
 refine bD [0] 4 1 [(12, iq (IntKind.i64.wrap ((aroundI r.y0 24) - 4)))] [] <| wI 12 ((aroundI r.y0 24) - 4) <| bD [0] 5 0 [(4, iq ((aroundI r.y0 24) - 4))] [] <| zDNS <| drawn_enter 14 [0] rfl (by kernel_rfl) ?_
 refine tD 0 [0] [(0, 0), (1, 0), (2, 0), (3, 0), (7, 0), (8, 0), (4, 1), (9, 1)] 6 [9, 4, 8, 7, 3, 2, 1, 0] [(13, iq ((aroundI r.x0 24) - 4)), (14, iq ((aroundI r.y0 24) - 4)), (15, iq ((aroundI r.x0 24) - 4)), (17, iq r.x1), (20, iq ((aroundI r.y0 24) - 4)), (22, iq r.y1)] [16, 21] <| dO 5 5 <| cP 18 (iq (aroundI r.x1 13)) (fun w hT => refAround r.x1 13 w (by omega) (by omega)) ?_
 have hq5_ := aroundI_range r.x1 (m := 13) (by omega)
 refine dX 0 [0] <| tD 0 [0] [(6, 0)] 4 [6, 5, 9, 4, 8, 7, 3, 2, 1, 0] [(19, iq (IntKind.i64.wrap (((aroundI r.x0 24) - 4) + (aroundI r.x1 13))))] [] <| wI 19 (((aroundI r.x0 24) - 4) + (aroundI r.x1 13)) <| dO 10 3 <| cP 23 (iq (aroundI r.y1 13)) (fun w hT => refAround r.y1 13 w (by omega) (by omega)) ?_
 have hq6_ := aroundI_range r.y1 (m := 13) (by omega)
 refine dX 0 [0] <| tD 0 [0] [(11, 0)] 2 [11, 10, 6, 5, 9, 4, 8, 7, 3, 2, 1, 0] [(24, iq (IntKind.i64.wrap (((aroundI r.y0 24) - 4) + (aroundI r.y1 13))))] [] <| wI 24 (((aroundI r.y0 24) - 4) + (aroundI r.y1 13)) <| tD 0 [0] [(12, 0)] 1 [12, 11, 10, 6, 5, 9, 4, 8, 7, 3, 2, 1, 0] [(25, .agg #[iq ((aroundI r.x0 24) - 4), iq ((aroundI r.y0 24) - 4), iq (((aroundI r.x0 24) - 4) + (aroundI r.x1 13)), iq (((aroundI r.y0 24) - 4) + (aroundI r.y1 13))])] [] <| dO 13 0 <| oS 0 [(2, .pointer (pB b2))] [.cells b2 [iq ((aroundI r.x0 24) - 4), iq ((aroundI r.y0 24) - 4), iq (((aroundI r.x0 24) - 4) + (aroundI r.x1 13)), iq (((aroundI r.y0 24) - 4) + (aroundI r.y1 13))] 53 true, .cells b1 [iq r.x0, iq r.y0, iq r.x1, iq r.y1] 53 true] <| dX 0 [0] <| dD <| zN <| cont_ret ?_
 refine rA rfl 0 (.agg #[iq ((aroundI r.x0 24) - 4), iq ((aroundI r.y0 24) - 4), iq (((aroundI r.x0 24) - 4) + (aroundI r.x1 13)), iq (((aroundI r.y0 24) - 4) + (aroundI r.y1 13))]) fun w hT => ?_
 exact ⟨rfl, hT.post rfl⟩
theorem refHasL (A : Option Addr) (g o n cap : Nat) (xs : List Rect) (x y : Int) (w : World) (hT0 : Tab w w [rD (A) g o n 4 (rvals xs)]) (hn : n ≤ 1000000000000) :
    Calls Try.prog 38 #[.slice A n cap, iQ x, iQ y] w fun e w' => e = .returned (.bool (hasL xs x y)) ∧ Below w.heap.size w w' := by
 obtain ⟨hra, hrl⟩ := Rd.factsR (hT0.ok 0 _ rfl)
 refine eN [(0, .slice A n cap), (1, iq x), (2, iq y)] Try.func38 Try.ntmps38 rfl hT0 ?_
 refine zSR 1 <| bD [0] 1 0 [] [6] <| zDNSSR 1 <| bD [0] 1 0 [(7, iq 0)] [] <| zDNB <| cL (α := Nat) (fun x_ : Nat => x_ ≤ n ∧ ∀ j, j < x_ → hasB (rget xs j).x0 (rget xs j).y0 (rget xs j).x1 (rget xs j).y1 x y = false) (fun x_ : Nat => [(0, .slice A n cap), (1, iq x), (2, iq y), (7, iq (x_ : Int))]) (fun x_ : Nat => [rD (A) g o n 4 (rvals xs)]) (fun x_ : Nat => n - x_) 0 (⟨by omega, fun j hj => by omega⟩) ?_
 rintro i hinv1_
 replace hinv1_ : i ≤ n ∧ ∀ j, j < i → hasB (rget xs j).x0 (rget xs j).y0 (rget xs j).x1 (rget xs j).y1 x y = false := hinv1_
 obtain ⟨hi, hns⟩ := hinv1_
 refine zSSR 4 <| bD [0, 0, 0, 0] 4 0 [(11, .bool (decide ((i : Int) < (n : Int))))] [8, 9, 10] <| zDN <| sD 11 rfl (fun c2_ => ?_) fun c2_ => ?_
 ·
  refine zTKNSBSR 7 <| bD [0, 0] 2 5 [(14, .slice A n cap), (15, iq (i : Int))] [] <| pS 3 4 <| rC 14 (.slice (some ⟨g, o, none⟩) n cap) rfl (by rw [hra (by omega)]) <| sS 16 (Instr.indexAt 58 (.slice (some ⟨g, o, none⟩) n cap) (iq (i : Int))) (.pointer (some ⟨g, o + i * 4, none⟩)) (fun w hT => rI 53 4 w) <| pS 4 3 <| sS 17 (Instr.loadAt 53 (.pointer (some ⟨g, o + i * 4, none⟩))) (.agg #[iq ((rget xs i).x0), iq ((rget xs i).y0), iq ((rget xs i).x1), iq ((rget xs i).y1)]) (fun w hT => rM 4 (rcells (rget xs i)) (Rd.rect (hT.ok 0 _ rfl) (by omega))) <| bD [0, 0] 6 1 [(18, iq x), (19, iq y)] [] <| pS 7 0 <| cP 20 (.bool (hasB ((rget xs i).x0) ((rget xs i).y0) ((rget xs i).x1) ((rget xs i).y1) x y)) (fun w hT => refHas ((rget xs i).x0) ((rget xs i).y0) ((rget xs i).x1) ((rget xs i).y1) x y w) <| zDN <| cSp 20 _ rfl (fun c3_ => ?_) fun c3_ => ?_
  ·
   refine zTSR 1 <| bS [0] 1 0 [(6, .bool true)] <| zDNruttut <| rA rfl 0 (.bool true) fun w hT => ?_
   exact ⟨ret_bool (List.any_eq_true.2 ⟨rget xs i, rget_mem (by omega), ‹_›⟩).symm, hT.post rfl⟩
  refine zFKbNR 3 <| bD [0, 0] 2 1 [(13, iq (IntKind.i64.wrap ((i : Int) + 1)))] [12] <| wI 13 ((i : Int) + 1) <| bD [0] 3 0 [(7, iq ((i : Int) + 1))] [] <| zDN <| cA (i + 1) (show (i + 1) ≤ n ∧ ∀ j, j < (i + 1) → hasB (rget xs j).x0 (rget xs j).y0 (rget xs j).x1 (rget xs j).y1 x y = false from ⟨by omega, fun j hj => by rcases Nat.lt_succ_iff_lt_or_eq.1 hj with h_ | h_; exact hns j h_; subst h_; assumption⟩)
 refine zFXxxeNSR 1 <| bS [0] 1 0 [(6, .bool false)] <| zDNr <| rA rfl 0 (.bool false) fun w hT => ?_
 refine ⟨ret_bool ?_, hT.post rfl⟩
 symm
 unfold hasL
 rw [List.any_eq_false]
 intro r hr
 obtain ⟨j, hj, e_⟩ := List.mem_iff_getElem.1 hr
 have h_ := hns j (by omega)
 rw [← rget_eq hj, e_] at h_
 rw [h_]; simp
theorem refKeepB (p q : Bool) (how : Int) (w : World) :
    Calls Try.prog 90 #[.bool p, .bool q, iQ how] w fun e w' => e = .returned (.bool (docK how p q)) ∧ Below w.heap.size w w' := by
 refine eN [(0, .bool p), (1, .bool q), (2, iq how)] Try.func90 Try.ntmps90 rfl (Tab.start w) ?_
 refine zSR 1 <| bD [0] 1 0 [] [6] <| zDNSSR 2 <| bD [0, 0] 2 0 [(8, .bool (how == 0))] [7] <| zDN <| sE 8 rfl (fun c1_ => ?_) fun c1_ => ?_
 ·
  refine zTSR 5 <| bD [0, 0] 2 3 [(10, .bool p)] [9] <| cSp 10 _ rfl (fun c2_ => ?_) fun c2_ => ?_
  ·
   refine bS [0, 0, 0] 5 0 [(6, .bool true)] <| zDNrt <| rA rfl 0 (.bool true) fun w hT => ?_
   exact ⟨ret_bool (by simp [docK, *]), hT.post rfl⟩
  refine bS [0, 0, 0] 5 0 [(6, .bool q)] <| zDNrt <| rA rfl 0 (.bool q) fun w hT => ?_
  exact ⟨ret_bool (by simp [docK, *]), hT.post rfl⟩
 refine zFKNSSR 2 <| bD [0, 0] 2 0 [(14, .bool (how == 1))] [13] <| zDN <| sE 14 rfl (fun c3_ => ?_) fun c3_ => ?_
 ·
  refine zTSR 5 <| bD [0, 0] 2 3 [(16, .bool p)] [15] <| cSp 16 _ rfl (fun c4_ => ?_) fun c4_ => ?_
  ·
   refine bS [0, 0, 0] 5 0 [(6, .bool q)] <| zDNrt <| rA rfl 0 (.bool q) fun w hT => ?_
   exact ⟨ret_bool (by simp [docK, *]), hT.post rfl⟩
  refine bS [0, 0, 0] 5 0 [(6, .bool false)] <| zDNrt <| rA rfl 0 (.bool false) fun w hT => ?_
  exact ⟨ret_bool (by simp [docK, *]), hT.post rfl⟩
 refine zFKNSSR 2 <| bD [0, 0] 2 0 [(20, .bool (how == 2))] [19] <| zDN <| sE 20 rfl (fun c5_ => ?_) fun c5_ => ?_
 ·
  refine zTSR 6 <| bD [0, 0] 2 4 [(22, .bool p)] [21] <| cSp 22 _ rfl (fun c6_ => ?_) fun c6_ => ?_
  ·
   refine bS [0, 0, 0, 0] 6 0 [(6, .bool (!q))] <| zDNrt <| rA rfl 0 (.bool (!q)) fun w hT => ?_
   exact ⟨ret_bool (by simp [docK, *]), hT.post rfl⟩
  refine bS [0, 0, 0, 0] 6 0 [(6, .bool false)] <| zDNrt <| rA rfl 0 (.bool false) fun w hT => ?_
  exact ⟨ret_bool (by simp [docK, *]), hT.post rfl⟩
 refine zFKNSR 4 <| bS [0, 0] 2 2 [(26, .bool p), (27, .bool q)] <| cSp 26 _ rfl (fun c7_ => ?_) fun c7_ => ?_
 ·
  refine cSp 27 _ rfl (fun c8_ => ?_) fun c8_ => ?_
  ·
   refine bS [0, 0] 4 0 [(6, .bool false)] <| zDNr <| rA rfl 0 (.bool false) fun w hT => ?_
   exact ⟨ret_bool (by simp [docK, *]), hT.post rfl⟩
  refine bS [0, 0] 4 0 [(6, .bool true)] <| zDNr <| rA rfl 0 (.bool true) fun w hT => ?_
  exact ⟨ret_bool (by simp [docK, *]), hT.post rfl⟩
 refine cSp 27 _ rfl (fun c9_ => ?_) fun c9_ => ?_
 ·
  refine bS [0, 0] 4 0 [(6, .bool true)] <| zDNr <| rA rfl 0 (.bool true) fun w hT => ?_
  exact ⟨ret_bool (by simp [docK, *]), hT.post rfl⟩
 refine bS [0, 0] 4 0 [(6, .bool false)] <| zDNr <| rA rfl 0 (.bool false) fun w hT => ?_
 exact ⟨ret_bool (by simp [docK, *]), hT.post rfl⟩
theorem refSpans (A : Option Addr) (g o n cap : Nat) (xs : List Rect) (A' : Option Addr) (g' o' n' cap' : Nat) (xs' : List Rect) (w : World) (hT0 : Tab w w [rD (A) g o n 4 (rvals xs), rD (A') g' o' n' 4 (rvals xs')]) (hn : n ≤ 1000000000000) :
    Calls Try.prog 91 #[.slice A n cap, .slice A' n' cap'] w fun e w' => e = .returned (.bool (eqF span1 xs xs')) ∧ Below w.heap.size w w' := by
 obtain ⟨hra, hrl⟩ := Rd.factsR (hT0.ok 0 _ rfl)
 obtain ⟨hra', hrl'⟩ := Rd.factsR (hT0.ok 1 _ rfl)
 refine eN [(0, .slice A n cap), (1, .slice A' n' cap')] Try.func91 Try.ntmps91 rfl hT0 ?_
 refine zSR 1 <| bD [0] 1 0 [] [4] <| zDNSSR 5 <| bD [0, 0, 0, 0, 0] 5 0 [(10, .bool ((n : Int) != ((n' : Nat) : Int)))] [6, 7, 8, 9] <| zDN <| sN 10 rfl (fun c1_ => ?_) fun c1_ => ?_
 ·
  refine zTSR 1 <| bS [0] 1 0 [(4, .bool false)] <| zDNrt <| rA rfl 0 (.bool false) fun w hT => ?_
  exact ⟨ret_bool (by first | exact (eqF_no (j := i) (by omega) (by omega) (by simp_all [span1])).symm | exact (eqF_len (by omega)).symm), hT.post rfl⟩
 refine zFKNSSR 1 <| bD [0] 1 0 [(5, iq 0)] [] <| zDNB <| cL (α := Nat) (fun x_ : Nat => x_ ≤ n ∧ ∀ j, j < x_ → span1 (rget xs j) (rget xs' j) = true) (fun x_ : Nat => [(0, .slice A n cap), (1, .slice A' n' cap'), (5, iq (x_ : Int))]) (fun x_ : Nat => [rD (A) g o n 4 (rvals xs), rD (A') g' o' n' 4 (rvals xs')]) (fun x_ : Nat => n - x_) 0 (⟨by omega, fun j hj => by omega⟩) ?_
 rintro i hinv2_
 replace hinv2_ : i ≤ n ∧ ∀ j, j < i → span1 (rget xs j) (rget xs' j) = true := hinv2_
 obtain ⟨hi, hns⟩ := hinv2_
 refine zSSR 4 <| bD [0, 0, 0, 0] 4 0 [(14, .bool (decide ((i : Int) < (n : Int))))] [11, 12, 13] <| zDN <| sD 14 rfl (fun c3_ => ?_) fun c3_ => ?_
 ·
  refine cTr rfl <| cont_skip <| zN <| cSq <| cont_block <| cSq <| drawn_enter 24 [] rfl (by kernel_rfl) ?_
  refine tD 0 [] [(0, 0), (1, 0), (5, 0), (6, 0)] 20 [6, 5, 1, 0] [(17, .slice A n cap), (18, iq (i : Int)), (22, .slice A' n' cap'), (23, iq (i : Int))] [] <| rC 17 (.slice (some ⟨g, o, none⟩) n cap) rfl (by rw [hra (by omega)]) <| sT 0 [] 2 19 19 (Instr.indexAt 58 (.slice (some ⟨g, o, none⟩) n cap) (iq (i : Int))) (.pointer (some ⟨g, o + i * 4, none⟩)) (fun w hT => rI 53 4 w) <| tD 0 [] [(3, 0)] 18 [3, 2, 6, 5, 1, 0] [(20, .pointer (some ⟨g, o + i * 4, none⟩))] [] <| sT 0 [] 4 17 21 (Instr.loadAt 3 (.pointer (some ⟨g, o + i * 4, none⟩))) (iq ((rget xs i).x0)) (fun w hT => rL (Rd.cellF (hT 0 _ rfl) i 0 _ (by omega) rfl)) <| rC 22 (.slice (some ⟨g', o', none⟩) n' cap') rfl (by rw [hra' (by omega)]) <| sT 0 [] 7 16 24 (Instr.indexAt 58 (.slice (some ⟨g', o', none⟩) n' cap') (iq (i : Int))) (.pointer (some ⟨g', o' + i * 4, none⟩)) (fun w hT => rI 53 4 w) <| tD 0 [] [(8, 0)] 15 [8, 7, 4, 3, 2, 6, 5, 1, 0] [(25, .pointer (some ⟨g', o' + i * 4, none⟩))] [] <| sT 0 [] 9 14 26 (Instr.loadAt 3 (.pointer (some ⟨g', o' + i * 4, none⟩))) (iq ((rget xs' i).x0)) (fun w hT => rL (Rd.cellF (hT 1 _ rfl) i 0 _ (by omega) rfl)) <| tD 0 [] [(10, 0), (11, 0)] 12 [11, 10, 9, 8, 7, 4, 3, 2, 6, 5, 1, 0] [(28, .bool (((rget xs i).x0) != ((rget xs' i).x0)))] [27] <| sN 28 rfl (fun c4_ => ?_) fun c4_ => ?_
  ·
   refine tD 0 [] [(12, 0), (13, 0), (17, 0), (18, 0), (14, 0), (19, 0), (15, 0), (20, 0), (16, 0), (21, 0), (22, 0), (23, 0)] 0 [23, 22, 21, 16, 20, 15, 19, 14, 18, 17, 13, 12, 11, 10, 9, 8, 7, 4, 3, 2, 6, 5, 1, 0] [(29, undef), (30, undef), (31, undef), (32, undef), (33, undef), (34, undef), (35, undef), (36, undef), (37, undef), (38, undef), (39, undef), (40, .bool true)] [] <| dD <| zN <| zTSR 1 <| bS [0] 1 0 [(4, .bool false)] <| zDNruttut <| rA rfl 0 (.bool false) fun w hT => ?_
   exact ⟨ret_bool (by first | exact (eqF_no (j := i) (by omega) (by omega) (by simp_all [span1])).symm | exact (eqF_len (by omega)).symm), hT.post rfl⟩
  refine tD 0 [] [(12, 0), (13, 0), (17, 0), (18, 0)] 8 [18, 17, 13, 12, 11, 10, 9, 8, 7, 4, 3, 2, 6, 5, 1, 0] [(29, .slice A n cap), (30, iq (i : Int)), (34, .slice A' n' cap'), (35, iq (i : Int))] [] <| rC 29 (.slice (some ⟨g, o, none⟩) n cap) rfl (by rw [hra (by omega)]) <| sT 0 [] 14 7 31 (Instr.indexAt 58 (.slice (some ⟨g, o, none⟩) n cap) (iq (i : Int))) (.pointer (some ⟨g, o + i * 4, none⟩)) (fun w hT => rI 53 4 w) <| tD 0 [] [(15, 0)] 6 [15, 14, 18, 17, 13, 12, 11, 10, 9, 8, 7, 4, 3, 2, 6, 5, 1, 0] [(32, .pointer (some ⟨g, o + i * 4 + 2, none⟩))] [] <| sT 0 [] 16 5 33 (Instr.loadAt 3 (.pointer (some ⟨g, o + i * 4 + 2, none⟩))) (iq ((rget xs i).x1)) (fun w hT => rL (Rd.cellF (hT 0 _ rfl) i 2 _ (by omega) rfl)) <| rC 34 (.slice (some ⟨g', o', none⟩) n' cap') rfl (by rw [hra' (by omega)]) <| sT 0 [] 19 4 36 (Instr.indexAt 58 (.slice (some ⟨g', o', none⟩) n' cap') (iq (i : Int))) (.pointer (some ⟨g', o' + i * 4, none⟩)) (fun w hT => rI 53 4 w) <| tD 0 [] [(20, 0)] 3 [20, 19, 16, 15, 14, 18, 17, 13, 12, 11, 10, 9, 8, 7, 4, 3, 2, 6, 5, 1, 0] [(37, .pointer (some ⟨g', o' + i * 4 + 2, none⟩))] [] <| sT 0 [] 21 2 38 (Instr.loadAt 3 (.pointer (some ⟨g', o' + i * 4 + 2, none⟩))) (iq ((rget xs' i).x1)) (fun w hT => rL (Rd.cellF (hT 1 _ rfl) i 2 _ (by omega) rfl)) <| tD 0 [] [(22, 0), (23, 0)] 0 [23, 22, 21, 20, 19, 16, 15, 14, 18, 17, 13, 12, 11, 10, 9, 8, 7, 4, 3, 2, 6, 5, 1, 0] [(39, .bool (((rget xs i).x1) != ((rget xs' i).x1))), (40, .bool (((rget xs i).x1) != ((rget xs' i).x1)))] [] <| dD <| zN <| cSp 40 _ rfl (fun c5_ => ?_) fun c5_ => ?_
  ·
   refine rC 39 (.bool true) rfl (congrArg Value.bool c5_) ?_
   replace c5_ := ne_of_bne c5_
   refine zTSR 1 <| bS [0] 1 0 [(4, .bool false)] <| zDNruttut <| rA rfl 0 (.bool false) fun w hT => ?_
   exact ⟨ret_bool (by first | exact (eqF_no (j := i) (by omega) (by omega) (by simp_all [span1])).symm | exact (eqF_len (by omega)).symm), hT.post rfl⟩
  refine rC 39 (.bool false) rfl (congrArg Value.bool c5_) ?_
  replace c5_ := eq_of_bne_false c5_
  refine zFKbNR 3 <| bD [0, 0] 2 1 [(16, iq (IntKind.i64.wrap ((i : Int) + 1)))] [15] <| wI 16 ((i : Int) + 1) <| bD [0] 3 0 [(5, iq ((i : Int) + 1))] [] <| zDN <| cA (i + 1) (show (i + 1) ≤ n ∧ ∀ j, j < (i + 1) → span1 (rget xs j) (rget xs' j) = true from ⟨by omega, fun j hj => by rcases Nat.lt_succ_iff_lt_or_eq.1 hj with h_ | h_; exact hns j h_; subst h_; simp_all [span1]⟩)
 refine zFXxxeNSR 1 <| bS [0] 1 0 [(4, .bool true)] <| zDNr <| rA rfl 0 (.bool true) fun w hT => ?_
 exact ⟨ret_bool (eqF_all (by omega) (fun j hj => hns j (by omega))).symm, hT.post rfl⟩
theorem refAdd (A : Option Addr) (g o n cap : Nat) (xs : List Int) (y : Int) (w : World) (hT0 : Tab w w [rD (A) g o n 1 (iV xs)]) (hrise : Rise xs) (hn : n ≤ 1000000000) :
    Calls Try.prog 89 #[.slice A n cap, iQ y] w fun e w' => (e = .returned (.slice A n cap) ∧ y ∈ xs ∧ Below w.heap.size w w') ∨ (y ∉ xs ∧ ∃ (A_ : Option Addr) (g_ k_ cp_ : Nat), e = .returned (.slice A_ k_ cp_) ∧ Tab w w' [.gen (rowE (A_) g_ k_ cp_ 3 1 (iV (addL' xs y)) true)]) := by
 obtain ⟨hra, hrl⟩ := Rd.facts (hT0.ok 0 _ rfl)
 refine eN [(0, .slice A n cap), (1, iq y)] Try.func89 Try.ntmps89 rfl hT0 ?_
 refine zSR 1 <| bD [0] 1 0 [] [4] <| zDNSR 1 <| bD [0] 1 0 [(5, .slice none 0 0)] [] <| zDNSR 1 <| bD [0] 1 0 [(6, .bool false)] [] <| zDNSSR 1 <| bD [0] 1 0 [(7, iq 0)] [] <| zDNB <| cont_nilrow 3 1 ?_
 refine cont_rowEq (k := .i64) 0 ([]) (insP xs y 0) rfl ((insP_zero _ _).symm) ?_
 refine cL (α := Nat × Nat × Option Addr × Nat × Nat × Bool) (fun x_ : Nat × Nat × Option Addr × Nat × Nat × Bool => x_.1 ≤ n ∧ x_.2.1 ≤ x_.1 + 1 ∧ (∀ j, j < x_.1 → xs.getD j 0 ≠ y) ∧ x_.2.2.2.2.2 = anyGt (xs.take x_.1) y ∧ (x_.2.2.2.2.2 = false → x_.2.1 ≤ x_.1)) (fun x_ : Nat × Nat × Option Addr × Nat × Nat × Bool => [(0, .slice A n cap), (1, iq y), (5, .slice x_.2.2.1 x_.2.1 x_.2.2.2.2.1), (6, .bool x_.2.2.2.2.2), (7, iq (x_.1 : Int))]) (fun x_ : Nat × Nat × Option Addr × Nat × Nat × Bool => [.gen (rowE (x_.2.2.1) x_.2.2.2.1 x_.2.1 x_.2.2.2.2.1 3 1 (iV (insP xs y x_.1)) true), rD (A) g o n 1 (iV xs)]) (fun x_ : Nat × Nat × Option Addr × Nat × Nat × Bool => n - x_.1) (0, 0, none, 0, 0, false) (show (0) ≤ n ∧ (0) ≤ (0) + 1 ∧ (∀ j, j < (0) → xs.getD j 0 ≠ y) ∧ (false) = anyGt (xs.take (0)) y ∧ ((false) = false → (0) ≤ (0)) from ⟨by omega, by omega, fun j hj => by omega, (anyGt_zero _ _).symm, fun _ => by omega⟩) ?_
 rintro ⟨i, kq, Aq, gq, cq, dn⟩ hinv2_
 replace hinv2_ : i ≤ n ∧ kq ≤ i + 1 ∧ (∀ j, j < i → xs.getD j 0 ≠ y) ∧ dn = anyGt (xs.take i) y ∧ (dn = false → kq ≤ i) := hinv2_
 obtain ⟨hi, hkq, hne, hdn, hkd⟩ := hinv2_
 refine zSSR 4 <| bD [0, 0, 0, 0] 4 0 [(11, .bool (decide ((i : Int) < (n : Int))))] [8, 9, 10] <| zDN <| sD 11 rfl (fun c3_ => ?_) fun c3_ => ?_
 ·
  refine cTr rfl <| cont_skip <| zN <| cSq <| cont_block <| zSSR 6 <| bD [0, 0] 2 4 [(14, .slice A n cap), (15, iq (i : Int))] [] <| pS 3 3 <| rC 14 (.slice (some ⟨g, o, none⟩) n cap) rfl (by rw [hra (by omega)]) <| sS 16 (Instr.indexAt 34 (.slice (some ⟨g, o, none⟩) n cap) (iq (i : Int))) (.pointer (some ⟨g, o + i, none⟩)) (fun w hT => rI 3 1 w) <| pS 4 2 <| sS 17 (Instr.loadAt 3 (.pointer (some ⟨g, o + i, none⟩))) (iq (xs.getD i 0)) (fun w hT => rL (Rd.cell (hT.ok 1 _ rfl) (i) _ (ivals_get (by omega)))) <| bD [0, 0] 6 0 [(19, .bool ((xs.getD i 0) == y))] [18] <| zDN <| sE 19 rfl (fun c4_ => ?_) fun c4_ => ?_
  ·
   refine zTSR 2 <| bS [0, 0] 2 0 [(4, .slice A n cap)] <| zDNrt <| blk_ret <| then_ret <| then_ret <| blk_ret <| then_ret ?_
   refine rA rfl 0 (.slice A n cap) fun w hT => ?_
   exact .inl ⟨by rw [hra (by omega)], by rw [← show xs.getD i 0 = y by assumption]; exact getD_mem (by omega), hT.post rfl⟩
  refine zFKNSSR 10 <| bD [0, 0, 0] 3 7 [(23, .bool (!dn))] [21, 22] <| cSp 23 _ rfl (fun c5_ => ?_) fun c5_ => ?_
  ·
   replace c5_ : dn = false := by simpa using c5_
   have hdf_ : dn = false := c5_
   have hkq2 := hkd hdf_
   refine bD [0, 0] 5 5 [(24, .slice A n cap), (25, iq (i : Int))] [] <| pS 6 4 <| rC 24 (.slice (some ⟨g, o, none⟩) n cap) rfl (by rw [hra (by omega)]) <| sS 26 (Instr.indexAt 34 (.slice (some ⟨g, o, none⟩) n cap) (iq (i : Int))) (.pointer (some ⟨g, o + i, none⟩)) (fun w hT => rI 3 1 w) <| pS 7 3 <| sS 27 (Instr.loadAt 3 (.pointer (some ⟨g, o + i, none⟩))) (iq (xs.getD i 0)) (fun w hT => rL (Rd.cell (hT.ok 1 _ rfl) (i) _ (ivals_get (by omega)))) <| bD [0, 0, 0] 10 0 [(28, iq y), (29, .bool (decide ((xs.getD i 0) > y))), (30, .bool (decide ((xs.getD i 0) > y)))] [] <| zDN <| cSp 30 _ rfl (fun c6_ => ?_) fun c6_ => ?_
   ·
    refine rC 29 (.bool true) rfl (congrArg Value.bool c6_) ?_
    replace c6_ := of_decide_eq_true c6_
    refine zTSR 5 <| bW [0, 0, 0] 3 2 (fun b7 => [(0, .slice A n cap), (1, iq y), (7, iq (i : Int)), (24, .slice (some ⟨g, o, none⟩) n cap), (25, iq (i : Int)), (26, .pointer (some ⟨g, o + i, none⟩)), (27, iq (xs.getD i 0)), (28, iq y), (29, .bool true), (31, .slice Aq kq cq), (33, .slice (pB b7) 1 1)]) (fun b7 => [.cells b7 [iq y] 3 true, .gen (rowE (Aq) gq kq cq 3 1 (iV (insP xs y i)) true), rD (A) g o n 1 (iV xs)]) [0, 1, 7, 24, 25, 26, 27, 28, 29, 31, 33] fun b7 => ?_
    refine pS 4 1 <| sSW (α := Option Addr × Nat × Nat) 34 (Builtin.append_ #[34, 34] 34 #[.slice Aq kq cq, .slice (pB b7) 1 1]) (fun x_ => .slice x_.1 (kq + 1) x_.2.2) (fun x_ => [.cells b7 [iq y] 3 true, .gen (rowE (x_.1) x_.2.1 (kq + 1) x_.2.2 3 1 (iV ((insP xs y i) ++ [y])) true), rD (A) g o n 1 (iV xs)]) (fun _ => True) (by kernel_rfl) (fun w hT => append_own (n' := (kq + 1)) (z := iq 0) hT (i := 1) (bytes := 8) rfl (by kernel_rfl) (by kernel_rfl) rfl (by decide) (by decide) (Rd.ofCells (vals := ivals .i64 [y]) (hT.ok 0 _ rfl) rfl rfl) (ivals_one .i64 [y]) (by omega) (ivals_append .i64 (insP xs y i) [y]) rfl) ?_
    rintro ⟨A8, g8, cp8⟩ -
    refine fI 1 (kq + 1) A8 g8 cp8 ((insP xs y i) ++ [y]) rfl fun hr9_a hr9_l hr9_c hr9_m => ?_
    refine bD [0] 5 0 [(5, .slice A8 (kq + 1) cp8)] [] <| fG 0 <| zDNR 1 <| bD [0] 1 0 [(6, .bool true)] [] <| zDNR 8 <| bD [0, 0, 0] 3 5 [(35, .slice A8 (kq + 1) cp8), (36, .slice A n cap), (37, iq (i : Int))] [] <| pS 4 4 <| rC 36 (.slice (some ⟨g, o, none⟩) n cap) rfl (by rw [hra (by omega)]) <| sS 38 (Instr.indexAt 34 (.slice (some ⟨g, o, none⟩) n cap) (iq (i : Int))) (.pointer (some ⟨g, o + i, none⟩)) (fun w hT => rI 3 1 w) <| pS 5 3 <| sS 39 (Instr.loadAt 3 (.pointer (some ⟨g, o + i, none⟩))) (iq (xs.getD i 0)) (fun w hT => rL (Rd.cell (hT.ok 1 _ rfl) (i) _ (ivals_get (by omega)))) <| bW [0] 6 2 (fun b10 => [(0, .slice A n cap), (1, iq y), (6, .bool true), (7, iq (i : Int)), (24, .slice (some ⟨g, o, none⟩) n cap), (25, iq (i : Int)), (26, .pointer (some ⟨g, o + i, none⟩)), (27, iq (xs.getD i 0)), (28, iq y), (29, .bool true), (35, .slice A8 (kq + 1) cp8), (40, .slice (pB b10) 1 1)]) (fun b10 => [.cells b10 [iq (xs.getD i 0)] 3 true, .gen (rowE (A8) g8 (kq + 1) cp8 3 1 (iV ((insP xs y i) ++ [y])) true), rD (A) g o n 1 (iV xs)]) [0, 1, 6, 7, 24, 25, 26, 27, 28, 29, 35, 40] fun b10 => ?_
    refine pS 7 1 <| sSW (α := Option Addr × Nat × Nat) 41 (Builtin.append_ #[34, 34] 34 #[.slice A8 (kq + 1) cp8, .slice (pB b10) 1 1]) (fun x_ => .slice x_.1 ((kq + 1) + 1) x_.2.2) (fun x_ => [.cells b10 [iq (xs.getD i 0)] 3 true, .gen (rowE (x_.1) x_.2.1 ((kq + 1) + 1) x_.2.2 3 1 (iV (((insP xs y i) ++ [y]) ++ [xs.getD i 0])) true), rD (A) g o n 1 (iV xs)]) (fun _ => True) (by kernel_rfl) (fun w hT => append_own (n' := ((kq + 1) + 1)) (z := iq 0) hT (i := 1) (bytes := 8) rfl (by kernel_rfl) (by kernel_rfl) rfl (by decide) (by decide) (Rd.ofCells (vals := ivals .i64 [xs.getD i 0]) (hT.ok 0 _ rfl) rfl rfl) (ivals_one .i64 [xs.getD i 0]) (by omega) (ivals_append .i64 ((insP xs y i) ++ [y]) [xs.getD i 0]) rfl) ?_
    rintro ⟨A11, g11, cp11⟩ -
    refine fI 1 ((kq + 1) + 1) A11 g11 cp11 (((insP xs y i) ++ [y]) ++ [xs.getD i 0]) rfl fun hr12_a hr12_l hr12_c hr12_m => ?_
    refine bD [0] 8 0 [(5, .slice A11 ((kq + 1) + 1) cp11)] [] <| fG 0 <| zDbNR 3 <| bD [0, 0] 2 1 [(13, iq (IntKind.i64.wrap ((i : Int) + 1)))] [12] <| wI 13 ((i : Int) + 1) <| bS [0] 3 0 [(0, .slice A n cap), (1, iq y), (5, .slice A11 ((kq + 1) + 1) cp11), (6, .bool true), (7, iq ((i : Int) + 1)), (24, .slice (some ⟨g, o, none⟩) n cap), (25, iq (i : Int)), (26, .pointer (some ⟨g, o + i, none⟩)), (27, iq (xs.getD i 0)), (28, iq y), (29, .bool true)] <| zDN <| cont_rowEq (k := .i64) 0 (((insP xs y i) ++ [y]) ++ [xs.getD i 0]) (insP xs y (i + 1)) rfl (insP_gt (by omega) (hdn ▸ hdf_) (by omega) hne) ?_
    refine cA (i + 1, ((kq + 1) + 1), A11, g11, cp11, true) (show (i + 1) ≤ n ∧ (((kq + 1) + 1)) ≤ (i + 1) + 1 ∧ (∀ j, j < (i + 1) → xs.getD j 0 ≠ y) ∧ (true) = anyGt (xs.take (i + 1)) y ∧ ((true) = false → (((kq + 1) + 1)) ≤ (i + 1)) from ⟨by omega, by omega, fun j hj => by rcases Nat.lt_succ_iff_lt_or_eq.1 hj with h_ | h_; exact hne j h_; subst h_; assumption, by rw [anyGt_succ (by omega), decide_eq_true (by omega)]; simp, fun h_ => by first | exact absurd h_ (by decide) | (rw [hdt_] at h_; cases h_) | (have := hkd hdf_; omega)⟩)
   refine rC 29 (.bool false) rfl (congrArg Value.bool c6_) ?_
   replace c6_ := of_decide_eq_false c6_
   refine cFa rfl <| cont_skip <| zN <| cRg 8 rfl <| bD [0, 0, 0] 3 5 [(35, .slice Aq kq cq), (36, .slice A n cap), (37, iq (i : Int))] [] <| pS 4 4 <| rC 36 (.slice (some ⟨g, o, none⟩) n cap) rfl (by rw [hra (by omega)]) <| sS 38 (Instr.indexAt 34 (.slice (some ⟨g, o, none⟩) n cap) (iq (i : Int))) (.pointer (some ⟨g, o + i, none⟩)) (fun w hT => rI 3 1 w) <| pS 5 3 <| sS 39 (Instr.loadAt 3 (.pointer (some ⟨g, o + i, none⟩))) (iq (xs.getD i 0)) (fun w hT => rL (Rd.cell (hT.ok 1 _ rfl) (i) _ (ivals_get (by omega)))) <| bW [0] 6 2 (fun b13 => [(0, .slice A n cap), (1, iq y), (6, .bool dn), (7, iq (i : Int)), (24, .slice (some ⟨g, o, none⟩) n cap), (25, iq (i : Int)), (26, .pointer (some ⟨g, o + i, none⟩)), (27, iq (xs.getD i 0)), (28, iq y), (29, .bool false), (35, .slice Aq kq cq), (40, .slice (pB b13) 1 1)]) (fun b13 => [.cells b13 [iq (xs.getD i 0)] 3 true, .gen (rowE (Aq) gq kq cq 3 1 (iV (insP xs y i)) true), rD (A) g o n 1 (iV xs)]) [0, 1, 6, 7, 24, 25, 26, 27, 28, 29, 35, 40] fun b13 => ?_
   refine pS 7 1 <| sSW (α := Option Addr × Nat × Nat) 41 (Builtin.append_ #[34, 34] 34 #[.slice Aq kq cq, .slice (pB b13) 1 1]) (fun x_ => .slice x_.1 (kq + 1) x_.2.2) (fun x_ => [.cells b13 [iq (xs.getD i 0)] 3 true, .gen (rowE (x_.1) x_.2.1 (kq + 1) x_.2.2 3 1 (iV ((insP xs y i) ++ [xs.getD i 0])) true), rD (A) g o n 1 (iV xs)]) (fun _ => True) (by kernel_rfl) (fun w hT => append_own (n' := (kq + 1)) (z := iq 0) hT (i := 1) (bytes := 8) rfl (by kernel_rfl) (by kernel_rfl) rfl (by decide) (by decide) (Rd.ofCells (vals := ivals .i64 [xs.getD i 0]) (hT.ok 0 _ rfl) rfl rfl) (ivals_one .i64 [xs.getD i 0]) (by omega) (ivals_append .i64 (insP xs y i) [xs.getD i 0]) rfl) ?_
   rintro ⟨A14, g14, cp14⟩ -
   refine fI 1 (kq + 1) A14 g14 cp14 ((insP xs y i) ++ [xs.getD i 0]) rfl fun hr15_a hr15_l hr15_c hr15_m => ?_
   refine bD [0] 8 0 [(5, .slice A14 (kq + 1) cp14)] [] <| fG 0 <| zDbNR 3 <| bD [0, 0] 2 1 [(13, iq (IntKind.i64.wrap ((i : Int) + 1)))] [12] <| wI 13 ((i : Int) + 1) <| bD [0] 3 0 [(7, iq ((i : Int) + 1))] [] <| zDN ?_
   have hst_ : insP xs y i ++ [xs.getD i 0] = insP xs y (i + 1) ∧ anyGt (xs.take (i + 1)) y = dn := by
     rw [hdf_]; exact insP_low (by omega) (hdn.symm.trans hdf_) (by omega)
   refine cont_rowEq (k := .i64) 0 ((insP xs y i) ++ [xs.getD i 0]) (insP xs y (i + 1)) rfl hst_.1 ?_
   refine cA (i + 1, (kq + 1), A14, g14, cp14, dn) (show (i + 1) ≤ n ∧ ((kq + 1)) ≤ (i + 1) + 1 ∧ (∀ j, j < (i + 1) → xs.getD j 0 ≠ y) ∧ (dn) = anyGt (xs.take (i + 1)) y ∧ ((dn) = false → ((kq + 1)) ≤ (i + 1)) from ⟨by omega, by omega, fun j hj => by rcases Nat.lt_succ_iff_lt_or_eq.1 hj with h_ | h_; exact hne j h_; subst h_; assumption, by rw [hst_.2, hdf_], fun h_ => by first | exact absurd h_ (by decide) | (rw [hdt_] at h_; cases h_) | (have := hkd hdf_; omega)⟩)
  replace c5_ : dn = true := by simpa using c5_
  have hdt_ : dn = true := c5_
  refine bD [0, 0, 0, 0, 0, 0, 0] 10 0 [(24, undef), (25, undef), (26, undef), (27, undef), (28, undef), (29, undef), (30, .bool false)] [] <| zDN <| cFa rfl <| cont_skip <| zN <| cRg 8 rfl <| bD [0, 0, 0] 3 5 [(35, .slice Aq kq cq), (36, .slice A n cap), (37, iq (i : Int))] [] <| pS 4 4 <| rC 36 (.slice (some ⟨g, o, none⟩) n cap) rfl (by rw [hra (by omega)]) <| sS 38 (Instr.indexAt 34 (.slice (some ⟨g, o, none⟩) n cap) (iq (i : Int))) (.pointer (some ⟨g, o + i, none⟩)) (fun w hT => rI 3 1 w) <| pS 5 3 <| sS 39 (Instr.loadAt 3 (.pointer (some ⟨g, o + i, none⟩))) (iq (xs.getD i 0)) (fun w hT => rL (Rd.cell (hT.ok 1 _ rfl) (i) _ (ivals_get (by omega)))) <| bW [0] 6 2 (fun b16 => [(0, .slice A n cap), (1, iq y), (6, .bool dn), (7, iq (i : Int)), (24, undef), (25, undef), (26, undef), (27, undef), (28, undef), (29, undef), (35, .slice Aq kq cq), (40, .slice (pB b16) 1 1)]) (fun b16 => [.cells b16 [iq (xs.getD i 0)] 3 true, .gen (rowE (Aq) gq kq cq 3 1 (iV (insP xs y i)) true), rD (A) g o n 1 (iV xs)]) [0, 1, 6, 7, 24, 25, 26, 27, 28, 29, 35, 40] fun b16 => ?_
  refine pS 7 1 <| sSW (α := Option Addr × Nat × Nat) 41 (Builtin.append_ #[34, 34] 34 #[.slice Aq kq cq, .slice (pB b16) 1 1]) (fun x_ => .slice x_.1 (kq + 1) x_.2.2) (fun x_ => [.cells b16 [iq (xs.getD i 0)] 3 true, .gen (rowE (x_.1) x_.2.1 (kq + 1) x_.2.2 3 1 (iV ((insP xs y i) ++ [xs.getD i 0])) true), rD (A) g o n 1 (iV xs)]) (fun _ => True) (by kernel_rfl) (fun w hT => append_own (n' := (kq + 1)) (z := iq 0) hT (i := 1) (bytes := 8) rfl (by kernel_rfl) (by kernel_rfl) rfl (by decide) (by decide) (Rd.ofCells (vals := ivals .i64 [xs.getD i 0]) (hT.ok 0 _ rfl) rfl rfl) (ivals_one .i64 [xs.getD i 0]) (by omega) (ivals_append .i64 (insP xs y i) [xs.getD i 0]) rfl) ?_
  rintro ⟨A17, g17, cp17⟩ -
  refine fI 1 (kq + 1) A17 g17 cp17 ((insP xs y i) ++ [xs.getD i 0]) rfl fun hr18_a hr18_l hr18_c hr18_m => ?_
  refine bD [0] 8 0 [(5, .slice A17 (kq + 1) cp17)] [] <| fG 0 <| zDbNR 3 <| bD [0, 0] 2 1 [(13, iq (IntKind.i64.wrap ((i : Int) + 1)))] [12] <| wI 13 ((i : Int) + 1) <| bD [0] 3 0 [(7, iq ((i : Int) + 1))] [] <| zDN ?_
  have hst_ : insP xs y i ++ [xs.getD i 0] = insP xs y (i + 1) ∧ anyGt (xs.take (i + 1)) y = dn := by
    rw [hdt_]; exact insP_on hrise (by omega) (hdn.symm.trans hdt_)
  refine cont_rowEq (k := .i64) 0 ((insP xs y i) ++ [xs.getD i 0]) (insP xs y (i + 1)) rfl hst_.1 ?_
  refine cA (i + 1, (kq + 1), A17, g17, cp17, dn) (show (i + 1) ≤ n ∧ ((kq + 1)) ≤ (i + 1) + 1 ∧ (∀ j, j < (i + 1) → xs.getD j 0 ≠ y) ∧ (dn) = anyGt (xs.take (i + 1)) y ∧ ((dn) = false → ((kq + 1)) ≤ (i + 1)) from ⟨by omega, by omega, fun j hj => by rcases Nat.lt_succ_iff_lt_or_eq.1 hj with h_ | h_; exact hne j h_; subst h_; assumption, by rw [hst_.2, hdt_], fun h_ => by first | exact absurd h_ (by decide) | (rw [hdt_] at h_; cases h_) | (have := hkd hdf_; omega)⟩)
 refine cFa rfl <| cont_exit <| then_exit <| then_exit <| blk_exit <| zN <| zSSR 2 <| bD [0, 0] 2 0 [(43, .bool (!dn))] [42] <| zDN <| cSp 43 _ rfl (fun c19_ => ?_) fun c19_ => ?_
 ·
  replace c19_ : dn = false := by simpa using c19_
  have hdf_ : dn = false := c19_
  have hkq2 := hkd hdf_
  refine cTr rfl <| cRg 5 rfl ?_
  refine bW [0, 0, 0] 3 2 (fun b20 => [(44, .slice Aq kq cq), (46, .slice (pB b20) 1 1)]) (fun b20 => [.cells b20 [iq y] 3 true, .gen (rowE (Aq) gq kq cq 3 1 (iV (insP xs y i)) true), rD (A) g o n 1 (iV xs)]) [44, 46] fun b20 => ?_
  refine pS 4 1 <| sSW (α := Option Addr × Nat × Nat) 47 (Builtin.append_ #[34, 34] 34 #[.slice Aq kq cq, .slice (pB b20) 1 1]) (fun x_ => .slice x_.1 (kq + 1) x_.2.2) (fun x_ => [.cells b20 [iq y] 3 true, .gen (rowE (x_.1) x_.2.1 (kq + 1) x_.2.2 3 1 (iV ((insP xs y i) ++ [y])) true), rD (A) g o n 1 (iV xs)]) (fun _ => True) (by kernel_rfl) (fun w hT => append_own (n' := (kq + 1)) (z := iq 0) hT (i := 1) (bytes := 8) rfl (by kernel_rfl) (by kernel_rfl) rfl (by decide) (by decide) (Rd.ofCells (vals := ivals .i64 [y]) (hT.ok 0 _ rfl) rfl rfl) (ivals_one .i64 [y]) (by omega) (ivals_append .i64 (insP xs y i) [y]) rfl) ?_
  rintro ⟨A21, g21, cp21⟩ -
  refine fI 1 (kq + 1) A21 g21 cp21 ((insP xs y i) ++ [y]) rfl fun hr22_a hr22_l hr22_c hr22_m => ?_
  refine bS [0] 5 0 [(5, .slice A21 (kq + 1) cp21)] <| fG 0 <| zDNSR 2 <| bS [0, 0] 2 0 [(4, .slice A21 (kq + 1) cp21)] <| zDNr <| rA rfl 0 (.slice A21 (kq + 1) cp21) fun w hT => ?_
  replace hT := hT.erase 1 (fun e h hw => by cases h; first | rfl | cases hw)
  refine .inr ⟨notin (i := i) (by omega) hne, ?_⟩
  rw [insP_last (by omega) (hdn.symm.trans hdf_) hne] at hT
  exact ⟨_, _, _, _, rfl, hT⟩
 replace c19_ : dn = true := by simpa using c19_
 have hdt_ : dn = true := c19_
 refine zFKNSR 2 <| bS [0, 0] 2 0 [(4, .slice Aq kq cq)] <| zDNr <| rA rfl 0 (.slice Aq kq cq) fun w hT => ?_
 replace hT := hT.erase 1 (fun e h hw => by cases h; first | rfl | cases hw)
 refine .inr ⟨notin (i := i) (by omega) hne, ?_⟩
 rw [insP_end (by omega) (hdn.symm.trans hdt_) hne] at hT
 exact ⟨_, _, _, _, rfl, hT⟩
theorem refMerge (A : Option Addr) (g o n cap : Nat) (xs : List Rect) (A' : Option Addr) (g' o' n' cap' : Nat) (xs' : List Rect) (how : Int) (w : World) (hT0 : Tab w w [rD (A) g o n 4 (rvals xs), rD (A') g' o' n' 4 (rvals xs')]) (hn : n + n' ≤ 262144) :
    Calls Try.prog 64 #[.slice A n cap, .slice A' n' cap', iQ how] w fun e w' => ∃ (A_ : Option Addr) (g_ k_ cp_ : Nat), e = .returned (.slice A_ k_ cp_) ∧ Tab w w' [.gen (rowE (A_) g_ k_ cp_ 53 4 (rvals (regM (docK how) xs xs')) true)] := by
 obtain ⟨hra, hrl⟩ := Rd.factsR (hT0.ok 0 _ rfl)
 obtain ⟨hra', hrl'⟩ := Rd.factsR (hT0.ok 1 _ rfl)
 refine eN [(0, .slice A n cap), (1, .slice A' n' cap'), (2, iq how)] Try.func64 Try.ntmps64 rfl hT0 ?_
 refine zSR 1 <| bD [0] 1 0 [] [6] <| zDNSR 1 <| bD [0] 1 0 [(7, .slice none 0 0)] [] <| zDNSR 1 <| bS [0] 1 0 [(0, .slice A n cap), (1, .slice A' n' cap'), (2, iq how), (7, .slice none 0 0), (8, .slice none 0 0)] <| zDNSSR 1 <| bD [0] 1 0 [(9, iq 0)] [] <| zDNB <| cont_nilrow 3 1 ?_
 refine cM ?_
 refine cont_nilrow 3 1 ?_
 refine nL [(0, .slice A n cap), (1, .slice A' n' cap'), (2, iq how), (7, .slice none 0 0), (8, .slice none 0 0), (9, iq 0)] ?_
 refine cont_rowEq (k := .i64) 1 ([]) (gx (xs ++ xs') 0) rfl ((gx_zero _).symm) ?_
 refine cont_rowEq (k := .i64) 0 ([]) (gy (xs ++ xs') 0) rfl ((gy_zero _).symm) ?_
 refine cL (α := Nat × Nat × Option Addr × Nat × Nat × Nat × Option Addr × Nat × Nat) (fun x_ : Nat × Nat × Option Addr × Nat × Nat × Nat × Option Addr × Nat × Nat => x_.1 ≤ n + n') (fun x_ : Nat × Nat × Option Addr × Nat × Nat × Nat × Option Addr × Nat × Nat => [(0, .slice A n cap), (1, .slice A' n' cap'), (2, iq how), (7, .slice x_.2.2.1 x_.2.1 x_.2.2.2.2.1), (8, .slice x_.2.2.2.2.2.2.1 x_.2.2.2.2.2.1 x_.2.2.2.2.2.2.2.2), (9, iq (x_.1 : Int))]) (fun x_ : Nat × Nat × Option Addr × Nat × Nat × Nat × Option Addr × Nat × Nat => [.gen (rowE (x_.2.2.2.2.2.2.1) x_.2.2.2.2.2.2.2.1 x_.2.2.2.2.2.1 x_.2.2.2.2.2.2.2.2 3 1 (iV (gy (xs ++ xs') x_.1)) true), .gen (rowE (x_.2.2.1) x_.2.2.2.1 x_.2.1 x_.2.2.2.2.1 3 1 (iV (gx (xs ++ xs') x_.1)) true), rD (A) g o n 4 (rvals xs), rD (A') g' o' n' 4 (rvals xs')]) (fun x_ : Nat × Nat × Option Addr × Nat × Nat × Nat × Option Addr × Nat × Nat => n + n' - x_.1) (0, 0, none, 0, 0, 0, none, 0, 0) (show (0) ≤ n + n' from (by omega)) ?_
 rintro ⟨i, kx, Ax, gx_, cx, ky, Ay, gy_, cy⟩ hinv3_
 replace hinv3_ : i ≤ n + n' := hinv3_
 refine cM ?_
 have hi := hinv3_
 have hrx := gx_rise (xs ++ xs') i
 have hry := gy_rise (xs ++ xs') i
 have hlx := gx_length (xs ++ xs') i
 have hly := gy_length (xs ++ xs') i
 have hab : (xs ++ xs').length = n + n' := by rw [List.length_append]; omega
 refine zSSR 7 <| bD [0, 0, 0, 0, 0, 0] 6 1 [(19, iq (i : Int)), (24, iq (IntKind.i64.wrap ((n : Int) + ((n' : Nat) : Int))))] [20, 21, 22, 23] <| wI 24 ((n : Int) + ((n' : Nat) : Int)) <| bS [0] 7 0 [(0, .slice A n cap), (1, .slice A' n' cap'), (2, iq how), (7, .slice Ax kx cx), (8, .slice Ay ky cy), (9, iq (i : Int)), (25, .bool (decide ((i : Int) < ((n : Int) + ((n' : Nat) : Int)))))] <| zDN <| sD 25 rfl (fun c4_ => ?_) fun c4_ => ?_
 ·
  refine zTKNSBSR 1 <| bW [0] 1 0 (fun b5 => [(0, .slice A n cap), (1, .slice A' n' cap'), (2, iq how), (7, .slice Ax kx cx), (8, .slice Ay ky cy), (9, iq (i : Int)), (10, .pointer (pB b5))]) (fun b5 => [.cells b5 [iq 0, iq 0, iq 0, iq 0] 53 true, .gen (rowE (Ay) gy_ ky cy 3 1 (iV (gy (xs ++ xs') i)) true), .gen (rowE (Ax) gx_ kx cx 3 1 (iV (gx (xs ++ xs') i)) true), rD (A) g o n 4 (rvals xs), rD (A') g' o' n' 4 (rvals xs')]) [0, 1, 2, 7, 8, 9, 10] fun b5 => ?_
  refine zDNSSR 4 <| bD [0, 0, 0, 0] 4 0 [(31, .bool (decide ((i : Int) < (n : Int))))] [28, 29, 30] <| zDN <| sD 31 rfl (fun c6_ => ?_) fun c6_ => ?_
  ·
   refine cTr rfl <| cRg 5 rfl <| bD [0, 0] 2 3 [(32, .slice A n cap), (33, iq (i : Int))] [] <| pS 3 2 <| rC 32 (.slice (some ⟨g, o, none⟩) n cap) rfl (by rw [hra (by omega)]) <| sS 34 (Instr.indexAt 58 (.slice (some ⟨g, o, none⟩) n cap) (iq (i : Int))) (.pointer (some ⟨g, o + i * 4, none⟩)) (fun w hT => rI 53 4 w) <| pS 4 1 <| sS 35 (Instr.loadAt 53 (.pointer (some ⟨g, o + i * 4, none⟩))) (.agg #[iq ((rget xs i).x0), iq ((rget xs i).y0), iq ((rget xs i).x1), iq ((rget xs i).y1)]) (fun w hT => rM 4 (rcells (rget xs i)) (Rd.rect (hT.ok 3 _ rfl) (by omega))) <| bZ [0] 5 0 [(0, .slice A n cap), (1, .slice A' n' cap'), (2, iq how), (7, .slice Ax kx cx), (8, .slice Ay ky cy), (9, iq (i : Int)), (10, .pointer (pB b5))] [.cells b5 [iq ((rget xs i).x0), iq ((rget xs i).y0), iq ((rget xs i).x1), iq ((rget xs i).y1)] 53 true, .gen (rowE (Ay) gy_ ky cy 3 1 (iV (gy (xs ++ xs') i)) true), .gen (rowE (Ax) gx_ kx cx 3 1 (iV (gx (xs ++ xs') i)) true), rD (A) g o n 4 (rvals xs), rD (A') g' o' n' 4 (rvals xs')] <| zDNSSR 2 ?_
   have hel_ : (rget xs i) = rget (xs ++ xs') i := by rw [rget_append, if_pos (by omega)]
   refine cont_norm [(0, .slice A n cap), (1, .slice A' n' cap'), (2, iq how), (7, .slice Ax kx cx), (8, .slice Ay ky cy), (9, iq (i : Int)), (10, .pointer (pB b5))] [.cells b5 [iq ((rget (xs ++ xs') i).x0), iq ((rget (xs ++ xs') i).y0), iq ((rget (xs ++ xs') i).x1), iq ((rget (xs ++ xs') i).y1)] 53 true, .gen (rowE (Ay) gy_ ky cy 3 1 (iV (gy (xs ++ xs') i)) true), .gen (rowE (Ax) gx_ kx cx 3 1 (iV (gx (xs ++ xs') i)) true), rD (A) g o n 4 (rvals xs), rD (A') g' o' n' 4 (rvals xs')] (by kernel_rfl) (by rw [hel_]) ?_
   refine bS [0] 1 1 [(0, .slice A n cap), (1, .slice A' n' cap'), (2, iq how), (7, .slice Ax kx cx), (8, .slice Ay ky cy), (9, iq (i : Int)), (10, .pointer (pB b5)), (43, .agg #[iq ((rget (xs ++ xs') i).x0), iq ((rget (xs ++ xs') i).y0), iq ((rget (xs ++ xs') i).x1), iq ((rget (xs ++ xs') i).y1)])] <| pS 2 0 <| cP 44 (.bool (emptyB ((rget (xs ++ xs') i).x0) ((rget (xs ++ xs') i).y0) ((rget (xs ++ xs') i).x1) ((rget (xs ++ xs') i).y1))) (fun w hT => refEmpty ((rget (xs ++ xs') i).x0) ((rget (xs ++ xs') i).y0) ((rget (xs ++ xs') i).x1) ((rget (xs ++ xs') i).y1) w) <| zDN <| cSp 44 _ rfl (fun c7_ => ?_) fun c7_ => ?_
   ·
    have hem_ : emptyR (rget (xs ++ xs') i) = true := c7_
    refine cTr rfl <| cont_exit <| then_exit <| blk_exit <| zN <| cRg 3 rfl <| bD [0, 0] 2 1 [(27, iq (IntKind.i64.wrap ((i : Int) + 1)))] [26] <| wI 27 ((i : Int) + 1) <| fG 0 <| bD [0] 3 0 [(9, iq ((i : Int) + 1))] [] <| zDN <| cont_rowEq (k := .i64) 1 (gx (xs ++ xs') i) (gx (xs ++ xs') (i + 1)) rfl (gx_skip (by omega) hem_) ?_
    refine cont_rowEq (k := .i64) 0 (gy (xs ++ xs') i) (gy (xs ++ xs') (i + 1)) rfl (gy_skip (by omega) hem_) ?_
    refine cA (i + 1, kx, Ax, gx_, cx, ky, Ay, gy_, cy) (show (i + 1) ≤ n + n' from (by omega))
   have hem_ : emptyR (rget (xs ++ xs') i) = false := c7_
   refine cFa rfl <| cont_skip <| zN <| cSq ?_
   refine fI 2 kx Ax gx_ cx (gx (xs ++ xs') i) rfl fun hr8_a hr8_l hr8_c hr8_m => ?_
   refine fI 1 ky Ay gy_ cy (gy (xs ++ xs') i) rfl fun hr9_a hr9_l hr9_c hr9_m => ?_
   refine drawn_enter 8 [2] rfl (by kernel_rfl) ?_
   refine tD 0 [2] [(0, 0), (1, 0), (4, 0), (2, 0), (5, 0)] 3 [5, 2, 4, 1, 0] [(45, .slice Ax kx cx), (47, iq ((rget (xs ++ xs') i).x0)), (50, iq ((rget (xs ++ xs') i).x1))] [46, 49] <| dO 3 2 <| cG (d := 48) (α := Option Addr × Nat × Nat × Nat) (fun x_ => .slice x_.1 x_.2.2.1 x_.2.2.2) (fun x_ => [.cells b5 [iq ((rget (xs ++ xs') i).x0), iq ((rget (xs ++ xs') i).y0), iq ((rget (xs ++ xs') i).x1), iq ((rget (xs ++ xs') i).y1)] 53 true, .gen (rowE (Ay) gy_ ky cy 3 1 (iV (gy (xs ++ xs') i)) true), .gen (rowE (x_.1) x_.2.1 x_.2.2.1 x_.2.2.2 3 1 (iV (addL' (gx (xs ++ xs') i) ((rget (xs ++ xs') i).x0))) true), rD (A) g o n 4 (rvals xs), rD (A') g' o' n' 4 (rvals xs')]) (fun x_ => True) (fun w hT => (refAdd Ax gx_ 0 kx cx (gx (xs ++ xs') i) ((rget (xs ++ xs') i).x0) w (hT.viewRo (.cons (i := 2) rfl Vw.rowRd .nil) rfl) (by assumption) (by omega)).mono fun e w' hh_ => by
     rcases hh_ with ⟨he_, hm_, hb_⟩ | ⟨hm_, A_, g_, k_, c_, he_, ht_⟩
     · exact ⟨(Ax, gx_, kx, cx), he_, trivial, hT.moved (i := 2) rfl (.inl ⟨rfl, rfl, rfl, rfl, by rw [addL', if_pos hm_], hb_⟩)⟩
     · exact ⟨(A_, g_, k_, c_), he_, trivial, hT.moved (i := 2) rfl (.inr ht_)⟩) ?_
   rintro ⟨A10, g10, k10, cp10⟩ -
   refine cM ?_
   refine fI 2 k10 A10 g10 cp10 (addL' (gx (xs ++ xs') i) ((rget (xs ++ xs') i).x0)) rfl fun hr11_a hr11_l hr11_c hr11_m => ?_
   have hrl10 := addL'_length (gx (xs ++ xs') i) ((rget (xs ++ xs') i).x0) (by assumption : Rise (gx (xs ++ xs') i))
   have hri10 := addL'_rise (by assumption : Rise (gx (xs ++ xs') i)) ((rget (xs ++ xs') i).x0)
   refine dX 0 [2] <| dO 6 1 <| cG (d := 51) (α := Option Addr × Nat × Nat × Nat) (fun x_ => .slice x_.1 x_.2.2.1 x_.2.2.2) (fun x_ => [.cells b5 [iq ((rget (xs ++ xs') i).x0), iq ((rget (xs ++ xs') i).y0), iq ((rget (xs ++ xs') i).x1), iq ((rget (xs ++ xs') i).y1)] 53 true, .gen (rowE (Ay) gy_ ky cy 3 1 (iV (gy (xs ++ xs') i)) true), .gen (rowE (x_.1) x_.2.1 x_.2.2.1 x_.2.2.2 3 1 (iV (addL' (addL' (gx (xs ++ xs') i) ((rget (xs ++ xs') i).x0)) ((rget (xs ++ xs') i).x1))) true), rD (A) g o n 4 (rvals xs), rD (A') g' o' n' 4 (rvals xs')]) (fun x_ => True) (fun w hT => (refAdd A10 g10 0 k10 cp10 (addL' (gx (xs ++ xs') i) ((rget (xs ++ xs') i).x0)) ((rget (xs ++ xs') i).x1) w (hT.viewRo (.cons (i := 2) rfl Vw.rowRd .nil) rfl) (by assumption) (by omega)).mono fun e w' hh_ => by
     rcases hh_ with ⟨he_, hm_, hb_⟩ | ⟨hm_, A_, g_, k_, c_, he_, ht_⟩
     · exact ⟨(A10, g10, k10, cp10), he_, trivial, hT.moved (i := 2) rfl (.inl ⟨rfl, rfl, rfl, rfl, by rw [addL', if_pos hm_], hb_⟩)⟩
     · exact ⟨(A_, g_, k_, c_), he_, trivial, hT.moved (i := 2) rfl (.inr ht_)⟩) ?_
   rintro ⟨A12, g12, k12, cp12⟩ -
   refine nL [(0, .slice A n cap), (1, .slice A' n' cap'), (2, iq how), (7, .slice Ax kx cx), (8, .slice Ay ky cy), (9, iq (i : Int)), (10, .pointer (pB b5)), (45, .slice Ax kx cx), (47, iq ((rget (xs ++ xs') i).x0)), (48, .slice A10 k10 cp10), (50, iq ((rget (xs ++ xs') i).x1)), (51, .slice A12 k12 cp12)] ?_
   refine fI 2 k12 A12 g12 cp12 (addL' (addL' (gx (xs ++ xs') i) ((rget (xs ++ xs') i).x0)) ((rget (xs ++ xs') i).x1)) rfl fun hr13_a hr13_l hr13_c hr13_m => ?_
   have hrl12 := addL'_length (addL' (gx (xs ++ xs') i) ((rget (xs ++ xs') i).x0)) ((rget (xs ++ xs') i).x1) (by assumption : Rise (addL' (gx (xs ++ xs') i) ((rget (xs ++ xs') i).x0)))
   have hri12 := addL'_rise (by assumption : Rise (addL' (gx (xs ++ xs') i) ((rget (xs ++ xs') i).x0))) ((rget (xs ++ xs') i).x1)
   refine dX 0 [2] <| tD 0 [2] [(7, 0)] 0 [7, 6, 3, 5, 2, 4, 1, 0] [(7, .slice A12 k12 cp12)] [] <| dD <| zN <| drawn_enter 8 [1] rfl (by kernel_rfl) ?_
   refine tD 0 [1] [(0, 0), (1, 0), (4, 0), (2, 0), (5, 0)] 3 [5, 2, 4, 1, 0] [(52, .slice Ay ky cy), (54, iq ((rget (xs ++ xs') i).y0)), (57, iq ((rget (xs ++ xs') i).y1))] [53, 56] <| dO 3 2 <| cG (d := 55) (α := Option Addr × Nat × Nat × Nat) (fun x_ => .slice x_.1 x_.2.2.1 x_.2.2.2) (fun x_ => [.cells b5 [iq ((rget (xs ++ xs') i).x0), iq ((rget (xs ++ xs') i).y0), iq ((rget (xs ++ xs') i).x1), iq ((rget (xs ++ xs') i).y1)] 53 true, .gen (rowE (x_.1) x_.2.1 x_.2.2.1 x_.2.2.2 3 1 (iV (addL' (gy (xs ++ xs') i) ((rget (xs ++ xs') i).y0))) true), .gen (rowE (A12) g12 k12 cp12 3 1 (iV (addL' (addL' (gx (xs ++ xs') i) ((rget (xs ++ xs') i).x0)) ((rget (xs ++ xs') i).x1))) true), rD (A) g o n 4 (rvals xs), rD (A') g' o' n' 4 (rvals xs')]) (fun x_ => True) (fun w hT => (refAdd Ay gy_ 0 ky cy (gy (xs ++ xs') i) ((rget (xs ++ xs') i).y0) w (hT.viewRo (.cons (i := 1) rfl Vw.rowRd .nil) rfl) (by assumption) (by omega)).mono fun e w' hh_ => by
     rcases hh_ with ⟨he_, hm_, hb_⟩ | ⟨hm_, A_, g_, k_, c_, he_, ht_⟩
     · exact ⟨(Ay, gy_, ky, cy), he_, trivial, hT.moved (i := 1) rfl (.inl ⟨rfl, rfl, rfl, rfl, by rw [addL', if_pos hm_], hb_⟩)⟩
     · exact ⟨(A_, g_, k_, c_), he_, trivial, hT.moved (i := 1) rfl (.inr ht_)⟩) ?_
   rintro ⟨A14, g14, k14, cp14⟩ -
   refine nL [(0, .slice A n cap), (1, .slice A' n' cap'), (2, iq how), (7, .slice A12 k12 cp12), (8, .slice Ay ky cy), (9, iq (i : Int)), (52, .slice Ay ky cy), (54, iq ((rget (xs ++ xs') i).y0)), (55, .slice A14 k14 cp14), (57, iq ((rget (xs ++ xs') i).y1))] ?_
   refine fI 1 k14 A14 g14 cp14 (addL' (gy (xs ++ xs') i) ((rget (xs ++ xs') i).y0)) rfl fun hr15_a hr15_l hr15_c hr15_m => ?_
   have hrl14 := addL'_length (gy (xs ++ xs') i) ((rget (xs ++ xs') i).y0) (by assumption : Rise (gy (xs ++ xs') i))
   have hri14 := addL'_rise (by assumption : Rise (gy (xs ++ xs') i)) ((rget (xs ++ xs') i).y0)
   refine dX 0 [1] <| dO 6 1 <| cG (d := 58) (α := Option Addr × Nat × Nat × Nat) (fun x_ => .slice x_.1 x_.2.2.1 x_.2.2.2) (fun x_ => [.cells b5 [iq ((rget (xs ++ xs') i).x0), iq ((rget (xs ++ xs') i).y0), iq ((rget (xs ++ xs') i).x1), iq ((rget (xs ++ xs') i).y1)] 53 true, .gen (rowE (x_.1) x_.2.1 x_.2.2.1 x_.2.2.2 3 1 (iV (addL' (addL' (gy (xs ++ xs') i) ((rget (xs ++ xs') i).y0)) ((rget (xs ++ xs') i).y1))) true), .gen (rowE (A12) g12 k12 cp12 3 1 (iV (addL' (addL' (gx (xs ++ xs') i) ((rget (xs ++ xs') i).x0)) ((rget (xs ++ xs') i).x1))) true), rD (A) g o n 4 (rvals xs), rD (A') g' o' n' 4 (rvals xs')]) (fun x_ => True) (fun w hT => (refAdd A14 g14 0 k14 cp14 (addL' (gy (xs ++ xs') i) ((rget (xs ++ xs') i).y0)) ((rget (xs ++ xs') i).y1) w (hT.viewRo (.cons (i := 1) rfl Vw.rowRd .nil) rfl) (by assumption) (by omega)).mono fun e w' hh_ => by
     rcases hh_ with ⟨he_, hm_, hb_⟩ | ⟨hm_, A_, g_, k_, c_, he_, ht_⟩
     · exact ⟨(A14, g14, k14, cp14), he_, trivial, hT.moved (i := 1) rfl (.inl ⟨rfl, rfl, rfl, rfl, by rw [addL', if_pos hm_], hb_⟩)⟩
     · exact ⟨(A_, g_, k_, c_), he_, trivial, hT.moved (i := 1) rfl (.inr ht_)⟩) ?_
   rintro ⟨A16, g16, k16, cp16⟩ -
   refine cM ?_
   refine fI 1 k16 A16 g16 cp16 (addL' (addL' (gy (xs ++ xs') i) ((rget (xs ++ xs') i).y0)) ((rget (xs ++ xs') i).y1)) rfl fun hr17_a hr17_l hr17_c hr17_m => ?_
   have hrl16 := addL'_length (addL' (gy (xs ++ xs') i) ((rget (xs ++ xs') i).y0)) ((rget (xs ++ xs') i).y1) (by assumption : Rise (addL' (gy (xs ++ xs') i) ((rget (xs ++ xs') i).y0)))
   have hri16 := addL'_rise (by assumption : Rise (addL' (gy (xs ++ xs') i) ((rget (xs ++ xs') i).y0))) ((rget (xs ++ xs') i).y1)
   refine dX 0 [1] <| tD 0 [1] [(7, 0)] 0 [7, 6, 3, 5, 2, 4, 1, 0] [(8, .slice A16 k16 cp16)] [] <| dD <| blk_normal <| zN <| cRg 3 rfl <| bS [0, 0] 2 1 [(0, .slice A n cap), (1, .slice A' n' cap'), (2, iq how), (7, .slice A12 k12 cp12), (8, .slice A16 k16 cp16), (27, iq (IntKind.i64.wrap ((i : Int) + 1)))] <| wI 27 ((i : Int) + 1) <| fG 0 <| bD [0] 3 0 [(9, iq ((i : Int) + 1))] [] <| zDN <| cont_rowEq (k := .i64) 1 (addL' (addL' (gx (xs ++ xs') i) ((rget (xs ++ xs') i).x0)) ((rget (xs ++ xs') i).x1)) (gx (xs ++ xs') (i + 1)) rfl (gx_put (by omega) hem_) ?_
   refine cont_rowEq (k := .i64) 0 (addL' (addL' (gy (xs ++ xs') i) ((rget (xs ++ xs') i).y0)) ((rget (xs ++ xs') i).y1)) (gy (xs ++ xs') (i + 1)) rfl (gy_put (by omega) hem_) ?_
   refine cA (i + 1, k12, A12, g12, cp12, k16, A16, g16, cp16) (show (i + 1) ≤ n + n' from (by omega))
  refine cFa rfl <| cRg 8 rfl <| bD [0, 0, 0, 0, 0] 5 3 [(36, .slice A' n' cap'), (40, iq (IntKind.i64.wrap ((i : Int) - (n : Int))))] [37, 38, 39] <| wI 40 ((i : Int) - (n : Int)) <| pS 6 2 <| rC 36 (.slice (some ⟨g', o', none⟩) n' cap') rfl (by rw [hra' (by omega)]) <| sS 41 (Instr.indexAt 58 (.slice (some ⟨g', o', none⟩) n' cap') (iq ((i : Int) - (n : Int)))) (.pointer (some ⟨g', o' + (Int.toNat ((i : Int) - (n : Int))) * 4, none⟩)) (fun w hT => rI 53 4 w) <| pS 7 1 <| sS 42 (Instr.loadAt 53 (.pointer (some ⟨g', o' + (Int.toNat ((i : Int) - (n : Int))) * 4, none⟩))) (.agg #[iq ((rget xs' (Int.toNat ((i : Int) - (n : Int)))).x0), iq ((rget xs' (Int.toNat ((i : Int) - (n : Int)))).y0), iq ((rget xs' (Int.toNat ((i : Int) - (n : Int)))).x1), iq ((rget xs' (Int.toNat ((i : Int) - (n : Int)))).y1)]) (fun w hT => rM 4 (rcells (rget xs' (Int.toNat ((i : Int) - (n : Int))))) (Rd.rect (hT.ok 4 _ rfl) (by omega))) <| bZ [0] 8 0 [(0, .slice A n cap), (1, .slice A' n' cap'), (2, iq how), (7, .slice Ax kx cx), (8, .slice Ay ky cy), (9, iq (i : Int)), (10, .pointer (pB b5))] [.cells b5 [iq ((rget xs' (Int.toNat ((i : Int) - (n : Int)))).x0), iq ((rget xs' (Int.toNat ((i : Int) - (n : Int)))).y0), iq ((rget xs' (Int.toNat ((i : Int) - (n : Int)))).x1), iq ((rget xs' (Int.toNat ((i : Int) - (n : Int)))).y1)] 53 true, .gen (rowE (Ay) gy_ ky cy 3 1 (iV (gy (xs ++ xs') i)) true), .gen (rowE (Ax) gx_ kx cx 3 1 (iV (gx (xs ++ xs') i)) true), rD (A) g o n 4 (rvals xs), rD (A') g' o' n' 4 (rvals xs')] <| zDNSSR 2 ?_
  have hel_ : (rget xs' (Int.toNat ((i : Int) - (n : Int)))) = rget (xs ++ xs') i := by rw [rget_append, if_neg (by omega)]; congr 1; omega
  refine cont_norm [(0, .slice A n cap), (1, .slice A' n' cap'), (2, iq how), (7, .slice Ax kx cx), (8, .slice Ay ky cy), (9, iq (i : Int)), (10, .pointer (pB b5))] [.cells b5 [iq ((rget (xs ++ xs') i).x0), iq ((rget (xs ++ xs') i).y0), iq ((rget (xs ++ xs') i).x1), iq ((rget (xs ++ xs') i).y1)] 53 true, .gen (rowE (Ay) gy_ ky cy 3 1 (iV (gy (xs ++ xs') i)) true), .gen (rowE (Ax) gx_ kx cx 3 1 (iV (gx (xs ++ xs') i)) true), rD (A) g o n 4 (rvals xs), rD (A') g' o' n' 4 (rvals xs')] (by kernel_rfl) (by rw [hel_]) ?_
  refine bS [0] 1 1 [(0, .slice A n cap), (1, .slice A' n' cap'), (2, iq how), (7, .slice Ax kx cx), (8, .slice Ay ky cy), (9, iq (i : Int)), (10, .pointer (pB b5)), (43, .agg #[iq ((rget (xs ++ xs') i).x0), iq ((rget (xs ++ xs') i).y0), iq ((rget (xs ++ xs') i).x1), iq ((rget (xs ++ xs') i).y1)])] <| pS 2 0 <| cP 44 (.bool (emptyB ((rget (xs ++ xs') i).x0) ((rget (xs ++ xs') i).y0) ((rget (xs ++ xs') i).x1) ((rget (xs ++ xs') i).y1))) (fun w hT => refEmpty ((rget (xs ++ xs') i).x0) ((rget (xs ++ xs') i).y0) ((rget (xs ++ xs') i).x1) ((rget (xs ++ xs') i).y1) w) <| zDN <| cSp 44 _ rfl (fun c18_ => ?_) fun c18_ => ?_
  ·
   have hem_ : emptyR (rget (xs ++ xs') i) = true := c18_
   refine cTr rfl <| cont_exit <| then_exit <| blk_exit <| zN <| cRg 3 rfl <| bD [0, 0] 2 1 [(27, iq (IntKind.i64.wrap ((i : Int) + 1)))] [26] <| wI 27 ((i : Int) + 1) <| fG 0 <| bD [0] 3 0 [(9, iq ((i : Int) + 1))] [] <| zDN <| cont_rowEq (k := .i64) 1 (gx (xs ++ xs') i) (gx (xs ++ xs') (i + 1)) rfl (gx_skip (by omega) hem_) ?_
   refine cont_rowEq (k := .i64) 0 (gy (xs ++ xs') i) (gy (xs ++ xs') (i + 1)) rfl (gy_skip (by omega) hem_) ?_
   refine cA (i + 1, kx, Ax, gx_, cx, ky, Ay, gy_, cy) (show (i + 1) ≤ n + n' from (by omega))
  have hem_ : emptyR (rget (xs ++ xs') i) = false := c18_
  refine cFa rfl <| cont_skip <| zN <| cSq ?_
  refine fI 2 kx Ax gx_ cx (gx (xs ++ xs') i) rfl fun hr19_a hr19_l hr19_c hr19_m => ?_
  refine fI 1 ky Ay gy_ cy (gy (xs ++ xs') i) rfl fun hr20_a hr20_l hr20_c hr20_m => ?_
  refine drawn_enter 8 [2] rfl (by kernel_rfl) ?_
  refine tD 0 [2] [(0, 0), (1, 0), (4, 0), (2, 0), (5, 0)] 3 [5, 2, 4, 1, 0] [(45, .slice Ax kx cx), (47, iq ((rget (xs ++ xs') i).x0)), (50, iq ((rget (xs ++ xs') i).x1))] [46, 49] <| dO 3 2 <| cG (d := 48) (α := Option Addr × Nat × Nat × Nat) (fun x_ => .slice x_.1 x_.2.2.1 x_.2.2.2) (fun x_ => [.cells b5 [iq ((rget (xs ++ xs') i).x0), iq ((rget (xs ++ xs') i).y0), iq ((rget (xs ++ xs') i).x1), iq ((rget (xs ++ xs') i).y1)] 53 true, .gen (rowE (Ay) gy_ ky cy 3 1 (iV (gy (xs ++ xs') i)) true), .gen (rowE (x_.1) x_.2.1 x_.2.2.1 x_.2.2.2 3 1 (iV (addL' (gx (xs ++ xs') i) ((rget (xs ++ xs') i).x0))) true), rD (A) g o n 4 (rvals xs), rD (A') g' o' n' 4 (rvals xs')]) (fun x_ => True) (fun w hT => (refAdd Ax gx_ 0 kx cx (gx (xs ++ xs') i) ((rget (xs ++ xs') i).x0) w (hT.viewRo (.cons (i := 2) rfl Vw.rowRd .nil) rfl) (by assumption) (by omega)).mono fun e w' hh_ => by
    rcases hh_ with ⟨he_, hm_, hb_⟩ | ⟨hm_, A_, g_, k_, c_, he_, ht_⟩
    · exact ⟨(Ax, gx_, kx, cx), he_, trivial, hT.moved (i := 2) rfl (.inl ⟨rfl, rfl, rfl, rfl, by rw [addL', if_pos hm_], hb_⟩)⟩
    · exact ⟨(A_, g_, k_, c_), he_, trivial, hT.moved (i := 2) rfl (.inr ht_)⟩) ?_
  rintro ⟨A21, g21, k21, cp21⟩ -
  refine cM ?_
  refine fI 2 k21 A21 g21 cp21 (addL' (gx (xs ++ xs') i) ((rget (xs ++ xs') i).x0)) rfl fun hr22_a hr22_l hr22_c hr22_m => ?_
  have hrl21 := addL'_length (gx (xs ++ xs') i) ((rget (xs ++ xs') i).x0) (by assumption : Rise (gx (xs ++ xs') i))
  have hri21 := addL'_rise (by assumption : Rise (gx (xs ++ xs') i)) ((rget (xs ++ xs') i).x0)
  refine dX 0 [2] <| dO 6 1 <| cG (d := 51) (α := Option Addr × Nat × Nat × Nat) (fun x_ => .slice x_.1 x_.2.2.1 x_.2.2.2) (fun x_ => [.cells b5 [iq ((rget (xs ++ xs') i).x0), iq ((rget (xs ++ xs') i).y0), iq ((rget (xs ++ xs') i).x1), iq ((rget (xs ++ xs') i).y1)] 53 true, .gen (rowE (Ay) gy_ ky cy 3 1 (iV (gy (xs ++ xs') i)) true), .gen (rowE (x_.1) x_.2.1 x_.2.2.1 x_.2.2.2 3 1 (iV (addL' (addL' (gx (xs ++ xs') i) ((rget (xs ++ xs') i).x0)) ((rget (xs ++ xs') i).x1))) true), rD (A) g o n 4 (rvals xs), rD (A') g' o' n' 4 (rvals xs')]) (fun x_ => True) (fun w hT => (refAdd A21 g21 0 k21 cp21 (addL' (gx (xs ++ xs') i) ((rget (xs ++ xs') i).x0)) ((rget (xs ++ xs') i).x1) w (hT.viewRo (.cons (i := 2) rfl Vw.rowRd .nil) rfl) (by assumption) (by omega)).mono fun e w' hh_ => by
    rcases hh_ with ⟨he_, hm_, hb_⟩ | ⟨hm_, A_, g_, k_, c_, he_, ht_⟩
    · exact ⟨(A21, g21, k21, cp21), he_, trivial, hT.moved (i := 2) rfl (.inl ⟨rfl, rfl, rfl, rfl, by rw [addL', if_pos hm_], hb_⟩)⟩
    · exact ⟨(A_, g_, k_, c_), he_, trivial, hT.moved (i := 2) rfl (.inr ht_)⟩) ?_
  rintro ⟨A23, g23, k23, cp23⟩ -
  refine nL [(0, .slice A n cap), (1, .slice A' n' cap'), (2, iq how), (7, .slice Ax kx cx), (8, .slice Ay ky cy), (9, iq (i : Int)), (10, .pointer (pB b5)), (45, .slice Ax kx cx), (47, iq ((rget (xs ++ xs') i).x0)), (48, .slice A21 k21 cp21), (50, iq ((rget (xs ++ xs') i).x1)), (51, .slice A23 k23 cp23)] ?_
  refine fI 2 k23 A23 g23 cp23 (addL' (addL' (gx (xs ++ xs') i) ((rget (xs ++ xs') i).x0)) ((rget (xs ++ xs') i).x1)) rfl fun hr24_a hr24_l hr24_c hr24_m => ?_
  have hrl23 := addL'_length (addL' (gx (xs ++ xs') i) ((rget (xs ++ xs') i).x0)) ((rget (xs ++ xs') i).x1) (by assumption : Rise (addL' (gx (xs ++ xs') i) ((rget (xs ++ xs') i).x0)))
  have hri23 := addL'_rise (by assumption : Rise (addL' (gx (xs ++ xs') i) ((rget (xs ++ xs') i).x0))) ((rget (xs ++ xs') i).x1)
  refine dX 0 [2] <| tD 0 [2] [(7, 0)] 0 [7, 6, 3, 5, 2, 4, 1, 0] [(7, .slice A23 k23 cp23)] [] <| dD <| zN <| drawn_enter 8 [1] rfl (by kernel_rfl) ?_
  refine tD 0 [1] [(0, 0), (1, 0), (4, 0), (2, 0), (5, 0)] 3 [5, 2, 4, 1, 0] [(52, .slice Ay ky cy), (54, iq ((rget (xs ++ xs') i).y0)), (57, iq ((rget (xs ++ xs') i).y1))] [53, 56] <| dO 3 2 <| cG (d := 55) (α := Option Addr × Nat × Nat × Nat) (fun x_ => .slice x_.1 x_.2.2.1 x_.2.2.2) (fun x_ => [.cells b5 [iq ((rget (xs ++ xs') i).x0), iq ((rget (xs ++ xs') i).y0), iq ((rget (xs ++ xs') i).x1), iq ((rget (xs ++ xs') i).y1)] 53 true, .gen (rowE (x_.1) x_.2.1 x_.2.2.1 x_.2.2.2 3 1 (iV (addL' (gy (xs ++ xs') i) ((rget (xs ++ xs') i).y0))) true), .gen (rowE (A23) g23 k23 cp23 3 1 (iV (addL' (addL' (gx (xs ++ xs') i) ((rget (xs ++ xs') i).x0)) ((rget (xs ++ xs') i).x1))) true), rD (A) g o n 4 (rvals xs), rD (A') g' o' n' 4 (rvals xs')]) (fun x_ => True) (fun w hT => (refAdd Ay gy_ 0 ky cy (gy (xs ++ xs') i) ((rget (xs ++ xs') i).y0) w (hT.viewRo (.cons (i := 1) rfl Vw.rowRd .nil) rfl) (by assumption) (by omega)).mono fun e w' hh_ => by
    rcases hh_ with ⟨he_, hm_, hb_⟩ | ⟨hm_, A_, g_, k_, c_, he_, ht_⟩
    · exact ⟨(Ay, gy_, ky, cy), he_, trivial, hT.moved (i := 1) rfl (.inl ⟨rfl, rfl, rfl, rfl, by rw [addL', if_pos hm_], hb_⟩)⟩
    · exact ⟨(A_, g_, k_, c_), he_, trivial, hT.moved (i := 1) rfl (.inr ht_)⟩) ?_
  rintro ⟨A25, g25, k25, cp25⟩ -
  refine nL [(0, .slice A n cap), (1, .slice A' n' cap'), (2, iq how), (7, .slice A23 k23 cp23), (8, .slice Ay ky cy), (9, iq (i : Int)), (52, .slice Ay ky cy), (54, iq ((rget (xs ++ xs') i).y0)), (55, .slice A25 k25 cp25), (57, iq ((rget (xs ++ xs') i).y1))] ?_
  refine fI 1 k25 A25 g25 cp25 (addL' (gy (xs ++ xs') i) ((rget (xs ++ xs') i).y0)) rfl fun hr26_a hr26_l hr26_c hr26_m => ?_
  have hrl25 := addL'_length (gy (xs ++ xs') i) ((rget (xs ++ xs') i).y0) (by assumption : Rise (gy (xs ++ xs') i))
  have hri25 := addL'_rise (by assumption : Rise (gy (xs ++ xs') i)) ((rget (xs ++ xs') i).y0)
  refine dX 0 [1] <| dO 6 1 <| cG (d := 58) (α := Option Addr × Nat × Nat × Nat) (fun x_ => .slice x_.1 x_.2.2.1 x_.2.2.2) (fun x_ => [.cells b5 [iq ((rget (xs ++ xs') i).x0), iq ((rget (xs ++ xs') i).y0), iq ((rget (xs ++ xs') i).x1), iq ((rget (xs ++ xs') i).y1)] 53 true, .gen (rowE (x_.1) x_.2.1 x_.2.2.1 x_.2.2.2 3 1 (iV (addL' (addL' (gy (xs ++ xs') i) ((rget (xs ++ xs') i).y0)) ((rget (xs ++ xs') i).y1))) true), .gen (rowE (A23) g23 k23 cp23 3 1 (iV (addL' (addL' (gx (xs ++ xs') i) ((rget (xs ++ xs') i).x0)) ((rget (xs ++ xs') i).x1))) true), rD (A) g o n 4 (rvals xs), rD (A') g' o' n' 4 (rvals xs')]) (fun x_ => True) (fun w hT => (refAdd A25 g25 0 k25 cp25 (addL' (gy (xs ++ xs') i) ((rget (xs ++ xs') i).y0)) ((rget (xs ++ xs') i).y1) w (hT.viewRo (.cons (i := 1) rfl Vw.rowRd .nil) rfl) (by assumption) (by omega)).mono fun e w' hh_ => by
    rcases hh_ with ⟨he_, hm_, hb_⟩ | ⟨hm_, A_, g_, k_, c_, he_, ht_⟩
    · exact ⟨(A25, g25, k25, cp25), he_, trivial, hT.moved (i := 1) rfl (.inl ⟨rfl, rfl, rfl, rfl, by rw [addL', if_pos hm_], hb_⟩)⟩
    · exact ⟨(A_, g_, k_, c_), he_, trivial, hT.moved (i := 1) rfl (.inr ht_)⟩) ?_
  rintro ⟨A27, g27, k27, cp27⟩ -
  refine cM ?_
  refine fI 1 k27 A27 g27 cp27 (addL' (addL' (gy (xs ++ xs') i) ((rget (xs ++ xs') i).y0)) ((rget (xs ++ xs') i).y1)) rfl fun hr28_a hr28_l hr28_c hr28_m => ?_
  have hrl27 := addL'_length (addL' (gy (xs ++ xs') i) ((rget (xs ++ xs') i).y0)) ((rget (xs ++ xs') i).y1) (by assumption : Rise (addL' (gy (xs ++ xs') i) ((rget (xs ++ xs') i).y0)))
  have hri27 := addL'_rise (by assumption : Rise (addL' (gy (xs ++ xs') i) ((rget (xs ++ xs') i).y0))) ((rget (xs ++ xs') i).y1)
  refine dX 0 [1] <| tD 0 [1] [(7, 0)] 0 [7, 6, 3, 5, 2, 4, 1, 0] [(8, .slice A27 k27 cp27)] [] <| dD <| blk_normal <| zN <| cRg 3 rfl <| bS [0, 0] 2 1 [(0, .slice A n cap), (1, .slice A' n' cap'), (2, iq how), (7, .slice A23 k23 cp23), (8, .slice A27 k27 cp27), (27, iq (IntKind.i64.wrap ((i : Int) + 1)))] <| wI 27 ((i : Int) + 1) <| fG 0 <| bD [0] 3 0 [(9, iq ((i : Int) + 1))] [] <| zDN <| cont_rowEq (k := .i64) 1 (addL' (addL' (gx (xs ++ xs') i) ((rget (xs ++ xs') i).x0)) ((rget (xs ++ xs') i).x1)) (gx (xs ++ xs') (i + 1)) rfl (gx_put (by omega) hem_) ?_
  refine cont_rowEq (k := .i64) 0 (addL' (addL' (gy (xs ++ xs') i) ((rget (xs ++ xs') i).y0)) ((rget (xs ++ xs') i).y1)) (gy (xs ++ xs') (i + 1)) rfl (gy_put (by omega) hem_) ?_
  refine cA (i + 1, k23, A23, g23, cp23, k27, A27, g27, cp27) (show (i + 1) ≤ n + n' from (by omega))
 refine zFXxxeNSR 1 ?_
 have hin : i = n + n' := by omega
 obtain ⟨XS, hXS⟩ : ∃ y_ : List Int, y_ = (gx (xs ++ xs') i) := ⟨_, rfl⟩
 refine cont_rowEq (k := .i64) 1 (gx (xs ++ xs') i) (XS) rfl hXS.symm ?_
 obtain ⟨YS, hYS⟩ : ∃ y_ : List Int, y_ = (gy (xs ++ xs') i) := ⟨_, rfl⟩
 refine cont_rowEq (k := .i64) 0 (gy (xs ++ xs') i) (YS) rfl hYS.symm ?_
 refine fI 1 kx Ax gx_ cx XS rfl fun hr29_a hr29_l hr29_c hr29_m => ?_
 refine fI 0 ky Ay gy_ cy YS rfl fun hr30_a hr30_l hr30_c hr30_m => ?_
 have hX : XS = gx (xs ++ xs') (xs ++ xs').length := by rw [hXS, hin, show (xs ++ xs').length = n + n' by rw [List.length_append]; omega]
 have hY : YS = gy (xs ++ xs') (xs ++ xs').length := by rw [hYS, hin, show (xs ++ xs').length = n + n' by rw [List.length_append]; omega]
 have hbX : XS.length ≤ 2 * (n + n') := by rw [hXS, ← hin]; exact gx_length _ _
 have hbY : YS.length ≤ 2 * (n + n') := by rw [hYS, ← hin]; exact gy_length _ _
 clear hlx hly hrx hry
 clear hab
 refine bD [0] 1 0 [(11, .slice none 0 0)] [] <| zDNSR 1 <| bD [0] 1 0 [(12, .slice none 0 0)] [] <| zDNSSR 1 <| bS [0] 1 0 [(0, .slice A n cap), (1, .slice A' n' cap'), (2, iq how), (7, .slice Ax kx cx), (8, .slice Ay ky cy), (11, .slice none 0 0), (12, .slice none 0 0), (13, iq 0)] <| zDNB <| cont_nilrow 53 4 ?_
 refine cM ?_
 refine cont_nilrow 53 4 ?_
 refine cM ?_
 refine cont_rowEqR 0 ([]) ((mgG touchL (ownD how xs xs' XS) YS 0).1) rfl rfl ?_
 refine cont_rowEqR 1 ([]) ((mgG touchL (ownD how xs xs' XS) YS 0).2) rfl rfl ?_
 refine cL (α := Nat × Nat × Option Addr × Nat × Nat × Nat × Option Addr × Nat × Nat) (fun x_ : Nat × Nat × Option Addr × Nat × Nat × Nat × Option Addr × Nat × Nat => x_.1 ≤ YS.length - 1) (fun x_ : Nat × Nat × Option Addr × Nat × Nat × Nat × Option Addr × Nat × Nat => [(0, .slice A n cap), (1, .slice A' n' cap'), (2, iq how), (7, .slice Ax kx cx), (8, .slice Ay ky cy), (11, .slice x_.2.2.1 x_.2.1 x_.2.2.2.2.1), (12, .slice x_.2.2.2.2.2.2.1 x_.2.2.2.2.2.1 x_.2.2.2.2.2.2.2.2), (13, iq (x_.1 : Int))]) (fun x_ : Nat × Nat × Option Addr × Nat × Nat × Nat × Option Addr × Nat × Nat => [.gen (rowE (x_.2.2.1) x_.2.2.2.1 x_.2.1 x_.2.2.2.2.1 53 4 (rvals ((mgG touchL (ownD how xs xs' XS) YS x_.1).1)) true), .gen (rowE (x_.2.2.2.2.2.2.1) x_.2.2.2.2.2.2.2.1 x_.2.2.2.2.2.1 x_.2.2.2.2.2.2.2.2 53 4 (rvals ((mgG touchL (ownD how xs xs' XS) YS x_.1).2)) true), .gen (rowE (Ay) gy_ ky cy 3 1 (iV YS) true), .gen (rowE (Ax) gx_ kx cx 3 1 (iV XS) true), rD (A) g o n 4 (rvals xs), rD (A') g' o' n' 4 (rvals xs')]) (fun x_ : Nat × Nat × Option Addr × Nat × Nat × Nat × Option Addr × Nat × Nat => YS.length - 1 - x_.1) (0, 0, none, 0, 0, 0, none, 0, 0) (show (0) ≤ YS.length - 1 from (by omega)) ?_
 rintro ⟨i, kq, Aq, gq, cq, kr, Ar, gr, cr⟩ hinv33_
 replace hinv33_ : i ≤ YS.length - 1 := hinv33_
 refine cM ?_
 have hi := hinv33_
 have hmb := mgG_bound (al := touchL) (own := (ownD how xs xs' XS)) (ys := YS) (m := XS.length) (i := i) (fun a b => ownD_length how xs xs' XS a b) (by omega) (by omega)
 refine zSSR 5 <| bD [0, 0] 2 3 [(60, iq (IntKind.i64.wrap ((i : Int) + 1)))] [59] <| rC 60 (iq ((i + 1 : Nat) : Int)) rfl (by rw [show (((i + 1 : Nat) : Int)) = (i : Int) + 1 by omega]; exact wrapI (by omega) (by omega)) <| bS [0, 0, 0] 5 0 [(0, .slice A n cap), (1, .slice A' n' cap'), (2, iq how), (7, .slice Ax kx cx), (8, .slice Ay ky cy), (11, .slice Aq kq cq), (12, .slice Ar kr cr), (13, iq (i : Int)), (63, .bool (decide (((i + 1 : Nat) : Int) < (ky : Int))))] <| zDN <| sD 63 rfl (fun c34_ => ?_) fun c34_ => ?_
 ·
  refine zTKNSBSR 1 <| fR 0 kq Aq gq cq ((mgG touchL (ownD how xs xs' XS) YS i).1) rfl fun hr35_a hr35_l hr35_c hr35_m => ?_
  refine fR 1 kr Ar gr cr ((mgG touchL (ownD how xs xs' XS) YS i).2) rfl fun hr36_a hr36_l hr36_c hr36_m => ?_
  refine bD [0] 1 0 [(14, .slice none 0 0)] [] <| zDNSSR 1 <| bD [0] 1 0 [(15, iq 0)] [] <| zDNB <| cont_nilrow 53 4 ?_
  refine nL [(0, .slice A n cap), (1, .slice A' n' cap'), (2, iq how), (7, .slice Ax kx cx), (8, .slice Ay ky cy), (11, .slice Aq kq cq), (12, .slice Ar kr cr), (13, iq (i : Int)), (14, .slice none 0 0), (15, iq 0)] ?_
  refine cont_rowEqR 0 ([]) (ownL (fun x => keepF (docK how) xs xs' x (YS.getD i 0)) (YS.getD i 0) (YS.getD (i + 1) 0) XS 0) rfl rfl ?_
  refine cL (α := Nat × Nat × Option Addr × Nat × Nat) (fun x_ : Nat × Nat × Option Addr × Nat × Nat => x_.1 ≤ XS.length - 1 ∧ x_.2.1 ≤ x_.1) (fun x_ : Nat × Nat × Option Addr × Nat × Nat => [(0, .slice A n cap), (1, .slice A' n' cap'), (2, iq how), (7, .slice Ax kx cx), (8, .slice Ay ky cy), (11, .slice Aq kq cq), (12, .slice Ar kr cr), (13, iq (i : Int)), (14, .slice x_.2.2.1 x_.2.1 x_.2.2.2.2), (15, iq (x_.1 : Int))]) (fun x_ : Nat × Nat × Option Addr × Nat × Nat => [.gen (rowE (x_.2.2.1) x_.2.2.2.1 x_.2.1 x_.2.2.2.2 53 4 (rvals (ownL (fun x => keepF (docK how) xs xs' x (YS.getD i 0)) (YS.getD i 0) (YS.getD (i + 1) 0) XS x_.1)) true), .gen (rowE (Aq) gq kq cq 53 4 (rvals ((mgG touchL (ownD how xs xs' XS) YS i).1)) true), .gen (rowE (Ar) gr kr cr 53 4 (rvals ((mgG touchL (ownD how xs xs' XS) YS i).2)) true), .gen (rowE (Ay) gy_ ky cy 3 1 (iV YS) true), .gen (rowE (Ax) gx_ kx cx 3 1 (iV XS) true), rD (A) g o n 4 (rvals xs), rD (A') g' o' n' 4 (rvals xs')]) (fun x_ : Nat × Nat × Option Addr × Nat × Nat => XS.length - 1 - x_.1) (0, 0, none, 0, 0) (show (0) ≤ XS.length - 1 ∧ (0) ≤ (0) from ⟨by omega, by omega⟩) ?_
  rintro ⟨k, kw, Aw, gw, cw⟩ hinv38_
  replace hinv38_ : k ≤ XS.length - 1 ∧ kw ≤ k := hinv38_
  refine cM ?_
  obtain ⟨hk, hkw⟩ := hinv38_
  refine zSSR 5 <| bD [0, 0] 2 3 [(67, iq (IntKind.i64.wrap ((k : Int) + 1)))] [66] <| rC 67 (iq ((k + 1 : Nat) : Int)) rfl (by rw [show (((k + 1 : Nat) : Int)) = (k : Int) + 1 by omega]; exact wrapI (by omega) (by omega)) <| bS [0, 0, 0] 5 0 [(0, .slice A n cap), (1, .slice A' n' cap'), (2, iq how), (7, .slice Ax kx cx), (8, .slice Ay ky cy), (11, .slice Aq kq cq), (12, .slice Ar kr cr), (13, iq (i : Int)), (14, .slice Aw kw cw), (15, iq (k : Int)), (70, .bool (decide (((k + 1 : Nat) : Int) < (kx : Int))))] <| zDN <| sD 70 rfl (fun c39_ => ?_) fun c39_ => ?_
  ·
   refine cTr rfl <| cont_skip <| zN <| cSq <| cont_block <| cSq <| drawn_enter 23 [] rfl (by kernel_rfl) ?_
   refine tD 0 [] [(0, 0), (1, 0), (2, 0), (5, 0), (6, 0), (10, 0), (11, 0), (12, 0), (15, 0), (16, 0), (20, 0)] 12 [20, 16, 15, 12, 11, 10, 6, 5, 2, 1, 0] [(73, .slice A n cap), (74, .slice Ax kx cx), (75, iq (k : Int)), (78, .slice Ay ky cy), (79, iq (i : Int)), (83, .slice A' n' cap'), (84, .slice Ax kx cx), (85, iq (k : Int)), (88, .slice Ay ky cy), (89, iq (i : Int)), (93, iq how)] [] <| rC 74 (.slice (pB gx_) kx cx) rfl (by rw [hr29_a (by omega)]) <| sT 0 [] 3 11 76 (Instr.indexAt 34 (.slice (pB gx_) kx cx) (iq (k : Int))) (.pointer (some ⟨gx_, k, none⟩)) (fun w hT => rI 3 1 w) <| sT 0 [] 4 10 77 (Instr.loadAt 3 (.pointer (some ⟨gx_, k, none⟩))) (iq (XS.getD k 0)) (fun w hT => rL (Row.cell (hT 4 _ rfl) (k) _ (ivals_get (by omega)))) <| rC 78 (.slice (pB gy_) ky cy) rfl (by rw [hr30_a (by omega)]) <| sT 0 [] 7 9 80 (Instr.indexAt 34 (.slice (pB gy_) ky cy) (iq (i : Int))) (.pointer (some ⟨gy_, i, none⟩)) (fun w hT => rI 3 1 w) <| sT 0 [] 8 8 81 (Instr.loadAt 3 (.pointer (some ⟨gy_, i, none⟩))) (iq (YS.getD i 0)) (fun w hT => rL (Row.cell (hT 3 _ rfl) (i) _ (ivals_get (by omega)))) <| rC 84 (.slice (pB gx_) kx cx) rfl (by rw [hr29_a (by omega)]) <| sT 0 [] 13 7 86 (Instr.indexAt 34 (.slice (pB gx_) kx cx) (iq (k : Int))) (.pointer (some ⟨gx_, k, none⟩)) (fun w hT => rI 3 1 w) <| sT 0 [] 14 6 87 (Instr.loadAt 3 (.pointer (some ⟨gx_, k, none⟩))) (iq (XS.getD k 0)) (fun w hT => rL (Row.cell (hT 4 _ rfl) (k) _ (ivals_get (by omega)))) <| rC 88 (.slice (pB gy_) ky cy) rfl (by rw [hr30_a (by omega)]) <| sT 0 [] 17 5 90 (Instr.indexAt 34 (.slice (pB gy_) ky cy) (iq (i : Int))) (.pointer (some ⟨gy_, i, none⟩)) (fun w hT => rI 3 1 w) <| sT 0 [] 18 4 91 (Instr.loadAt 3 (.pointer (some ⟨gy_, i, none⟩))) (iq (YS.getD i 0)) (fun w hT => rL (Row.cell (hT 3 _ rfl) (i) _ (ivals_get (by omega)))) <| dO 9 3 <| cP 82 (.bool (hasL xs (XS.getD k 0) (YS.getD i 0))) (fun w hT => refHasL A g o n cap xs (XS.getD k 0) (YS.getD i 0) w (hT.viewRo (.cons (i := 5) rfl Vw.rd .nil) rfl) (by omega)) <| dX 0 [] <| dO 19 2 <| cP 92 (.bool (hasL xs' (XS.getD k 0) (YS.getD i 0))) (fun w hT => refHasL A' g' o' n' cap' xs' (XS.getD k 0) (YS.getD i 0) w (hT.viewRo (.cons (i := 6) rfl Vw.rd .nil) rfl) (by omega)) <| dX 0 [] <| dO 21 1 <| cP 94 (.bool (docK how (hasL xs (XS.getD k 0) (YS.getD i 0)) (hasL xs' (XS.getD k 0) (YS.getD i 0)))) (fun w hT => refKeepB (hasL xs (XS.getD k 0) (YS.getD i 0)) (hasL xs' (XS.getD k 0) (YS.getD i 0)) how w) <| dX 0 [] <| tD 0 [] [(22, 0)] 0 [22, 21, 19, 9, 18, 17, 14, 13, 8, 7, 4, 3, 20, 16, 15, 12, 11, 10, 6, 5, 2, 1, 0] [(16, .bool (docK how (hasL xs (XS.getD k 0) (YS.getD i 0)) (hasL xs' (XS.getD k 0) (YS.getD i 0))))] [] <| dD <| zN <| zSSR 2 <| bS [0, 0] 2 0 [(0, .slice A n cap), (1, .slice A' n' cap'), (2, iq how), (7, .slice Ax kx cx), (8, .slice Ay ky cy), (11, .slice Aq kq cq), (12, .slice Ar kr cr), (13, iq (i : Int)), (14, .slice Aw kw cw), (15, iq (k : Int)), (96, .bool (!(docK how (hasL xs (XS.getD k 0) (YS.getD i 0)) (hasL xs' (XS.getD k 0) (YS.getD i 0)))))] <| zDN <| cSp 96 _ rfl (fun c40_ => ?_) fun c40_ => ?_
   ·
    replace c40_ : (docK how (hasL xs (XS.getD k 0) (YS.getD i 0)) (hasL xs' (XS.getD k 0) (YS.getD i 0))) = false := by simpa using c40_
    have hkeep_ : docK how (hasL xs (XS.getD k 0) (YS.getD i 0)) (hasL xs' (XS.getD k 0) (YS.getD i 0)) = false := c40_
    refine cTr rfl <| cont_exit <| then_exit <| blk_exit <| zN <| cRg 3 rfl <| bD [0, 0] 2 1 [(72, iq (IntKind.i64.wrap ((k : Int) + 1)))] [71] <| rC 72 (iq ((k + 1 : Nat) : Int)) rfl (by rw [show (((k + 1 : Nat) : Int)) = (k : Int) + 1 by omega]; exact wrapI (by omega) (by omega)) <| bD [0] 3 0 [(15, iq ((k + 1 : Nat) : Int))] [] <| zDN <| cont_rowEqR 0 (ownL (fun x => keepF (docK how) xs xs' x (YS.getD i 0)) (YS.getD i 0) (YS.getD (i + 1) 0) XS k) (ownL (fun x => keepF (docK how) xs xs' x (YS.getD i 0)) (YS.getD i 0) (YS.getD (i + 1) 0) XS (k + 1)) rfl (ownL_skip (f := (fun x => keepF (docK how) xs xs' x (YS.getD i 0))) hkeep_) ?_
    refine cA (k + 1, kw, Aw, gw, cw) (show (k + 1) ≤ XS.length - 1 ∧ (kw) ≤ (k + 1) from ⟨by omega, by omega⟩)
   replace c40_ : (docK how (hasL xs (XS.getD k 0) (YS.getD i 0)) (hasL xs' (XS.getD k 0) (YS.getD i 0))) = true := by simpa using c40_
   have hkeep_ : docK how (hasL xs (XS.getD k 0) (YS.getD i 0)) (hasL xs' (XS.getD k 0) (YS.getD i 0)) = true := c40_
   refine cFa rfl <| cont_skip <| zN <| cSq ?_
   refine fR 0 kw Aw gw cw (ownL (fun x => keepF (docK how) xs xs' x (YS.getD i 0)) (YS.getD i 0) (YS.getD (i + 1) 0) XS k) rfl fun hr41_a hr41_l hr41_c hr41_m => ?_
   refine drawn_enter 18 [] rfl (by kernel_rfl) ?_
   refine tD 0 [] [(0, 0), (1, 0), (2, 0), (3, 0)] 14 [3, 2, 1, 0] [(100, .bool (decide ((kw : Int) > 0)))] [97, 98, 99] <| sD 100 rfl (fun c42_ => ?_) fun c42_ => ?_
   ·
    refine tD 0 [] [(4, 0), (5, 0), (12, 0), (13, 0), (6, 0)] 9 [6, 13, 12, 5, 4, 3, 2, 1, 0] [(101, .slice Aw kw cw), (102, .slice Aw kw cw), (103, iq (kw : Int)), (109, .slice Ax kx cx), (110, iq (k : Int))] [] <| tK 0 [] [(7, 0)] 8 [7, 6, 13, 12, 5, 4, 3, 2, 1, 0] [(0, .slice A n cap), (1, .slice A' n' cap'), (2, iq how), (7, .slice Ax kx cx), (8, .slice Ay ky cy), (11, .slice Aq kq cq), (12, .slice Ar kr cr), (13, iq (i : Int)), (14, .slice Aw kw cw), (15, iq (k : Int)), (100, .bool true), (101, .slice Aw kw cw), (102, .slice Aw kw cw), (103, iq (kw : Int)), (104, iq (IntKind.i64.wrap ((kw : Int) - 1))), (109, .slice Ax kx cx), (110, iq (k : Int))] <| wI 104 ((kw : Int) - 1) <| tK 0 [] [(8, 0)] 7 [8, 7, 6, 13, 12, 5, 4, 3, 2, 1, 0] [(0, .slice A n cap), (1, .slice A' n' cap'), (2, iq how), (7, .slice Ax kx cx), (8, .slice Ay ky cy), (11, .slice Aq kq cq), (12, .slice Ar kr cr), (13, iq (i : Int)), (14, .slice Aw kw cw), (15, iq (k : Int)), (100, .bool true), (101, .slice Aw kw cw), (102, .slice Aw kw cw), (103, iq (kw : Int)), (104, iq ((kw : Int) - 1)), (105, iq (mx ((kw : Int) - 1) 0)), (109, .slice Ax kx cx), (110, iq (k : Int))] <| rC 105 (iq ((kw - 1 : Nat) : Int)) rfl (congrArg (Value.int .i64) (by unfold mx; omega)) <| rC 101 (.slice (pB gw) kw cw) rfl (by rw [hr41_a (by omega)]) <| sT 0 [] 9 6 106 (Instr.indexAt 58 (.slice (pB gw) kw cw) (iq ((kw - 1 : Nat) : Int))) (.pointer (some ⟨gw, (kw - 1 : Nat) * 4, none⟩)) (fun w hT => rI 53 4 w) <| tK 0 [] [(10, 0)] 5 [10, 9, 8, 7, 6, 13, 12, 5, 4, 3, 2, 1, 0] [(0, .slice A n cap), (1, .slice A' n' cap'), (2, iq how), (7, .slice Ax kx cx), (8, .slice Ay ky cy), (11, .slice Aq kq cq), (12, .slice Ar kr cr), (13, iq (i : Int)), (14, .slice Aw kw cw), (15, iq (k : Int)), (100, .bool true), (101, .slice (pB gw) kw cw), (102, .slice Aw kw cw), (103, iq (kw : Int)), (104, iq ((kw : Int) - 1)), (105, iq ((kw - 1 : Nat) : Int)), (106, .pointer (some ⟨gw, (kw - 1 : Nat) * 4, none⟩)), (107, .pointer (some ⟨gw, (kw - 1 : Nat) * 4 + 2, none⟩)), (109, .slice Ax kx cx), (110, iq (k : Int))] <| sT 0 [] 11 4 108 (Instr.loadAt 3 (.pointer (some ⟨gw, (kw - 1 : Nat) * 4 + 2, none⟩))) (iq ((rget (ownL (fun x => keepF (docK how) xs xs' x (YS.getD i 0)) (YS.getD i 0) (YS.getD (i + 1) 0) XS k) (kw - 1 : Nat)).x1)) (fun w hT => rL (Rd.cellF0 (Row.rd (hT 0 _ rfl)) (kw - 1 : Nat) 2 _ (by omega) rfl)) <| rC 109 (.slice (pB gx_) kx cx) rfl (by rw [hr29_a (by omega)]) <| sT 0 [] 14 3 111 (Instr.indexAt 34 (.slice (pB gx_) kx cx) (iq (k : Int))) (.pointer (some ⟨gx_, k, none⟩)) (fun w hT => rI 3 1 w) <| sT 0 [] 15 2 112 (Instr.loadAt 3 (.pointer (some ⟨gx_, k, none⟩))) (iq (XS.getD k 0)) (fun w hT => rL (Row.cell (hT 4 _ rfl) (k) _ (ivals_get (by omega)))) <| tK 0 [] [(16, 0), (17, 0)] 0 [17, 16, 15, 14, 11, 10, 9, 8, 7, 6, 13, 12, 5, 4, 3, 2, 1, 0] [(0, .slice A n cap), (1, .slice A' n' cap'), (2, iq how), (7, .slice Ax kx cx), (8, .slice Ay ky cy), (11, .slice Aq kq cq), (12, .slice Ar kr cr), (13, iq (i : Int)), (14, .slice Aw kw cw), (15, iq (k : Int)), (101, .slice (pB gw) kw cw), (102, .slice Aw kw cw), (103, iq (kw : Int)), (104, iq ((kw : Int) - 1)), (105, iq ((kw - 1 : Nat) : Int)), (106, .pointer (some ⟨gw, (kw - 1 : Nat) * 4, none⟩)), (107, .pointer (some ⟨gw, (kw - 1 : Nat) * 4 + 2, none⟩)), (108, iq ((rget (ownL (fun x => keepF (docK how) xs xs' x (YS.getD i 0)) (YS.getD i 0) (YS.getD (i + 1) 0) XS k) (kw - 1 : Nat)).x1)), (109, .slice (pB gx_) kx cx), (110, iq (k : Int)), (111, .pointer (some ⟨gx_, k, none⟩)), (112, iq (XS.getD k 0)), (113, .bool (((rget (ownL (fun x => keepF (docK how) xs xs' x (YS.getD i 0)) (YS.getD i 0) (YS.getD (i + 1) 0) XS k) (kw - 1 : Nat)).x1) == (XS.getD k 0))), (114, .bool (((rget (ownL (fun x => keepF (docK how) xs xs' x (YS.getD i 0)) (YS.getD i 0) (YS.getD (i + 1) 0) XS k) (kw - 1 : Nat)).x1) == (XS.getD k 0)))] <| dD <| zN <| cSp 114 _ rfl (fun c43_ => ?_) fun c43_ => ?_
    ·
     refine rC 113 (.bool true) rfl (congrArg Value.bool c43_) ?_
     replace c43_ := eq_of_beqt c43_
     refine cTr rfl <| cRg 12 rfl <| bS [0, 0, 0, 0] 4 8 [(0, .slice A n cap), (1, .slice A' n' cap'), (2, iq how), (7, .slice Ax kx cx), (8, .slice Ay ky cy), (11, .slice Aq kq cq), (12, .slice Ar kr cr), (13, iq (i : Int)), (14, .slice Aw kw cw), (15, iq (k : Int)), (101, .slice (pB gw) kw cw), (102, .slice Aw kw cw), (103, iq (kw : Int)), (104, iq ((kw : Int) - 1)), (105, iq ((kw - 1 : Nat) : Int)), (106, .pointer (some ⟨gw, (kw - 1 : Nat) * 4, none⟩)), (107, .pointer (some ⟨gw, (kw - 1 : Nat) * 4 + 2, none⟩)), (108, iq ((rget (ownL (fun x => keepF (docK how) xs xs' x (YS.getD i 0)) (YS.getD i 0) (YS.getD (i + 1) 0) XS k) (kw - 1 : Nat)).x1)), (109, .slice (pB gx_) kx cx), (110, iq (k : Int)), (111, .pointer (some ⟨gx_, k, none⟩)), (112, iq (XS.getD k 0)), (113, .bool true), (115, .slice Aw kw cw), (118, iq (IntKind.i64.wrap ((kw : Int) - 1)))] <| rC 118 (iq ((kw - 1 : Nat) : Int)) rfl (by rw [show (((kw - 1 : Nat) : Int)) = (kw : Int) - 1 by omega]; exact wrapI (by omega) (by omega)) <| bD [0, 0, 0] 7 5 [(119, .slice Ax kx cx), (121, iq (IntKind.i64.wrap ((k : Int) + 1)))] [120] <| rC 121 (iq ((k + 1 : Nat) : Int)) rfl (by rw [show (((k + 1 : Nat) : Int)) = (k : Int) + 1 by omega]; exact wrapI (by omega) (by omega)) <| pS 8 4 <| rC 119 (.slice (pB gx_) kx cx) rfl (by rw [hr29_a (by omega)]) <| sS 122 (Instr.indexAt 34 (.slice (pB gx_) kx cx) (iq ((k + 1 : Nat) : Int))) (.pointer (some ⟨gx_, (k + 1 : Nat), none⟩)) (fun w hT => rI 3 1 w) <| pS 9 3 <| sS 123 (Instr.loadAt 3 (.pointer (some ⟨gx_, (k + 1 : Nat), none⟩))) (iq (XS.getD (k + 1 : Nat) 0)) (fun w hT => rL (Row.cell (hT.ok 4 _ rfl) ((k + 1 : Nat)) _ (ivals_get (by omega)))) <| pS 10 2 <| rC 115 (.slice (pB gw) kw cw) rfl (by rw [hr41_a (by omega)]) <| sS 124 (Instr.indexAt 58 (.slice (pB gw) kw cw) (iq ((kw - 1 : Nat) : Int))) (.pointer (some ⟨gw, (kw - 1 : Nat) * 4, none⟩)) (fun w hT => rI 53 4 w) <| bD [0] 11 1 [(125, .pointer (some ⟨gw, (kw - 1 : Nat) * 4 + 2, none⟩))] [] <| pS 12 0 <| sem_stepU (Instr.storeAt 3 (.pointer (some ⟨gw, (kw - 1 : Nat) * 4 + 2, none⟩)) (iq (XS.getD (k + 1 : Nat) 0))) (fun _ => [.gen (rowE (Aw) gw kw cw 53 4 (rvals ((ownL (fun x => keepF (docK how) xs xs' x (YS.getD i 0)) (YS.getD i 0) (YS.getD (i + 1) 0) XS k).set (kw - 1 : Nat) { rget (ownL (fun x => keepF (docK how) xs xs' x (YS.getD i 0)) (YS.getD i 0) (YS.getD (i + 1) 0) XS k) (kw - 1 : Nat) with x1 := XS.getD (k + 1 : Nat) 0 })) true), .gen (rowE (Aq) gq kq cq 53 4 (rvals ((mgG touchL (ownD how xs xs' XS) YS i).1)) true), .gen (rowE (Ar) gr kr cr 53 4 (rvals ((mgG touchL (ownD how xs xs' XS) YS i).2)) true), .gen (rowE (Ay) gy_ ky cy 3 1 (iV YS) true), .gen (rowE (Ax) gx_ kx cx 3 1 (iV XS) true), rD (A) g o n 4 (rvals xs), rD (A') g' o' n' 4 (rvals xs')]) (fun _ => True) (by kernel_rfl) (fun w hT => store_fieldR hT (i := 0) (J := (kw - 1 : Nat)) (k := 2) { rget (ownL (fun x => keepF (docK how) xs xs' x (YS.getD i 0)) (YS.getD i 0) (YS.getD (i + 1) 0) XS k) (kw - 1 : Nat) with x1 := XS.getD (k + 1 : Nat) 0 } rfl (by kernel_rfl) (by omega) (by decide) (by omega) rfl) (fun _ _ => ?_)
     refine zDbNR 3 <| bS [0, 0] 2 1 [(0, .slice A n cap), (1, .slice A' n' cap'), (2, iq how), (7, .slice Ax kx cx), (8, .slice Ay ky cy), (11, .slice Aq kq cq), (12, .slice Ar kr cr), (13, iq (i : Int)), (14, .slice Aw kw cw), (72, iq (IntKind.i64.wrap ((k : Int) + 1))), (101, .slice (pB gw) kw cw), (102, .slice Aw kw cw), (103, iq (kw : Int)), (104, iq ((kw : Int) - 1)), (105, iq ((kw - 1 : Nat) : Int)), (106, .pointer (some ⟨gw, (kw - 1 : Nat) * 4, none⟩)), (107, .pointer (some ⟨gw, (kw - 1 : Nat) * 4 + 2, none⟩)), (108, iq ((rget (ownL (fun x => keepF (docK how) xs xs' x (YS.getD i 0)) (YS.getD i 0) (YS.getD (i + 1) 0) XS k) (kw - 1 : Nat)).x1)), (109, .slice (pB gx_) kx cx), (110, iq (k : Int)), (111, .pointer (some ⟨gx_, k, none⟩)), (112, iq (XS.getD k 0)), (113, .bool true)] <| rC 72 (iq ((k + 1 : Nat) : Int)) rfl (by rw [show (((k + 1 : Nat) : Int)) = (k : Int) + 1 by omega]; exact wrapI (by omega) (by omega)) <| bD [0] 3 0 [(15, iq ((k + 1 : Nat) : Int))] [] <| zDN <| cont_rowEqR 0 ((ownL (fun x => keepF (docK how) xs xs' x (YS.getD i 0)) (YS.getD i 0) (YS.getD (i + 1) 0) XS k).set (kw - 1 : Nat) { rget (ownL (fun x => keepF (docK how) xs xs' x (YS.getD i 0)) (YS.getD i 0) (YS.getD (i + 1) 0) XS k) (kw - 1 : Nat) with x1 := XS.getD (k + 1 : Nat) 0 }) (ownL (fun x => keepF (docK how) xs xs' x (YS.getD i 0)) (YS.getD i 0) (YS.getD (i + 1) 0) XS (k + 1)) rfl (ownL_put (f := (fun x => keepF (docK how) xs xs' x (YS.getD i 0))) hkeep_ (by omega) c43_) ?_
     refine cA (k + 1, kw, Aw, gw, cw) (show (k + 1) ≤ XS.length - 1 ∧ (kw) ≤ (k + 1) from ⟨by omega, by omega⟩)
    refine rC 113 (.bool false) rfl (congrArg Value.bool c43_) ?_
    replace c43_ := ne_of_beqf c43_
    refine cFa rfl <| drawn_enter 23 [0] rfl (by kernel_rfl) ?_
    refine tK 0 [0] [(0, 0), (1, 0), (2, 0), (5, 0), (6, 0), (9, 0), (10, 0), (14, 0), (15, 0)] 14 [15, 14, 10, 9, 6, 5, 2, 1, 0] [(0, .slice A n cap), (1, .slice A' n' cap'), (2, iq how), (7, .slice Ax kx cx), (8, .slice Ay ky cy), (11, .slice Aq kq cq), (12, .slice Ar kr cr), (13, iq (i : Int)), (14, .slice Aw kw cw), (15, iq (k : Int)), (101, .slice (pB gw) kw cw), (102, .slice Aw kw cw), (103, iq (kw : Int)), (104, iq ((kw : Int) - 1)), (105, iq ((kw - 1 : Nat) : Int)), (106, .pointer (some ⟨gw, (kw - 1 : Nat) * 4, none⟩)), (107, .pointer (some ⟨gw, (kw - 1 : Nat) * 4 + 2, none⟩)), (108, iq ((rget (ownL (fun x => keepF (docK how) xs xs' x (YS.getD i 0)) (YS.getD i 0) (YS.getD (i + 1) 0) XS k) (kw - 1 : Nat)).x1)), (109, .slice (pB gx_) kx cx), (110, iq (k : Int)), (111, .pointer (some ⟨gx_, k, none⟩)), (112, iq (XS.getD k 0)), (113, .bool false), (126, .slice Aw kw cw), (127, .slice Ax kx cx), (128, iq (k : Int)), (131, .slice Ay ky cy), (132, iq (i : Int)), (135, .slice Ax kx cx), (136, iq (k : Int)), (140, .slice Ay ky cy), (141, iq (i : Int))] <| rC 127 (.slice (pB gx_) kx cx) rfl (by rw [hr29_a (by omega)]) <| sT 0 [0] 3 13 129 (Instr.indexAt 34 (.slice (pB gx_) kx cx) (iq (k : Int))) (.pointer (some ⟨gx_, k, none⟩)) (fun w hT => rI 3 1 w) <| sT 0 [0] 4 12 130 (Instr.loadAt 3 (.pointer (some ⟨gx_, k, none⟩))) (iq (XS.getD k 0)) (fun w hT => rL (Row.cell (hT 4 _ rfl) (k) _ (ivals_get (by omega)))) <| rC 131 (.slice (pB gy_) ky cy) rfl (by rw [hr30_a (by omega)]) <| sT 0 [0] 7 11 133 (Instr.indexAt 34 (.slice (pB gy_) ky cy) (iq (i : Int))) (.pointer (some ⟨gy_, i, none⟩)) (fun w hT => rI 3 1 w) <| sT 0 [0] 8 10 134 (Instr.loadAt 3 (.pointer (some ⟨gy_, i, none⟩))) (iq (YS.getD i 0)) (fun w hT => rL (Row.cell (hT 3 _ rfl) (i) _ (ivals_get (by omega)))) <| tK 0 [0] [(11, 0)] 9 [11, 8, 7, 4, 3, 15, 14, 10, 9, 6, 5, 2, 1, 0] [(0, .slice A n cap), (1, .slice A' n' cap'), (2, iq how), (7, .slice Ax kx cx), (8, .slice Ay ky cy), (11, .slice Aq kq cq), (12, .slice Ar kr cr), (13, iq (i : Int)), (14, .slice Aw kw cw), (15, iq (k : Int)), (101, .slice (pB gw) kw cw), (102, .slice Aw kw cw), (103, iq (kw : Int)), (104, iq ((kw : Int) - 1)), (105, iq ((kw - 1 : Nat) : Int)), (106, .pointer (some ⟨gw, (kw - 1 : Nat) * 4, none⟩)), (107, .pointer (some ⟨gw, (kw - 1 : Nat) * 4 + 2, none⟩)), (108, iq ((rget (ownL (fun x => keepF (docK how) xs xs' x (YS.getD i 0)) (YS.getD i 0) (YS.getD (i + 1) 0) XS k) (kw - 1 : Nat)).x1)), (109, .slice (pB gx_) kx cx), (110, iq (k : Int)), (111, .pointer (some ⟨gx_, k, none⟩)), (112, iq (XS.getD k 0)), (113, .bool false), (126, .slice Aw kw cw), (130, iq (XS.getD k 0)), (134, iq (YS.getD i 0)), (135, .slice Ax kx cx), (137, iq (IntKind.i64.wrap ((k : Int) + 1))), (140, .slice Ay ky cy), (141, iq (i : Int))] <| rC 137 (iq ((k + 1 : Nat) : Int)) rfl (by rw [show (((k + 1 : Nat) : Int)) = (k : Int) + 1 by omega]; exact wrapI (by omega) (by omega)) <| rC 135 (.slice (pB gx_) kx cx) rfl (by rw [hr29_a (by omega)]) <| sT 0 [0] 12 8 138 (Instr.indexAt 34 (.slice (pB gx_) kx cx) (iq ((k + 1 : Nat) : Int))) (.pointer (some ⟨gx_, (k + 1 : Nat), none⟩)) (fun w hT => rI 3 1 w) <| sT 0 [0] 13 7 139 (Instr.loadAt 3 (.pointer (some ⟨gx_, (k + 1 : Nat), none⟩))) (iq (XS.getD (k + 1 : Nat) 0)) (fun w hT => rL (Row.cell (hT 4 _ rfl) ((k + 1 : Nat)) _ (ivals_get (by omega)))) <| tK 0 [0] [(16, 0)] 6 [16, 13, 12, 11, 8, 7, 4, 3, 15, 14, 10, 9, 6, 5, 2, 1, 0] [(0, .slice A n cap), (1, .slice A' n' cap'), (2, iq how), (7, .slice Ax kx cx), (8, .slice Ay ky cy), (11, .slice Aq kq cq), (12, .slice Ar kr cr), (13, iq (i : Int)), (14, .slice Aw kw cw), (15, iq (k : Int)), (101, .slice (pB gw) kw cw), (102, .slice Aw kw cw), (103, iq (kw : Int)), (104, iq ((kw : Int) - 1)), (105, iq ((kw - 1 : Nat) : Int)), (106, .pointer (some ⟨gw, (kw - 1 : Nat) * 4, none⟩)), (107, .pointer (some ⟨gw, (kw - 1 : Nat) * 4 + 2, none⟩)), (108, iq ((rget (ownL (fun x => keepF (docK how) xs xs' x (YS.getD i 0)) (YS.getD i 0) (YS.getD (i + 1) 0) XS k) (kw - 1 : Nat)).x1)), (109, .slice (pB gx_) kx cx), (110, iq (k : Int)), (111, .pointer (some ⟨gx_, k, none⟩)), (112, iq (XS.getD k 0)), (113, .bool false), (126, .slice Aw kw cw), (130, iq (XS.getD k 0)), (134, iq (YS.getD i 0)), (139, iq (XS.getD (k + 1 : Nat) 0)), (140, .slice Ay ky cy), (142, iq (IntKind.i64.wrap ((i : Int) + 1)))] <| rC 142 (iq ((i + 1 : Nat) : Int)) rfl (by rw [show (((i + 1 : Nat) : Int)) = (i : Int) + 1 by omega]; exact wrapI (by omega) (by omega)) <| rC 140 (.slice (pB gy_) ky cy) rfl (by rw [hr30_a (by omega)]) <| sT 0 [0] 17 5 143 (Instr.indexAt 34 (.slice (pB gy_) ky cy) (iq ((i + 1 : Nat) : Int))) (.pointer (some ⟨gy_, (i + 1 : Nat), none⟩)) (fun w hT => rI 3 1 w) <| sT 0 [0] 18 4 144 (Instr.loadAt 3 (.pointer (some ⟨gy_, (i + 1 : Nat), none⟩))) (iq (YS.getD (i + 1 : Nat) 0)) (fun w hT => rL (Row.cell (hT 3 _ rfl) ((i + 1 : Nat)) _ (ivals_get (by omega)))) <| tK 0 [0] [(19, 0)] 3 [19, 18, 17, 16, 13, 12, 11, 8, 7, 4, 3, 15, 14, 10, 9, 6, 5, 2, 1, 0] [(0, .slice A n cap), (1, .slice A' n' cap'), (2, iq how), (7, .slice Ax kx cx), (8, .slice Ay ky cy), (11, .slice Aq kq cq), (12, .slice Ar kr cr), (13, iq (i : Int)), (14, .slice Aw kw cw), (15, iq (k : Int)), (101, .slice (pB gw) kw cw), (102, .slice Aw kw cw), (103, iq (kw : Int)), (104, iq ((kw : Int) - 1)), (105, iq ((kw - 1 : Nat) : Int)), (106, .pointer (some ⟨gw, (kw - 1 : Nat) * 4, none⟩)), (107, .pointer (some ⟨gw, (kw - 1 : Nat) * 4 + 2, none⟩)), (108, iq ((rget (ownL (fun x => keepF (docK how) xs xs' x (YS.getD i 0)) (YS.getD i 0) (YS.getD (i + 1) 0) XS k) (kw - 1 : Nat)).x1)), (109, .slice (pB gx_) kx cx), (110, iq (k : Int)), (111, .pointer (some ⟨gx_, k, none⟩)), (112, iq (XS.getD k 0)), (113, .bool false), (126, .slice Aw kw cw), (145, .agg #[iq (XS.getD k 0), iq (YS.getD i 0), iq (XS.getD (k + 1 : Nat) 0), iq (YS.getD (i + 1 : Nat) 0)])] <| dO 20 2 ?_
    refine one_step1 0 (fun b44 => [(0, .slice A n cap), (1, .slice A' n' cap'), (2, iq how), (7, .slice Ax kx cx), (8, .slice Ay ky cy), (11, .slice Aq kq cq), (12, .slice Ar kr cr), (13, iq (i : Int)), (14, .slice Aw kw cw), (15, iq (k : Int)), (101, .slice (pB gw) kw cw), (102, .slice Aw kw cw), (103, iq (kw : Int)), (104, iq ((kw : Int) - 1)), (105, iq ((kw - 1 : Nat) : Int)), (106, .pointer (some ⟨gw, (kw - 1 : Nat) * 4, none⟩)), (107, .pointer (some ⟨gw, (kw - 1 : Nat) * 4 + 2, none⟩)), (108, iq ((rget (ownL (fun x => keepF (docK how) xs xs' x (YS.getD i 0)) (YS.getD i 0) (YS.getD (i + 1) 0) XS k) (kw - 1 : Nat)).x1)), (109, .slice (pB gx_) kx cx), (110, iq (k : Int)), (111, .pointer (some ⟨gx_, k, none⟩)), (112, iq (XS.getD k 0)), (113, .bool false), (126, .slice Aw kw cw), (146, .slice (pB b44) 1 1)]) (fun b44 => [.cells b44 [iq (XS.getD k 0), iq (YS.getD i 0), iq (XS.getD (k + 1 : Nat) 0), iq (YS.getD (i + 1 : Nat) 0)] 53 true, .gen (rowE (Aw) gw kw cw 53 4 (rvals (ownL (fun x => keepF (docK how) xs xs' x (YS.getD i 0)) (YS.getD i 0) (YS.getD (i + 1) 0) XS k)) true), .gen (rowE (Aq) gq kq cq 53 4 (rvals ((mgG touchL (ownD how xs xs' XS) YS i).1)) true), .gen (rowE (Ar) gr kr cr 53 4 (rvals ((mgG touchL (ownD how xs xs' XS) YS i).2)) true), .gen (rowE (Ay) gy_ ky cy 3 1 (iV YS) true), .gen (rowE (Ax) gx_ kx cx 3 1 (iV XS) true), rD (A) g o n 4 (rvals xs), rD (A') g' o' n' 4 (rvals xs')]) (fun b44 => by kernel_rfl) (fun b44 => by kernel_rfl) (fun b44 => ?_)
    refine dX 1 [0] <| dO 21 1 <| sSW (α := Option Addr × Nat × Nat) 147 (Builtin.append_ #[58, 58] 58 #[.slice Aw kw cw, .slice (pB b44) 1 1]) (fun x_ => .slice x_.1 (kw + 1) x_.2.2) (fun x_ => [.cells b44 [iq (XS.getD k 0), iq (YS.getD i 0), iq (XS.getD (k + 1 : Nat) 0), iq (YS.getD (i + 1 : Nat) 0)] 53 true, .gen (rowE (x_.1) x_.2.1 (kw + 1) x_.2.2 53 4 (rvals ((ownL (fun x => keepF (docK how) xs xs' x (YS.getD i 0)) (YS.getD i 0) (YS.getD (i + 1) 0) XS k) ++ [(⟨XS.getD k 0, YS.getD i 0, XS.getD (k + 1 : Nat) 0, YS.getD (i + 1 : Nat) 0⟩ : Rect)])) true), .gen (rowE (Aq) gq kq cq 53 4 (rvals ((mgG touchL (ownD how xs xs' XS) YS i).1)) true), .gen (rowE (Ar) gr kr cr 53 4 (rvals ((mgG touchL (ownD how xs xs' XS) YS i).2)) true), .gen (rowE (Ay) gy_ ky cy 3 1 (iV YS) true), .gen (rowE (Ax) gx_ kx cx 3 1 (iV XS) true), rD (A) g o n 4 (rvals xs), rD (A') g' o' n' 4 (rvals xs')]) (fun _ => True) (by kernel_rfl) (fun w hT => append_own (n' := (kw + 1)) (z := .agg #[iq 0, iq 0, iq 0, iq 0]) hT (i := 1) (bytes := 32) rfl (by kernel_rfl) (by kernel_rfl) rfl (by decide) (by decide) (Rd.ofCells (vals := rvals [(⟨XS.getD k 0, YS.getD i 0, XS.getD (k + 1 : Nat) 0, YS.getD (i + 1 : Nat) 0⟩ : Rect)]) (hT.ok 0 _ rfl) rfl rfl) (rvals_one [(⟨XS.getD k 0, YS.getD i 0, XS.getD (k + 1 : Nat) 0, YS.getD (i + 1 : Nat) 0⟩ : Rect)]) (by omega) (rvals_append (ownL (fun x => keepF (docK how) xs xs' x (YS.getD i 0)) (YS.getD i 0) (YS.getD (i + 1) 0) XS k) [(⟨XS.getD k 0, YS.getD i 0, XS.getD (k + 1 : Nat) 0, YS.getD (i + 1 : Nat) 0⟩ : Rect)]) rfl) ?_
    rintro ⟨A45, g45, cp45⟩ -
    refine nL [(0, .slice A n cap), (1, .slice A' n' cap'), (2, iq how), (7, .slice Ax kx cx), (8, .slice Ay ky cy), (11, .slice Aq kq cq), (12, .slice Ar kr cr), (13, iq (i : Int)), (14, .slice Aw kw cw), (15, iq (k : Int)), (101, .slice (pB gw) kw cw), (102, .slice Aw kw cw), (103, iq (kw : Int)), (104, iq ((kw : Int) - 1)), (105, iq ((kw - 1 : Nat) : Int)), (106, .pointer (some ⟨gw, (kw - 1 : Nat) * 4, none⟩)), (107, .pointer (some ⟨gw, (kw - 1 : Nat) * 4 + 2, none⟩)), (108, iq ((rget (ownL (fun x => keepF (docK how) xs xs' x (YS.getD i 0)) (YS.getD i 0) (YS.getD (i + 1) 0) XS k) (kw - 1 : Nat)).x1)), (109, .slice (pB gx_) kx cx), (110, iq (k : Int)), (111, .pointer (some ⟨gx_, k, none⟩)), (112, iq (XS.getD k 0)), (113, .bool false), (126, .slice Aw kw cw), (146, .slice (pB b44) 1 1), (147, .slice A45 (kw + 1) cp45)] ?_
    refine fR 1 (kw + 1) A45 g45 cp45 ((ownL (fun x => keepF (docK how) xs xs' x (YS.getD i 0)) (YS.getD i 0) (YS.getD (i + 1) 0) XS k) ++ [(⟨XS.getD k 0, YS.getD i 0, XS.getD (k + 1 : Nat) 0, YS.getD (i + 1 : Nat) 0⟩ : Rect)]) rfl fun hr46_a hr46_l hr46_c hr46_m => ?_
    refine dX 1 [0] <| tD 1 [0] [(22, 0)] 0 [22, 21, 20, 19, 18, 17, 16, 13, 12, 11, 8, 7, 4, 3, 15, 14, 10, 9, 6, 5, 2, 1, 0] [(14, .slice A45 (kw + 1) cp45)] [] <| dD <| blk_normal <| zN <| cRg 3 rfl <| bD [0, 0] 2 1 [(72, iq (IntKind.i64.wrap ((k : Int) + 1)))] [71] <| rC 72 (iq ((k + 1 : Nat) : Int)) rfl (by rw [show (((k + 1 : Nat) : Int)) = (k : Int) + 1 by omega]; exact wrapI (by omega) (by omega)) <| fG 0 <| bS [0] 3 0 [(0, .slice A n cap), (1, .slice A' n' cap'), (2, iq how), (7, .slice Ax kx cx), (8, .slice Ay ky cy), (11, .slice Aq kq cq), (12, .slice Ar kr cr), (13, iq (i : Int)), (14, .slice A45 (kw + 1) cp45), (15, iq ((k + 1 : Nat) : Int)), (101, .slice (pB gw) kw cw), (102, .slice Aw kw cw), (103, iq (kw : Int)), (104, iq ((kw : Int) - 1)), (105, iq ((kw - 1 : Nat) : Int)), (106, .pointer (some ⟨gw, (kw - 1 : Nat) * 4, none⟩)), (107, .pointer (some ⟨gw, (kw - 1 : Nat) * 4 + 2, none⟩)), (108, iq ((rget (ownL (fun x => keepF (docK how) xs xs' x (YS.getD i 0)) (YS.getD i 0) (YS.getD (i + 1) 0) XS k) (kw - 1 : Nat)).x1)), (109, .slice (pB gx_) kx cx), (110, iq (k : Int)), (111, .pointer (some ⟨gx_, k, none⟩)), (112, iq (XS.getD k 0)), (113, .bool false)] <| zDN <| cont_rowEqR 0 ((ownL (fun x => keepF (docK how) xs xs' x (YS.getD i 0)) (YS.getD i 0) (YS.getD (i + 1) 0) XS k) ++ [(⟨XS.getD k 0, YS.getD i 0, XS.getD (k + 1 : Nat) 0, YS.getD (i + 1 : Nat) 0⟩ : Rect)]) (ownL (fun x => keepF (docK how) xs xs' x (YS.getD i 0)) (YS.getD i 0) (YS.getD (i + 1) 0) XS (k + 1)) rfl (ownL_new (f := (fun x => keepF (docK how) xs xs' x (YS.getD i 0))) hkeep_ (fun J hJ he_ => by have hJ2 : J = (kw - 1 : Nat) := (by omega); subst hJ2; exact c43_ he_)) ?_
    refine cA (k + 1, (kw + 1), A45, g45, cp45) (show (k + 1) ≤ XS.length - 1 ∧ ((kw + 1)) ≤ (k + 1) from ⟨by omega, by omega⟩)
   refine tD 0 [] [(4, 0), (5, 0), (12, 0), (13, 0), (6, 0), (14, 0), (7, 0), (15, 0), (8, 0), (9, 0), (10, 0), (11, 0), (16, 0), (17, 0)] 0 [17, 16, 11, 10, 9, 8, 15, 7, 14, 6, 13, 12, 5, 4, 3, 2, 1, 0] [(101, undef), (102, undef), (103, undef), (104, undef), (105, undef), (106, undef), (107, undef), (108, undef), (109, undef), (110, undef), (111, undef), (112, undef), (113, undef), (114, .bool false)] [] <| dD <| zN <| cFa rfl <| drawn_enter 23 [0] rfl (by kernel_rfl) ?_
   refine tK 0 [0] [(0, 0), (1, 0), (2, 0), (5, 0), (6, 0), (9, 0), (10, 0), (14, 0), (15, 0)] 14 [15, 14, 10, 9, 6, 5, 2, 1, 0] [(0, .slice A n cap), (1, .slice A' n' cap'), (2, iq how), (7, .slice Ax kx cx), (8, .slice Ay ky cy), (11, .slice Aq kq cq), (12, .slice Ar kr cr), (13, iq (i : Int)), (14, .slice Aw kw cw), (15, iq (k : Int)), (101, undef), (102, undef), (103, undef), (104, undef), (105, undef), (106, undef), (107, undef), (108, undef), (109, undef), (110, undef), (111, undef), (112, undef), (113, undef), (126, .slice Aw kw cw), (127, .slice Ax kx cx), (128, iq (k : Int)), (131, .slice Ay ky cy), (132, iq (i : Int)), (135, .slice Ax kx cx), (136, iq (k : Int)), (140, .slice Ay ky cy), (141, iq (i : Int))] <| rC 127 (.slice (pB gx_) kx cx) rfl (by rw [hr29_a (by omega)]) <| sT 0 [0] 3 13 129 (Instr.indexAt 34 (.slice (pB gx_) kx cx) (iq (k : Int))) (.pointer (some ⟨gx_, k, none⟩)) (fun w hT => rI 3 1 w) <| sT 0 [0] 4 12 130 (Instr.loadAt 3 (.pointer (some ⟨gx_, k, none⟩))) (iq (XS.getD k 0)) (fun w hT => rL (Row.cell (hT 4 _ rfl) (k) _ (ivals_get (by omega)))) <| rC 131 (.slice (pB gy_) ky cy) rfl (by rw [hr30_a (by omega)]) <| sT 0 [0] 7 11 133 (Instr.indexAt 34 (.slice (pB gy_) ky cy) (iq (i : Int))) (.pointer (some ⟨gy_, i, none⟩)) (fun w hT => rI 3 1 w) <| sT 0 [0] 8 10 134 (Instr.loadAt 3 (.pointer (some ⟨gy_, i, none⟩))) (iq (YS.getD i 0)) (fun w hT => rL (Row.cell (hT 3 _ rfl) (i) _ (ivals_get (by omega)))) <| tK 0 [0] [(11, 0)] 9 [11, 8, 7, 4, 3, 15, 14, 10, 9, 6, 5, 2, 1, 0] [(0, .slice A n cap), (1, .slice A' n' cap'), (2, iq how), (7, .slice Ax kx cx), (8, .slice Ay ky cy), (11, .slice Aq kq cq), (12, .slice Ar kr cr), (13, iq (i : Int)), (14, .slice Aw kw cw), (15, iq (k : Int)), (101, undef), (102, undef), (103, undef), (104, undef), (105, undef), (106, undef), (107, undef), (108, undef), (109, undef), (110, undef), (111, undef), (112, undef), (113, undef), (126, .slice Aw kw cw), (130, iq (XS.getD k 0)), (134, iq (YS.getD i 0)), (135, .slice Ax kx cx), (137, iq (IntKind.i64.wrap ((k : Int) + 1))), (140, .slice Ay ky cy), (141, iq (i : Int))] <| rC 137 (iq ((k + 1 : Nat) : Int)) rfl (by rw [show (((k + 1 : Nat) : Int)) = (k : Int) + 1 by omega]; exact wrapI (by omega) (by omega)) <| rC 135 (.slice (pB gx_) kx cx) rfl (by rw [hr29_a (by omega)]) <| sT 0 [0] 12 8 138 (Instr.indexAt 34 (.slice (pB gx_) kx cx) (iq ((k + 1 : Nat) : Int))) (.pointer (some ⟨gx_, (k + 1 : Nat), none⟩)) (fun w hT => rI 3 1 w) <| sT 0 [0] 13 7 139 (Instr.loadAt 3 (.pointer (some ⟨gx_, (k + 1 : Nat), none⟩))) (iq (XS.getD (k + 1 : Nat) 0)) (fun w hT => rL (Row.cell (hT 4 _ rfl) ((k + 1 : Nat)) _ (ivals_get (by omega)))) <| tK 0 [0] [(16, 0)] 6 [16, 13, 12, 11, 8, 7, 4, 3, 15, 14, 10, 9, 6, 5, 2, 1, 0] [(0, .slice A n cap), (1, .slice A' n' cap'), (2, iq how), (7, .slice Ax kx cx), (8, .slice Ay ky cy), (11, .slice Aq kq cq), (12, .slice Ar kr cr), (13, iq (i : Int)), (14, .slice Aw kw cw), (15, iq (k : Int)), (101, undef), (102, undef), (103, undef), (104, undef), (105, undef), (106, undef), (107, undef), (108, undef), (109, undef), (110, undef), (111, undef), (112, undef), (113, undef), (126, .slice Aw kw cw), (130, iq (XS.getD k 0)), (134, iq (YS.getD i 0)), (139, iq (XS.getD (k + 1 : Nat) 0)), (140, .slice Ay ky cy), (142, iq (IntKind.i64.wrap ((i : Int) + 1)))] <| rC 142 (iq ((i + 1 : Nat) : Int)) rfl (by rw [show (((i + 1 : Nat) : Int)) = (i : Int) + 1 by omega]; exact wrapI (by omega) (by omega)) <| rC 140 (.slice (pB gy_) ky cy) rfl (by rw [hr30_a (by omega)]) <| sT 0 [0] 17 5 143 (Instr.indexAt 34 (.slice (pB gy_) ky cy) (iq ((i + 1 : Nat) : Int))) (.pointer (some ⟨gy_, (i + 1 : Nat), none⟩)) (fun w hT => rI 3 1 w) <| sT 0 [0] 18 4 144 (Instr.loadAt 3 (.pointer (some ⟨gy_, (i + 1 : Nat), none⟩))) (iq (YS.getD (i + 1 : Nat) 0)) (fun w hT => rL (Row.cell (hT 3 _ rfl) ((i + 1 : Nat)) _ (ivals_get (by omega)))) <| tK 0 [0] [(19, 0)] 3 [19, 18, 17, 16, 13, 12, 11, 8, 7, 4, 3, 15, 14, 10, 9, 6, 5, 2, 1, 0] [(0, .slice A n cap), (1, .slice A' n' cap'), (2, iq how), (7, .slice Ax kx cx), (8, .slice Ay ky cy), (11, .slice Aq kq cq), (12, .slice Ar kr cr), (13, iq (i : Int)), (14, .slice Aw kw cw), (15, iq (k : Int)), (101, undef), (102, undef), (103, undef), (104, undef), (105, undef), (106, undef), (107, undef), (108, undef), (109, undef), (110, undef), (111, undef), (112, undef), (113, undef), (126, .slice Aw kw cw), (145, .agg #[iq (XS.getD k 0), iq (YS.getD i 0), iq (XS.getD (k + 1 : Nat) 0), iq (YS.getD (i + 1 : Nat) 0)])] <| dO 20 2 <| one_step1 0 (fun b47 => [(0, .slice A n cap), (1, .slice A' n' cap'), (2, iq how), (7, .slice Ax kx cx), (8, .slice Ay ky cy), (11, .slice Aq kq cq), (12, .slice Ar kr cr), (13, iq (i : Int)), (14, .slice Aw kw cw), (15, iq (k : Int)), (101, undef), (102, undef), (103, undef), (104, undef), (105, undef), (106, undef), (107, undef), (108, undef), (109, undef), (110, undef), (111, undef), (112, undef), (113, undef), (126, .slice Aw kw cw), (146, .slice (pB b47) 1 1)]) (fun b47 => [.cells b47 [iq (XS.getD k 0), iq (YS.getD i 0), iq (XS.getD (k + 1 : Nat) 0), iq (YS.getD (i + 1 : Nat) 0)] 53 true, .gen (rowE (Aw) gw kw cw 53 4 (rvals (ownL (fun x => keepF (docK how) xs xs' x (YS.getD i 0)) (YS.getD i 0) (YS.getD (i + 1) 0) XS k)) true), .gen (rowE (Aq) gq kq cq 53 4 (rvals ((mgG touchL (ownD how xs xs' XS) YS i).1)) true), .gen (rowE (Ar) gr kr cr 53 4 (rvals ((mgG touchL (ownD how xs xs' XS) YS i).2)) true), .gen (rowE (Ay) gy_ ky cy 3 1 (iV YS) true), .gen (rowE (Ax) gx_ kx cx 3 1 (iV XS) true), rD (A) g o n 4 (rvals xs), rD (A') g' o' n' 4 (rvals xs')]) (fun b47 => by kernel_rfl) (fun b47 => by kernel_rfl) (fun b47 => ?_)
   refine dX 1 [0] <| dO 21 1 <| sSW (α := Option Addr × Nat × Nat) 147 (Builtin.append_ #[58, 58] 58 #[.slice Aw kw cw, .slice (pB b47) 1 1]) (fun x_ => .slice x_.1 (kw + 1) x_.2.2) (fun x_ => [.cells b47 [iq (XS.getD k 0), iq (YS.getD i 0), iq (XS.getD (k + 1 : Nat) 0), iq (YS.getD (i + 1 : Nat) 0)] 53 true, .gen (rowE (x_.1) x_.2.1 (kw + 1) x_.2.2 53 4 (rvals ((ownL (fun x => keepF (docK how) xs xs' x (YS.getD i 0)) (YS.getD i 0) (YS.getD (i + 1) 0) XS k) ++ [(⟨XS.getD k 0, YS.getD i 0, XS.getD (k + 1 : Nat) 0, YS.getD (i + 1 : Nat) 0⟩ : Rect)])) true), .gen (rowE (Aq) gq kq cq 53 4 (rvals ((mgG touchL (ownD how xs xs' XS) YS i).1)) true), .gen (rowE (Ar) gr kr cr 53 4 (rvals ((mgG touchL (ownD how xs xs' XS) YS i).2)) true), .gen (rowE (Ay) gy_ ky cy 3 1 (iV YS) true), .gen (rowE (Ax) gx_ kx cx 3 1 (iV XS) true), rD (A) g o n 4 (rvals xs), rD (A') g' o' n' 4 (rvals xs')]) (fun _ => True) (by kernel_rfl) (fun w hT => append_own (n' := (kw + 1)) (z := .agg #[iq 0, iq 0, iq 0, iq 0]) hT (i := 1) (bytes := 32) rfl (by kernel_rfl) (by kernel_rfl) rfl (by decide) (by decide) (Rd.ofCells (vals := rvals [(⟨XS.getD k 0, YS.getD i 0, XS.getD (k + 1 : Nat) 0, YS.getD (i + 1 : Nat) 0⟩ : Rect)]) (hT.ok 0 _ rfl) rfl rfl) (rvals_one [(⟨XS.getD k 0, YS.getD i 0, XS.getD (k + 1 : Nat) 0, YS.getD (i + 1 : Nat) 0⟩ : Rect)]) (by omega) (rvals_append (ownL (fun x => keepF (docK how) xs xs' x (YS.getD i 0)) (YS.getD i 0) (YS.getD (i + 1) 0) XS k) [(⟨XS.getD k 0, YS.getD i 0, XS.getD (k + 1 : Nat) 0, YS.getD (i + 1 : Nat) 0⟩ : Rect)]) rfl) ?_
   rintro ⟨A48, g48, cp48⟩ -
   refine nL [(0, .slice A n cap), (1, .slice A' n' cap'), (2, iq how), (7, .slice Ax kx cx), (8, .slice Ay ky cy), (11, .slice Aq kq cq), (12, .slice Ar kr cr), (13, iq (i : Int)), (14, .slice Aw kw cw), (15, iq (k : Int)), (101, undef), (102, undef), (103, undef), (104, undef), (105, undef), (106, undef), (107, undef), (108, undef), (109, undef), (110, undef), (111, undef), (112, undef), (113, undef), (126, .slice Aw kw cw), (146, .slice (pB b47) 1 1), (147, .slice A48 (kw + 1) cp48)] ?_
   refine fR 1 (kw + 1) A48 g48 cp48 ((ownL (fun x => keepF (docK how) xs xs' x (YS.getD i 0)) (YS.getD i 0) (YS.getD (i + 1) 0) XS k) ++ [(⟨XS.getD k 0, YS.getD i 0, XS.getD (k + 1 : Nat) 0, YS.getD (i + 1 : Nat) 0⟩ : Rect)]) rfl fun hr49_a hr49_l hr49_c hr49_m => ?_
   refine dX 1 [0] <| tD 1 [0] [(22, 0)] 0 [22, 21, 20, 19, 18, 17, 16, 13, 12, 11, 8, 7, 4, 3, 15, 14, 10, 9, 6, 5, 2, 1, 0] [(14, .slice A48 (kw + 1) cp48)] [] <| dD <| blk_normal <| zN <| cRg 3 rfl <| bD [0, 0] 2 1 [(72, iq (IntKind.i64.wrap ((k : Int) + 1)))] [71] <| rC 72 (iq ((k + 1 : Nat) : Int)) rfl (by rw [show (((k + 1 : Nat) : Int)) = (k : Int) + 1 by omega]; exact wrapI (by omega) (by omega)) <| fG 0 <| bS [0] 3 0 [(0, .slice A n cap), (1, .slice A' n' cap'), (2, iq how), (7, .slice Ax kx cx), (8, .slice Ay ky cy), (11, .slice Aq kq cq), (12, .slice Ar kr cr), (13, iq (i : Int)), (14, .slice A48 (kw + 1) cp48), (15, iq ((k + 1 : Nat) : Int)), (101, undef), (102, undef), (103, undef), (104, undef), (105, undef), (106, undef), (107, undef), (108, undef), (109, undef), (110, undef), (111, undef), (112, undef), (113, undef)] <| zDN <| cont_rowEqR 0 ((ownL (fun x => keepF (docK how) xs xs' x (YS.getD i 0)) (YS.getD i 0) (YS.getD (i + 1) 0) XS k) ++ [(⟨XS.getD k 0, YS.getD i 0, XS.getD (k + 1 : Nat) 0, YS.getD (i + 1 : Nat) 0⟩ : Rect)]) (ownL (fun x => keepF (docK how) xs xs' x (YS.getD i 0)) (YS.getD i 0) (YS.getD (i + 1) 0) XS (k + 1)) rfl (ownL_new (f := (fun x => keepF (docK how) xs xs' x (YS.getD i 0))) hkeep_ (fun J hJ he_ => by omega)) ?_
   refine cA (k + 1, (kw + 1), A48, g48, cp48) (show (k + 1) ≤ XS.length - 1 ∧ ((kw + 1)) ≤ (k + 1) from ⟨by omega, by omega⟩)
  refine cFa rfl <| cont_exit <| then_exit <| then_exit <| blk_exit <| zN <| cSq <| cont_rowEqR 0 (ownL (fun x => keepF (docK how) xs xs' x (YS.getD i 0)) (YS.getD i 0) (YS.getD (i + 1) 0) XS k) (ownD how xs xs' XS (YS.getD i 0) (YS.getD (i + 1) 0)) rfl (by unfold ownD; rw [show k = XS.length - 1 by omega]) ?_
  refine fR 0 kw Aw gw cw (ownD how xs xs' XS (YS.getD i 0) (YS.getD (i + 1) 0)) rfl fun hr50_a hr50_l hr50_c hr50_m => ?_
  refine drawn_enter 20 [] rfl (by kernel_rfl) ?_
  refine tD 0 [] [(0, 0), (1, 0), (2, 0), (3, 0)] 16 [3, 2, 1, 0] [(151, .bool (decide ((kr : Int) > 0)))] [148, 149, 150] <| sD 151 rfl (fun c51_ => ?_) fun c51_ => ?_
  ·
   refine tD 0 [] [(4, 0), (5, 0), (13, 0), (14, 0), (6, 0)] 11 [6, 14, 13, 5, 4, 3, 2, 1, 0] [(152, .slice Ar kr cr), (153, .slice Ar kr cr), (154, iq (kr : Int)), (161, .slice Ay ky cy), (162, iq (i : Int))] [] <| tK 0 [] [(7, 0)] 10 [7, 6, 14, 13, 5, 4, 3, 2, 1, 0] [(0, .slice A n cap), (1, .slice A' n' cap'), (2, iq how), (7, .slice Ax kx cx), (8, .slice Ay ky cy), (11, .slice Aq kq cq), (12, .slice Ar kr cr), (13, iq (i : Int)), (14, .slice Aw kw cw), (151, .bool true), (152, .slice Ar kr cr), (153, .slice Ar kr cr), (154, iq (kr : Int)), (155, iq (IntKind.i64.wrap ((kr : Int) - 1))), (161, .slice Ay ky cy), (162, iq (i : Int))] <| wI 155 ((kr : Int) - 1) <| tK 0 [] [(8, 0)] 9 [8, 7, 6, 14, 13, 5, 4, 3, 2, 1, 0] [(0, .slice A n cap), (1, .slice A' n' cap'), (2, iq how), (7, .slice Ax kx cx), (8, .slice Ay ky cy), (11, .slice Aq kq cq), (12, .slice Ar kr cr), (13, iq (i : Int)), (14, .slice Aw kw cw), (151, .bool true), (152, .slice Ar kr cr), (153, .slice Ar kr cr), (154, iq (kr : Int)), (155, iq ((kr : Int) - 1)), (156, iq (mn 0 ((kr : Int) - 1))), (161, .slice Ay ky cy), (162, iq (i : Int))] <| tK 0 [] [(9, 0)] 8 [9, 8, 7, 6, 14, 13, 5, 4, 3, 2, 1, 0] [(0, .slice A n cap), (1, .slice A' n' cap'), (2, iq how), (7, .slice Ax kx cx), (8, .slice Ay ky cy), (11, .slice Aq kq cq), (12, .slice Ar kr cr), (13, iq (i : Int)), (14, .slice Aw kw cw), (151, .bool true), (152, .slice Ar kr cr), (153, .slice Ar kr cr), (154, iq (kr : Int)), (155, iq ((kr : Int) - 1)), (156, iq (mn 0 ((kr : Int) - 1))), (157, iq (mx (mn 0 ((kr : Int) - 1)) 0)), (161, .slice Ay ky cy), (162, iq (i : Int))] <| rC 157 (iq 0) rfl (congrArg (Value.int .i64) (by unfold mx mn; omega)) <| rC 152 (.slice (pB gr) kr cr) rfl (by rw [hr36_a (by omega)]) <| sT 0 [] 10 7 158 (Instr.indexAt 58 (.slice (pB gr) kr cr) (iq 0)) (.pointer (some ⟨gr, 0 * 4, none⟩)) (fun w hT => rI 53 4 w) <| tK 0 [] [(11, 0)] 6 [11, 10, 9, 8, 7, 6, 14, 13, 5, 4, 3, 2, 1, 0] [(0, .slice A n cap), (1, .slice A' n' cap'), (2, iq how), (7, .slice Ax kx cx), (8, .slice Ay ky cy), (11, .slice Aq kq cq), (12, .slice Ar kr cr), (13, iq (i : Int)), (14, .slice Aw kw cw), (151, .bool true), (152, .slice (pB gr) kr cr), (153, .slice Ar kr cr), (154, iq (kr : Int)), (155, iq ((kr : Int) - 1)), (156, iq (mn 0 ((kr : Int) - 1))), (157, iq 0), (158, .pointer (some ⟨gr, 0 * 4, none⟩)), (159, .pointer (some ⟨gr, 0 * 4 + 3, none⟩)), (161, .slice Ay ky cy), (162, iq (i : Int))] <| sT 0 [] 12 5 160 (Instr.loadAt 3 (.pointer (some ⟨gr, 0 * 4 + 3, none⟩))) (iq ((rget ((mgG touchL (ownD how xs xs' XS) YS i).2) 0).y1)) (fun w hT => rL (Rd.cellF0 (Row.rd (hT 2 _ rfl)) 0 3 _ (by omega) rfl)) <| rC 161 (.slice (pB gy_) ky cy) rfl (by rw [hr30_a (by omega)]) <| sT 0 [] 15 4 163 (Instr.indexAt 34 (.slice (pB gy_) ky cy) (iq (i : Int))) (.pointer (some ⟨gy_, i, none⟩)) (fun w hT => rI 3 1 w) <| sT 0 [] 16 3 164 (Instr.loadAt 3 (.pointer (some ⟨gy_, i, none⟩))) (iq (YS.getD i 0)) (fun w hT => rL (Row.cell (hT 3 _ rfl) (i) _ (ivals_get (by omega)))) <| tK 0 [] [(17, 0), (18, 0), (19, 0)] 0 [19, 18, 17, 16, 15, 12, 11, 10, 9, 8, 7, 6, 14, 13, 5, 4, 3, 2, 1, 0] [(0, .slice A n cap), (1, .slice A' n' cap'), (2, iq how), (7, .slice Ax kx cx), (8, .slice Ay ky cy), (11, .slice Aq kq cq), (12, .slice Ar kr cr), (13, iq (i : Int)), (14, .slice Aw kw cw), (17, .bool (((rget ((mgG touchL (ownD how xs xs' XS) YS i).2) 0).y1) == (YS.getD i 0))), (152, .slice (pB gr) kr cr), (153, .slice Ar kr cr), (154, iq (kr : Int)), (155, iq ((kr : Int) - 1)), (156, iq (mn 0 ((kr : Int) - 1))), (157, iq 0), (158, .pointer (some ⟨gr, 0 * 4, none⟩)), (159, .pointer (some ⟨gr, 0 * 4 + 3, none⟩)), (160, iq ((rget ((mgG touchL (ownD how xs xs' XS) YS i).2) 0).y1)), (161, .slice (pB gy_) ky cy), (162, iq (i : Int)), (163, .pointer (some ⟨gy_, i, none⟩)), (164, iq (YS.getD i 0)), (165, .bool (((rget ((mgG touchL (ownD how xs xs' XS) YS i).2) 0).y1) == (YS.getD i 0)))] <| dD <| zN <| zSSR 6 <| bS [0, 0] 2 4 [(0, .slice A n cap), (1, .slice A' n' cap'), (2, iq how), (7, .slice Ax kx cx), (8, .slice Ay ky cy), (11, .slice Aq kq cq), (12, .slice Ar kr cr), (13, iq (i : Int)), (14, .slice Aw kw cw), (152, .slice (pB gr) kr cr), (153, .slice Ar kr cr), (154, iq (kr : Int)), (155, iq ((kr : Int) - 1)), (156, iq (mn 0 ((kr : Int) - 1))), (157, iq 0), (158, .pointer (some ⟨gr, 0 * 4, none⟩)), (159, .pointer (some ⟨gr, 0 * 4 + 3, none⟩)), (160, iq ((rget ((mgG touchL (ownD how xs xs' XS) YS i).2) 0).y1)), (161, .slice (pB gy_) ky cy), (162, iq (i : Int)), (163, .pointer (some ⟨gy_, i, none⟩)), (164, iq (YS.getD i 0)), (165, .bool (((rget ((mgG touchL (ownD how xs xs' XS) YS i).2) 0).y1) == (YS.getD i 0))), (168, .bool (((rget ((mgG touchL (ownD how xs xs' XS) YS i).2) 0).y1) == (YS.getD i 0)))] <| cSp 168 _ rfl (fun c52_ => ?_) fun c52_ => ?_
   ·
    refine rC 165 (.bool true) rfl (congrArg Value.bool c52_) ?_
    replace c52_ := eq_of_beqt c52_
    refine bD [0, 0] 4 2 [(169, .slice Ar kr cr), (170, .slice Aw kw cw)] [] <| pS 5 1 <| cP 171 (.bool (eqF span1 ((mgG touchL (ownD how xs xs' XS) YS i).2) (ownD how xs xs' XS (YS.getD i 0) (YS.getD (i + 1) 0)))) (fun w hT => refSpans Ar gr 0 kr cr ((mgG touchL (ownD how xs xs' XS) YS i).2) Aw gw 0 kw cw (ownD how xs xs' XS (YS.getD i 0) (YS.getD (i + 1) 0)) w (hT.viewRo (.cons (i := 2) rfl Vw.rowRd (.cons (i := 0) rfl Vw.rowRd .nil)) rfl) (by omega)) <| bD [0] 6 0 [(172, .bool (eqF span1 ((mgG touchL (ownD how xs xs' XS) YS i).2) (ownD how xs xs' XS (YS.getD i 0) (YS.getD (i + 1) 0))))] [] <| zDN <| cSp 172 _ rfl (fun c53_ => ?_) fun c53_ => ?_
    ·
     refine rC 171 (.bool true) rfl (congrArg Value.bool c53_) <| cTr rfl <| zSSR 1 ?_
     have hal_ : touchL (mgG touchL (ownD how xs xs' XS) YS i).2 (ownD how xs xs' XS (YS.getD i 0) (YS.getD (i + 1) 0)) (YS.getD i 0) = true := touchL_true (by omega) ‹_› ‹_›
     refine bS [0] 1 0 [(0, .slice A n cap), (1, .slice A' n' cap'), (2, iq how), (7, .slice Ax kx cx), (8, .slice Ay ky cy), (11, .slice Aq kq cq), (12, .slice Ar kr cr), (13, iq (i : Int)), (18, iq 0), (152, .slice (pB gr) kr cr), (153, .slice Ar kr cr), (154, iq (kr : Int)), (155, iq ((kr : Int) - 1)), (156, iq (mn 0 ((kr : Int) - 1))), (157, iq 0), (158, .pointer (some ⟨gr, 0 * 4, none⟩)), (159, .pointer (some ⟨gr, 0 * 4 + 3, none⟩)), (160, iq ((rget ((mgG touchL (ownD how xs xs' XS) YS i).2) 0).y1)), (161, .slice (pB gy_) ky cy), (162, iq (i : Int)), (163, .pointer (some ⟨gy_, i, none⟩)), (164, iq (YS.getD i 0)), (165, .bool true), (169, .slice Ar kr cr), (170, .slice Aw kw cw), (171, .bool true)] <| zDNB <| cont_rowEqR 2 ((mgG touchL (ownD how xs xs' XS) YS i).2) (setY1 (YS.getD (i + 1) 0) ((mgG touchL (ownD how xs xs' XS) YS i).2.take 0) ++ (mgG touchL (ownD how xs xs' XS) YS i).2.drop 0) rfl setY1_zero ?_
     refine cL (α := Nat) (fun x_ : Nat => x_ ≤ kr) (fun x_ : Nat => [(0, .slice A n cap), (1, .slice A' n' cap'), (2, iq how), (7, .slice Ax kx cx), (8, .slice Ay ky cy), (11, .slice Aq kq cq), (12, .slice Ar kr cr), (13, iq (i : Int)), (18, iq (x_ : Int)), (152, .slice (pB gr) kr cr), (153, .slice Ar kr cr), (154, iq (kr : Int)), (155, iq ((kr : Int) - 1)), (156, iq (mn 0 ((kr : Int) - 1))), (157, iq 0), (158, .pointer (some ⟨gr, 0 * 4, none⟩)), (159, .pointer (some ⟨gr, 0 * 4 + 3, none⟩)), (160, iq ((rget ((mgG touchL (ownD how xs xs' XS) YS i).2) 0).y1)), (161, .slice (pB gy_) ky cy), (162, iq (i : Int)), (163, .pointer (some ⟨gy_, i, none⟩)), (164, iq (YS.getD i 0)), (165, .bool true), (169, .slice Ar kr cr), (170, .slice Aw kw cw), (171, .bool true)]) (fun x_ : Nat => [.gen (rowE (Aw) gw kw cw 53 4 (rvals (ownD how xs xs' XS (YS.getD i 0) (YS.getD (i + 1) 0))) true), .gen (rowE (Aq) gq kq cq 53 4 (rvals ((mgG touchL (ownD how xs xs' XS) YS i).1)) true), .gen (rowE (Ar) gr kr cr 53 4 (rvals (setY1 (YS.getD (i + 1) 0) ((mgG touchL (ownD how xs xs' XS) YS i).2.take x_) ++ (mgG touchL (ownD how xs xs' XS) YS i).2.drop x_)) true), .gen (rowE (Ay) gy_ ky cy 3 1 (iV YS) true), .gen (rowE (Ax) gx_ kx cx 3 1 (iV XS) true), rD (A) g o n 4 (rvals xs), rD (A') g' o' n' 4 (rvals xs')]) (fun x_ : Nat => kr - x_) 0 (by omega) ?_
     rintro j hinv54_
     replace hinv54_ : j ≤ kr := hinv54_
     refine cM ?_
     have hj := hinv54_
     refine zSSR 4 <| bD [0, 0, 0, 0] 4 0 [(176, .bool (decide ((j : Int) < (kr : Int))))] [173, 174, 175] <| zDN <| sD 176 rfl (fun c55_ => ?_) fun c55_ => ?_
     ·
      refine cTr rfl <| cont_skip <| zN <| cSq <| cont_block <| cRg 10 rfl ?_
      refine fR 2 kr Ar gr cr (setY1 (YS.getD (i + 1) 0) ((mgG touchL (ownD how xs xs' XS) YS i).2.take j) ++ (mgG touchL (ownD how xs xs' XS) YS i).2.drop j) rfl fun hr56_a hr56_l hr56_c hr56_m => ?_
      refine bS [0, 0, 0, 0, 0] 5 5 [(0, .slice A n cap), (1, .slice A' n' cap'), (2, iq how), (7, .slice Ax kx cx), (8, .slice Ay ky cy), (11, .slice Aq kq cq), (12, .slice Ar kr cr), (13, iq (i : Int)), (18, iq (j : Int)), (152, .slice (pB gr) kr cr), (153, .slice Ar kr cr), (154, iq (kr : Int)), (155, iq ((kr : Int) - 1)), (156, iq (mn 0 ((kr : Int) - 1))), (157, iq 0), (158, .pointer (some ⟨gr, 0 * 4, none⟩)), (159, .pointer (some ⟨gr, 0 * 4 + 3, none⟩)), (160, iq ((rget ((mgG touchL (ownD how xs xs' XS) YS i).2) 0).y1)), (161, .slice (pB gy_) ky cy), (162, iq (i : Int)), (163, .pointer (some ⟨gy_, i, none⟩)), (164, iq (YS.getD i 0)), (165, .bool true), (169, .slice Ar kr cr), (170, .slice Aw kw cw), (171, .bool true), (179, .slice Ar kr cr), (180, iq (j : Int)), (181, .slice Ay ky cy), (183, iq (IntKind.i64.wrap ((i : Int) + 1)))] <| rC 183 (iq ((i + 1 : Nat) : Int)) rfl (by rw [show (((i + 1 : Nat) : Int)) = (i : Int) + 1 by omega]; exact wrapI (by omega) (by omega)) <| pS 6 4 <| rC 181 (.slice (pB gy_) ky cy) rfl (by rw [hr30_a (by omega)]) <| sS 184 (Instr.indexAt 34 (.slice (pB gy_) ky cy) (iq ((i + 1 : Nat) : Int))) (.pointer (some ⟨gy_, (i + 1 : Nat), none⟩)) (fun w hT => rI 3 1 w) <| pS 7 3 <| sS 185 (Instr.loadAt 3 (.pointer (some ⟨gy_, (i + 1 : Nat), none⟩))) (iq (YS.getD (i + 1 : Nat) 0)) (fun w hT => rL (Row.cell (hT.ok 3 _ rfl) ((i + 1 : Nat)) _ (ivals_get (by omega)))) <| pS 8 2 <| rC 179 (.slice (pB gr) kr cr) rfl (by rw [hr56_a (by omega)]) <| sS 186 (Instr.indexAt 58 (.slice (pB gr) kr cr) (iq (j : Int))) (.pointer (some ⟨gr, j * 4, none⟩)) (fun w hT => rI 53 4 w) <| bD [0] 9 1 [(187, .pointer (some ⟨gr, j * 4 + 3, none⟩))] [] <| pS 10 0 <| sem_stepU (Instr.storeAt 3 (.pointer (some ⟨gr, j * 4 + 3, none⟩)) (iq (YS.getD (i + 1 : Nat) 0))) (fun _ => [.gen (rowE (Aw) gw kw cw 53 4 (rvals (ownD how xs xs' XS (YS.getD i 0) (YS.getD (i + 1) 0))) true), .gen (rowE (Aq) gq kq cq 53 4 (rvals ((mgG touchL (ownD how xs xs' XS) YS i).1)) true), .gen (rowE (Ar) gr kr cr 53 4 (rvals ((setY1 (YS.getD (i + 1) 0) ((mgG touchL (ownD how xs xs' XS) YS i).2.take j) ++ (mgG touchL (ownD how xs xs' XS) YS i).2.drop j).set j { rget (setY1 (YS.getD (i + 1) 0) ((mgG touchL (ownD how xs xs' XS) YS i).2.take j) ++ (mgG touchL (ownD how xs xs' XS) YS i).2.drop j) j with y1 := YS.getD (i + 1 : Nat) 0 })) true), .gen (rowE (Ay) gy_ ky cy 3 1 (iV YS) true), .gen (rowE (Ax) gx_ kx cx 3 1 (iV XS) true), rD (A) g o n 4 (rvals xs), rD (A') g' o' n' 4 (rvals xs')]) (fun _ => True) (by kernel_rfl) (fun w hT => store_fieldR hT (i := 2) (J := j) (k := 3) { rget (setY1 (YS.getD (i + 1) 0) ((mgG touchL (ownD how xs xs' XS) YS i).2.take j) ++ (mgG touchL (ownD how xs xs' XS) YS i).2.drop j) j with y1 := YS.getD (i + 1 : Nat) 0 } rfl (by kernel_rfl) (by omega) (by decide) (by omega) rfl) (fun _ _ => ?_)
      refine zDbNR 3 <| bD [0, 0] 2 1 [(178, iq (IntKind.i64.wrap ((j : Int) + 1)))] [177] <| wI 178 ((j : Int) + 1) <| bS [0] 3 0 [(0, .slice A n cap), (1, .slice A' n' cap'), (2, iq how), (7, .slice Ax kx cx), (8, .slice Ay ky cy), (11, .slice Aq kq cq), (12, .slice Ar kr cr), (13, iq (i : Int)), (18, iq ((j : Int) + 1)), (152, .slice (pB gr) kr cr), (153, .slice Ar kr cr), (154, iq (kr : Int)), (155, iq ((kr : Int) - 1)), (156, iq (mn 0 ((kr : Int) - 1))), (157, iq 0), (158, .pointer (some ⟨gr, 0 * 4, none⟩)), (159, .pointer (some ⟨gr, 0 * 4 + 3, none⟩)), (160, iq ((rget ((mgG touchL (ownD how xs xs' XS) YS i).2) 0).y1)), (161, .slice (pB gy_) ky cy), (162, iq (i : Int)), (163, .pointer (some ⟨gy_, i, none⟩)), (164, iq (YS.getD i 0)), (165, .bool true), (169, .slice Ar kr cr), (170, .slice Aw kw cw), (171, .bool true)] <| zDN <| cont_rowEqR 2 ((setY1 (YS.getD (i + 1) 0) ((mgG touchL (ownD how xs xs' XS) YS i).2.take j) ++ (mgG touchL (ownD how xs xs' XS) YS i).2.drop j).set j { rget (setY1 (YS.getD (i + 1) 0) ((mgG touchL (ownD how xs xs' XS) YS i).2.take j) ++ (mgG touchL (ownD how xs xs' XS) YS i).2.drop j) j with y1 := YS.getD (i + 1 : Nat) 0 }) (setY1 (YS.getD (i + 1) 0) ((mgG touchL (ownD how xs xs' XS) YS i).2.take (j + 1)) ++ (mgG touchL (ownD how xs xs' XS) YS i).2.drop (j + 1)) rfl (setY1_step (by omega)) ?_
      refine cA (j + 1) (show (j + 1) ≤ kr from (by omega))
     refine cFa rfl <| cont_exit <| then_exit <| then_exit <| blk_exit <| zN <| cont_exit <| then_exit <| blk_exit <| zN <| cRg 3 rfl <| cont_rowEqR 2 (setY1 (YS.getD (i + 1) 0) ((mgG touchL (ownD how xs xs' XS) YS i).2.take j) ++ (mgG touchL (ownD how xs xs' XS) YS i).2.drop j) (setY1 (YS.getD (i + 1) 0) (mgG touchL (ownD how xs xs' XS) YS i).2) rfl (setY1_done (by omega)) ?_
     refine cont_pick [1, 2, 3, 4, 5, 6] [.gen (rowE (Aq) gq kq cq 53 4 (rvals ((mgG touchL (ownD how xs xs' XS) YS i).1)) true), .gen (rowE (Ar) gr kr cr 53 4 (rvals (setY1 (YS.getD (i + 1) 0) (mgG touchL (ownD how xs xs' XS) YS i).2)) true), .gen (rowE (Ay) gy_ ky cy 3 1 (iV YS) true), .gen (rowE (Ax) gx_ kx cx 3 1 (iV XS) true), rD (A) g o n 4 (rvals xs), rD (A') g' o' n' 4 (rvals xs')] (by decide) rfl rfl ?_
     refine bS [0, 0] 2 1 [(0, .slice A n cap), (1, .slice A' n' cap'), (2, iq how), (7, .slice Ax kx cx), (8, .slice Ay ky cy), (11, .slice Aq kq cq), (12, .slice Ar kr cr), (65, iq (IntKind.i64.wrap ((i : Int) + 1))), (152, .slice (pB gr) kr cr), (153, .slice Ar kr cr), (154, iq (kr : Int)), (155, iq ((kr : Int) - 1)), (156, iq (mn 0 ((kr : Int) - 1))), (157, iq 0), (158, .pointer (some ⟨gr, 0 * 4, none⟩)), (159, .pointer (some ⟨gr, 0 * 4 + 3, none⟩)), (160, iq ((rget ((mgG touchL (ownD how xs xs' XS) YS i).2) 0).y1)), (161, .slice (pB gy_) ky cy), (162, iq (i : Int)), (163, .pointer (some ⟨gy_, i, none⟩)), (164, iq (YS.getD i 0)), (165, .bool true), (169, .slice Ar kr cr), (170, .slice Aw kw cw), (171, .bool true)] <| rC 65 (iq ((i + 1 : Nat) : Int)) rfl (by rw [show (((i + 1 : Nat) : Int)) = (i : Int) + 1 by omega]; exact wrapI (by omega) (by omega)) <| bD [0] 3 0 [(13, iq ((i + 1 : Nat) : Int))] [] <| zDN ?_
     have hst_ := mgG_on (al := touchL) (own := (ownD how xs xs' XS)) (ys := YS) (i := i) hal_
     refine cont_rowEqR 0 ((mgG touchL (ownD how xs xs' XS) YS i).1) ((mgG touchL (ownD how xs xs' XS) YS (i + 1)).1) rfl hst_.1 ?_
     refine cont_rowEqR 1 (setY1 (YS.getD (i + 1) 0) (mgG touchL (ownD how xs xs' XS) YS i).2) ((mgG touchL (ownD how xs xs' XS) YS (i + 1)).2) rfl hst_.2 ?_
     refine cA (i + 1, kq, Aq, gq, cq, kr, Ar, gr, cr) (show (i + 1) ≤ YS.length - 1 from (by omega))
    refine rC 171 (.bool false) rfl (congrArg Value.bool c53_) <| zFKNSR 4 ?_
    have hal_ : touchL (mgG touchL (ownD how xs xs' XS) YS i).2 (ownD how xs xs' XS (YS.getD i 0) (YS.getD (i + 1) 0)) (YS.getD i 0) = false := by first | exact touchL_no0 (by omega) | exact touchL_no1 ‹_› | exact touchL_no2 ‹_›
    refine bS [0, 0] 2 2 [(0, .slice A n cap), (1, .slice A' n' cap'), (2, iq how), (7, .slice Ax kx cx), (8, .slice Ay ky cy), (13, iq (i : Int)), (14, .slice Aw kw cw), (152, .slice (pB gr) kr cr), (153, .slice Ar kr cr), (154, iq (kr : Int)), (155, iq ((kr : Int) - 1)), (156, iq (mn 0 ((kr : Int) - 1))), (157, iq 0), (158, .pointer (some ⟨gr, 0 * 4, none⟩)), (159, .pointer (some ⟨gr, 0 * 4 + 3, none⟩)), (160, iq ((rget ((mgG touchL (ownD how xs xs' XS) YS i).2) 0).y1)), (161, .slice (pB gy_) ky cy), (162, iq (i : Int)), (163, .pointer (some ⟨gy_, i, none⟩)), (164, iq (YS.getD i 0)), (165, .bool true), (169, .slice Ar kr cr), (170, .slice Aw kw cw), (171, .bool false), (188, .slice Aq kq cq), (189, .slice Ar kr cr)] <| pS 3 1 <| sSW (α := Option Addr × Nat × Nat) 190 (Builtin.append_ #[58, 58] 58 #[.slice Aq kq cq, .slice Ar kr cr]) (fun x_ => .slice x_.1 (kq + kr) x_.2.2) (fun x_ => [.gen (rowE (Aw) gw kw cw 53 4 (rvals (ownD how xs xs' XS (YS.getD i 0) (YS.getD (i + 1) 0))) true), .gen (rowE (x_.1) x_.2.1 (kq + kr) x_.2.2 53 4 (rvals (((mgG touchL (ownD how xs xs' XS) YS i).1) ++ ((mgG touchL (ownD how xs xs' XS) YS i).2))) true), .gen (rowE (Ar) gr kr cr 53 4 (rvals ((mgG touchL (ownD how xs xs' XS) YS i).2)) true), .gen (rowE (Ay) gy_ ky cy 3 1 (iV YS) true), .gen (rowE (Ax) gx_ kx cx 3 1 (iV XS) true), rD (A) g o n 4 (rvals xs), rD (A') g' o' n' 4 (rvals xs')]) (fun _ => True) (by kernel_rfl) (fun w hT => append_own (n' := (kq + kr)) (z := .agg #[iq 0, iq 0, iq 0, iq 0]) hT (i := 1) (bytes := 32) rfl (by kernel_rfl) (by kernel_rfl) rfl (by decide) (by decide) (Row.rd (hT.ok 2 _ rfl)) (rvals_one ((mgG touchL (ownD how xs xs' XS) YS i).2)) (by omega) (rvals_append ((mgG touchL (ownD how xs xs' XS) YS i).1) ((mgG touchL (ownD how xs xs' XS) YS i).2)) rfl) ?_
    rintro ⟨A57, g57, cp57⟩ -
    refine cM ?_
    refine fR 1 (kq + kr) A57 g57 cp57 (((mgG touchL (ownD how xs xs' XS) YS i).1) ++ ((mgG touchL (ownD how xs xs' XS) YS i).2)) rfl fun hr58_a hr58_l hr58_c hr58_m => ?_
    refine bD [0] 4 0 [(11, .slice A57 (kq + kr) cp57)] [] <| zDNR 2 <| bS [0, 0] 2 0 [(0, .slice A n cap), (1, .slice A' n' cap'), (2, iq how), (7, .slice Ax kx cx), (8, .slice Ay ky cy), (11, .slice A57 (kq + kr) cp57), (12, .slice Aw kw cw), (13, iq (i : Int)), (152, .slice (pB gr) kr cr), (153, .slice Ar kr cr), (154, iq (kr : Int)), (155, iq ((kr : Int) - 1)), (156, iq (mn 0 ((kr : Int) - 1))), (157, iq 0), (158, .pointer (some ⟨gr, 0 * 4, none⟩)), (159, .pointer (some ⟨gr, 0 * 4 + 3, none⟩)), (160, iq ((rget ((mgG touchL (ownD how xs xs' XS) YS i).2) 0).y1)), (161, .slice (pB gy_) ky cy), (162, iq (i : Int)), (163, .pointer (some ⟨gy_, i, none⟩)), (164, iq (YS.getD i 0)), (165, .bool true), (169, .slice Ar kr cr), (170, .slice Aw kw cw), (171, .bool false)] <| zDbNR 3 <| cont_pick [1, 0, 3, 4, 5, 6] [.gen (rowE (A57) g57 (kq + kr) cp57 53 4 (rvals (((mgG touchL (ownD how xs xs' XS) YS i).1) ++ ((mgG touchL (ownD how xs xs' XS) YS i).2))) true), .gen (rowE (Aw) gw kw cw 53 4 (rvals (ownD how xs xs' XS (YS.getD i 0) (YS.getD (i + 1) 0))) true), .gen (rowE (Ay) gy_ ky cy 3 1 (iV YS) true), .gen (rowE (Ax) gx_ kx cx 3 1 (iV XS) true), rD (A) g o n 4 (rvals xs), rD (A') g' o' n' 4 (rvals xs')] (by decide) rfl rfl ?_
    refine bD [0, 0] 2 1 [(65, iq (IntKind.i64.wrap ((i : Int) + 1)))] [64] <| rC 65 (iq ((i + 1 : Nat) : Int)) rfl (by rw [show (((i + 1 : Nat) : Int)) = (i : Int) + 1 by omega]; exact wrapI (by omega) (by omega)) <| bD [0] 3 0 [(13, iq ((i + 1 : Nat) : Int))] [] <| zDN ?_
    have hst_ := mgG_off (al := touchL) (own := (ownD how xs xs' XS)) (ys := YS) (i := i) hal_
    refine cont_rowEqR 0 (((mgG touchL (ownD how xs xs' XS) YS i).1) ++ ((mgG touchL (ownD how xs xs' XS) YS i).2)) ((mgG touchL (ownD how xs xs' XS) YS (i + 1)).1) rfl hst_.1 ?_
    refine cont_rowEqR 1 (ownD how xs xs' XS (YS.getD i 0) (YS.getD (i + 1) 0)) ((mgG touchL (ownD how xs xs' XS) YS (i + 1)).2) rfl hst_.2 ?_
    refine cA (i + 1, (kq + kr), A57, g57, cp57, kw, Aw, gw, cw) (show (i + 1) ≤ YS.length - 1 from (by omega))
   refine rC 165 (.bool false) rfl (congrArg Value.bool c52_) ?_
   replace c52_ := ne_of_beqf c52_
   refine bD [0, 0, 0, 0] 6 0 [(169, undef), (170, undef), (171, undef), (172, .bool false)] [] <| zDNFKNSR 4 ?_
   have hal_ : touchL (mgG touchL (ownD how xs xs' XS) YS i).2 (ownD how xs xs' XS (YS.getD i 0) (YS.getD (i + 1) 0)) (YS.getD i 0) = false := by first | exact touchL_no0 (by omega) | exact touchL_no1 ‹_› | exact touchL_no2 ‹_›
   refine bD [0, 0] 2 2 [(188, .slice Aq kq cq), (189, .slice Ar kr cr)] [] <| pS 3 1 <| sSW (α := Option Addr × Nat × Nat) 190 (Builtin.append_ #[58, 58] 58 #[.slice Aq kq cq, .slice Ar kr cr]) (fun x_ => .slice x_.1 (kq + kr) x_.2.2) (fun x_ => [.gen (rowE (Aw) gw kw cw 53 4 (rvals (ownD how xs xs' XS (YS.getD i 0) (YS.getD (i + 1) 0))) true), .gen (rowE (x_.1) x_.2.1 (kq + kr) x_.2.2 53 4 (rvals (((mgG touchL (ownD how xs xs' XS) YS i).1) ++ ((mgG touchL (ownD how xs xs' XS) YS i).2))) true), .gen (rowE (Ar) gr kr cr 53 4 (rvals ((mgG touchL (ownD how xs xs' XS) YS i).2)) true), .gen (rowE (Ay) gy_ ky cy 3 1 (iV YS) true), .gen (rowE (Ax) gx_ kx cx 3 1 (iV XS) true), rD (A) g o n 4 (rvals xs), rD (A') g' o' n' 4 (rvals xs')]) (fun _ => True) (by kernel_rfl) (fun w hT => append_own (n' := (kq + kr)) (z := .agg #[iq 0, iq 0, iq 0, iq 0]) hT (i := 1) (bytes := 32) rfl (by kernel_rfl) (by kernel_rfl) rfl (by decide) (by decide) (Row.rd (hT.ok 2 _ rfl)) (rvals_one ((mgG touchL (ownD how xs xs' XS) YS i).2)) (by omega) (rvals_append ((mgG touchL (ownD how xs xs' XS) YS i).1) ((mgG touchL (ownD how xs xs' XS) YS i).2)) rfl) ?_
   rintro ⟨A59, g59, cp59⟩ -
   refine nL [(0, .slice A n cap), (1, .slice A' n' cap'), (2, iq how), (7, .slice Ax kx cx), (8, .slice Ay ky cy), (13, iq (i : Int)), (14, .slice Aw kw cw), (152, .slice (pB gr) kr cr), (153, .slice Ar kr cr), (154, iq (kr : Int)), (155, iq ((kr : Int) - 1)), (156, iq (mn 0 ((kr : Int) - 1))), (157, iq 0), (158, .pointer (some ⟨gr, 0 * 4, none⟩)), (159, .pointer (some ⟨gr, 0 * 4 + 3, none⟩)), (160, iq ((rget ((mgG touchL (ownD how xs xs' XS) YS i).2) 0).y1)), (161, .slice (pB gy_) ky cy), (162, iq (i : Int)), (163, .pointer (some ⟨gy_, i, none⟩)), (164, iq (YS.getD i 0)), (165, .bool false), (169, undef), (170, undef), (171, undef), (188, .slice Aq kq cq), (189, .slice Ar kr cr), (190, .slice A59 (kq + kr) cp59)] ?_
   refine fR 1 (kq + kr) A59 g59 cp59 (((mgG touchL (ownD how xs xs' XS) YS i).1) ++ ((mgG touchL (ownD how xs xs' XS) YS i).2)) rfl fun hr60_a hr60_l hr60_c hr60_m => ?_
   refine bD [0] 4 0 [(11, .slice A59 (kq + kr) cp59)] [] <| zDNR 2 <| bD [0, 0] 2 0 [(12, .slice Aw kw cw)] [191] <| zDbNR 3 <| cont_pick [1, 0, 3, 4, 5, 6] [.gen (rowE (A59) g59 (kq + kr) cp59 53 4 (rvals (((mgG touchL (ownD how xs xs' XS) YS i).1) ++ ((mgG touchL (ownD how xs xs' XS) YS i).2))) true), .gen (rowE (Aw) gw kw cw 53 4 (rvals (ownD how xs xs' XS (YS.getD i 0) (YS.getD (i + 1) 0))) true), .gen (rowE (Ay) gy_ ky cy 3 1 (iV YS) true), .gen (rowE (Ax) gx_ kx cx 3 1 (iV XS) true), rD (A) g o n 4 (rvals xs), rD (A') g' o' n' 4 (rvals xs')] (by decide) rfl rfl ?_
   refine bS [0, 0] 2 1 [(0, .slice A n cap), (1, .slice A' n' cap'), (2, iq how), (7, .slice Ax kx cx), (8, .slice Ay ky cy), (11, .slice A59 (kq + kr) cp59), (12, .slice Aw kw cw), (65, iq (IntKind.i64.wrap ((i : Int) + 1))), (152, .slice (pB gr) kr cr), (153, .slice Ar kr cr), (154, iq (kr : Int)), (155, iq ((kr : Int) - 1)), (156, iq (mn 0 ((kr : Int) - 1))), (157, iq 0), (158, .pointer (some ⟨gr, 0 * 4, none⟩)), (159, .pointer (some ⟨gr, 0 * 4 + 3, none⟩)), (160, iq ((rget ((mgG touchL (ownD how xs xs' XS) YS i).2) 0).y1)), (161, .slice (pB gy_) ky cy), (162, iq (i : Int)), (163, .pointer (some ⟨gy_, i, none⟩)), (164, iq (YS.getD i 0)), (165, .bool false), (169, undef), (170, undef), (171, undef)] <| rC 65 (iq ((i + 1 : Nat) : Int)) rfl (by rw [show (((i + 1 : Nat) : Int)) = (i : Int) + 1 by omega]; exact wrapI (by omega) (by omega)) <| bD [0] 3 0 [(13, iq ((i + 1 : Nat) : Int))] [] <| zDN ?_
   have hst_ := mgG_off (al := touchL) (own := (ownD how xs xs' XS)) (ys := YS) (i := i) hal_
   refine cont_rowEqR 0 (((mgG touchL (ownD how xs xs' XS) YS i).1) ++ ((mgG touchL (ownD how xs xs' XS) YS i).2)) ((mgG touchL (ownD how xs xs' XS) YS (i + 1)).1) rfl hst_.1 ?_
   refine cont_rowEqR 1 (ownD how xs xs' XS (YS.getD i 0) (YS.getD (i + 1) 0)) ((mgG touchL (ownD how xs xs' XS) YS (i + 1)).2) rfl hst_.2 ?_
   refine cA (i + 1, (kq + kr), A59, g59, cp59, kw, Aw, gw, cw) (show (i + 1) ≤ YS.length - 1 from (by omega))
  refine tD 0 [] [(4, 0), (5, 0), (13, 0), (14, 0), (6, 0), (15, 0), (7, 0), (16, 0), (8, 0), (9, 0), (10, 0), (11, 0), (12, 0), (17, 0), (18, 0), (19, 0)] 0 [19, 18, 17, 12, 11, 10, 9, 8, 16, 7, 15, 6, 14, 13, 5, 4, 3, 2, 1, 0] [(17, .bool false), (152, undef), (153, undef), (154, undef), (155, undef), (156, undef), (157, undef), (158, undef), (159, undef), (160, undef), (161, undef), (162, undef), (163, undef), (164, undef), (165, undef)] [166] <| dD <| zN <| zSSR 6 <| bS [0, 0, 0, 0, 0, 0] 6 0 [(0, .slice A n cap), (1, .slice A' n' cap'), (2, iq how), (7, .slice Ax kx cx), (8, .slice Ay ky cy), (11, .slice Aq kq cq), (12, .slice Ar kr cr), (13, iq (i : Int)), (14, .slice Aw kw cw), (152, undef), (153, undef), (154, undef), (155, undef), (156, undef), (157, undef), (158, undef), (159, undef), (160, undef), (161, undef), (162, undef), (163, undef), (164, undef), (165, undef), (169, undef), (170, undef), (171, undef), (172, .bool false)] <| zDNFKNSR 4 ?_
  have hal_ : touchL (mgG touchL (ownD how xs xs' XS) YS i).2 (ownD how xs xs' XS (YS.getD i 0) (YS.getD (i + 1) 0)) (YS.getD i 0) = false := by first | exact touchL_no0 (by omega) | exact touchL_no1 ‹_› | exact touchL_no2 ‹_›
  refine bD [0, 0] 2 2 [(188, .slice Aq kq cq), (189, .slice Ar kr cr)] [] <| pS 3 1 <| sSW (α := Option Addr × Nat × Nat) 190 (Builtin.append_ #[58, 58] 58 #[.slice Aq kq cq, .slice Ar kr cr]) (fun x_ => .slice x_.1 (kq + kr) x_.2.2) (fun x_ => [.gen (rowE (Aw) gw kw cw 53 4 (rvals (ownD how xs xs' XS (YS.getD i 0) (YS.getD (i + 1) 0))) true), .gen (rowE (x_.1) x_.2.1 (kq + kr) x_.2.2 53 4 (rvals (((mgG touchL (ownD how xs xs' XS) YS i).1) ++ ((mgG touchL (ownD how xs xs' XS) YS i).2))) true), .gen (rowE (Ar) gr kr cr 53 4 (rvals ((mgG touchL (ownD how xs xs' XS) YS i).2)) true), .gen (rowE (Ay) gy_ ky cy 3 1 (iV YS) true), .gen (rowE (Ax) gx_ kx cx 3 1 (iV XS) true), rD (A) g o n 4 (rvals xs), rD (A') g' o' n' 4 (rvals xs')]) (fun _ => True) (by kernel_rfl) (fun w hT => append_own (n' := (kq + kr)) (z := .agg #[iq 0, iq 0, iq 0, iq 0]) hT (i := 1) (bytes := 32) rfl (by kernel_rfl) (by kernel_rfl) rfl (by decide) (by decide) (Row.rd (hT.ok 2 _ rfl)) (rvals_one ((mgG touchL (ownD how xs xs' XS) YS i).2)) (by omega) (rvals_append ((mgG touchL (ownD how xs xs' XS) YS i).1) ((mgG touchL (ownD how xs xs' XS) YS i).2)) rfl) ?_
  rintro ⟨A61, g61, cp61⟩ -
  refine cM ?_
  refine fR 1 (kq + kr) A61 g61 cp61 (((mgG touchL (ownD how xs xs' XS) YS i).1) ++ ((mgG touchL (ownD how xs xs' XS) YS i).2)) rfl fun hr62_a hr62_l hr62_c hr62_m => ?_
  refine bS [0] 4 0 [(0, .slice A n cap), (1, .slice A' n' cap'), (2, iq how), (7, .slice Ax kx cx), (8, .slice Ay ky cy), (11, .slice A61 (kq + kr) cp61), (13, iq (i : Int)), (14, .slice Aw kw cw), (152, undef), (153, undef), (154, undef), (155, undef), (156, undef), (157, undef), (158, undef), (159, undef), (160, undef), (161, undef), (162, undef), (163, undef), (164, undef), (165, undef), (169, undef), (170, undef), (171, undef)] <| zDNR 2 <| bD [0, 0] 2 0 [(12, .slice Aw kw cw)] [191] <| zDbNR 3 <| cont_pick [1, 0, 3, 4, 5, 6] [.gen (rowE (A61) g61 (kq + kr) cp61 53 4 (rvals (((mgG touchL (ownD how xs xs' XS) YS i).1) ++ ((mgG touchL (ownD how xs xs' XS) YS i).2))) true), .gen (rowE (Aw) gw kw cw 53 4 (rvals (ownD how xs xs' XS (YS.getD i 0) (YS.getD (i + 1) 0))) true), .gen (rowE (Ay) gy_ ky cy 3 1 (iV YS) true), .gen (rowE (Ax) gx_ kx cx 3 1 (iV XS) true), rD (A) g o n 4 (rvals xs), rD (A') g' o' n' 4 (rvals xs')] (by decide) rfl rfl ?_
  refine bD [0, 0] 2 1 [(65, iq (IntKind.i64.wrap ((i : Int) + 1)))] [64] <| rC 65 (iq ((i + 1 : Nat) : Int)) rfl (by rw [show (((i + 1 : Nat) : Int)) = (i : Int) + 1 by omega]; exact wrapI (by omega) (by omega)) <| bS [0] 3 0 [(0, .slice A n cap), (1, .slice A' n' cap'), (2, iq how), (7, .slice Ax kx cx), (8, .slice Ay ky cy), (11, .slice A61 (kq + kr) cp61), (12, .slice Aw kw cw), (13, iq ((i + 1 : Nat) : Int)), (152, undef), (153, undef), (154, undef), (155, undef), (156, undef), (157, undef), (158, undef), (159, undef), (160, undef), (161, undef), (162, undef), (163, undef), (164, undef), (165, undef), (169, undef), (170, undef), (171, undef)] <| zDN ?_
  have hst_ := mgG_off (al := touchL) (own := (ownD how xs xs' XS)) (ys := YS) (i := i) hal_
  refine cont_rowEqR 0 (((mgG touchL (ownD how xs xs' XS) YS i).1) ++ ((mgG touchL (ownD how xs xs' XS) YS i).2)) ((mgG touchL (ownD how xs xs' XS) YS (i + 1)).1) rfl hst_.1 ?_
  refine cont_rowEqR 1 (ownD how xs xs' XS (YS.getD i 0) (YS.getD (i + 1) 0)) ((mgG touchL (ownD how xs xs' XS) YS (i + 1)).2) rfl hst_.2 ?_
  refine cA (i + 1, (kq + kr), A61, g61, cp61, kw, Aw, gw, cw) (show (i + 1) ≤ YS.length - 1 from (by omega))
 refine zFXxxeNSR 4 <| fR 0 kq Aq gq cq ((mgG touchL (ownD how xs xs' XS) YS i).1) rfl fun hr63_a hr63_l hr63_c hr63_m => ?_
 refine fR 1 kr Ar gr cr ((mgG touchL (ownD how xs xs' XS) YS i).2) rfl fun hr64_a hr64_l hr64_c hr64_m => ?_
 refine bS [0, 0] 2 2 [(192, .slice Aq kq cq), (193, .slice Ar kr cr)] <| pS 3 1 <| sSW (α := Option Addr × Nat × Nat) 194 (Builtin.append_ #[58, 58] 58 #[.slice Aq kq cq, .slice Ar kr cr]) (fun x_ => .slice x_.1 (kq + kr) x_.2.2) (fun x_ => [.gen (rowE (x_.1) x_.2.1 (kq + kr) x_.2.2 53 4 (rvals (((mgG touchL (ownD how xs xs' XS) YS i).1) ++ ((mgG touchL (ownD how xs xs' XS) YS i).2))) true), .gen (rowE (Ar) gr kr cr 53 4 (rvals ((mgG touchL (ownD how xs xs' XS) YS i).2)) true), .gen (rowE (Ay) gy_ ky cy 3 1 (iV YS) true), .gen (rowE (Ax) gx_ kx cx 3 1 (iV XS) true), rD (A) g o n 4 (rvals xs), rD (A') g' o' n' 4 (rvals xs')]) (fun _ => True) (by kernel_rfl) (fun w hT => append_own (n' := (kq + kr)) (z := .agg #[iq 0, iq 0, iq 0, iq 0]) hT (i := 0) (bytes := 32) rfl (by kernel_rfl) (by kernel_rfl) rfl (by decide) (by decide) (Row.rd (hT.ok 1 _ rfl)) (rvals_one ((mgG touchL (ownD how xs xs' XS) YS i).2)) (by omega) (rvals_append ((mgG touchL (ownD how xs xs' XS) YS i).1) ((mgG touchL (ownD how xs xs' XS) YS i).2)) rfl) ?_
 rintro ⟨A65, g65, cp65⟩ -
 refine cM ?_
 refine fR 0 (kq + kr) A65 g65 cp65 (((mgG touchL (ownD how xs xs' XS) YS i).1) ++ ((mgG touchL (ownD how xs xs' XS) YS i).2)) rfl fun hr66_a hr66_l hr66_c hr66_m => ?_
 refine bS [0] 4 0 [(6, .slice A65 (kq + kr) cp65)] <| zDNr <| rA rfl 0 (.slice A65 (kq + kr) cp65) fun w hT => ?_
 replace hT := hT.erase 5 (fun e h hw => by cases h; first | rfl | cases hw)
 replace hT := hT.erase 4 (fun e h hw => by cases h; first | rfl | cases hw)
 replace hT := hT.erase 3 (fun e h hw => by cases h; first | rfl | cases hw)
 replace hT := hT.erase 2 (fun e h hw => by cases h; first | rfl | cases hw)
 replace hT := hT.erase 1 (fun e h hw => by cases h; first | rfl | cases hw)
 rw [show i = YS.length - 1 by omega, regD_of how xs xs' XS YS hX hY] at hT
 exact ⟨_, _, _, _, rfl, hT⟩
theorem refOf (A : Option Addr) (g o n cap : Nat) (xs : List Rect) (w : World) (hT0 : Tab w w [rD (A) g o n 4 (rvals xs)]) (hn : n ≤ 262144) :
    Calls Try.prog 48 #[.slice A n cap] w fun e w' => ∃ (A_ : Option Addr) (g_ k_ cp_ : Nat), e = .returned (.slice A_ k_ cp_) ∧ Tab w w' [.gen (rowE (A_) g_ k_ cp_ 53 4 (rvals (canR xs)) true)] := by
 obtain ⟨hra, hrl⟩ := Rd.factsR (hT0.ok 0 _ rfl)
 refine eN [(0, .slice A n cap)] Try.func48 Try.ntmps48 rfl hT0 ?_
 refine zSR 1 <| bD [0] 1 0 [] [2] <| zDNSR 3 <| bS [0] 1 2 [(3, .slice A n cap)] <| pS 2 1 <| cont_nilrow 53 4 ?_
 refine cG (d := 4) (α := Option Addr × Nat × Nat × Nat) (fun x_ => .slice x_.1 x_.2.2.1 x_.2.2.2) (fun x_ => [.gen (rowE (x_.1) x_.2.1 x_.2.2.1 x_.2.2.2 53 4 (rvals (regM (docK 0) xs [])) true), .gen (rowE (none) 0 0 0 53 4 (rvals []) true), rD (A) g o n 4 (rvals xs)]) (fun x_ => True) (fun w hT => (refMerge A g o n cap xs none 0 0 0 0 [] 0 w (hT.viewRo (.cons (i := 1) rfl Vw.rd (.cons (i := 0) rfl Vw.rowRd .nil)) rfl) (by omega)).mono fun e w' ⟨A2, g3, k4, cp5, he_, ht_⟩ => ⟨(A2, g3, k4, cp5), he_, trivial, hT.news ht_ rfl⟩) ?_
 rintro ⟨A2, g3, k4, cp5⟩ hf6_
 refine fR 0 k4 A2 g3 cp5 (regM (docK 0) xs []) rfl fun hr7_a hr7_l hr7_c hr7_m => ?_
 refine bS [0] 3 0 [(2, .slice A2 k4 cp5)] <| zDNr <| rA rfl 0 (.slice A2 k4 cp5) fun w hT => ?_
 replace hT := hT.erase 2 (fun e h hw => by cases h; first | rfl | cases hw)
 replace hT := hT.erase 1 (fun e h hw => by cases h; first | rfl | cases hw)
 exact ⟨_, _, _, _, rfl, hT⟩
theorem refSmallL (A : Option Addr) (g o n cap : Nat) (xs : List Rect) (m : Nat) (w : World) (hT0 : Tab w w [rD (A) g o n 4 (rvals xs)]) (hx : ∀ r ∈ xs, R64 r) (hm : m ≤ 1000) :
    Calls Try.prog 47 #[.slice A n cap, iQ (m : Int)] w fun e w' => ∃ (A_ : Option Addr) (g_ k_ cp_ : Nat), e = .returned (.slice A_ k_ cp_) ∧ Tab w w' [.gen (rowE (A_) g_ k_ cp_ 53 4 (rvals (smallL xs m)) true)] := by
 obtain ⟨hra, hrl⟩ := Rd.factsR (hT0.ok 0 _ rfl)
 refine eN [(0, .slice A n cap), (1, iq (m : Int))] Try.func47 Try.ntmps47 rfl hT0 ?_
 refine zSR 1 <| bD [0] 1 0 [] [4] <| zDNSR 1 <| bD [0] 1 0 [(5, .slice none 0 0)] [] <| zDNSSR 1 <| bD [0] 1 0 [(6, iq 0)] [] <| zDNB <| cont_nilrow 53 4 ?_
 refine cont_rowEqR 0 ([]) (smallL xs 0) rfl rfl ?_
 refine cL (α := Nat × Option Addr × Nat × Nat) (fun x_ : Nat × Option Addr × Nat × Nat => x_.1 ≤ n ∧ x_.1 ≤ m) (fun x_ : Nat × Option Addr × Nat × Nat => [(0, .slice A n cap), (1, iq (m : Int)), (5, .slice x_.2.1 x_.1 x_.2.2.2), (6, iq (x_.1 : Int))]) (fun x_ : Nat × Option Addr × Nat × Nat => [.gen (rowE (x_.2.1) x_.2.2.1 x_.1 x_.2.2.2 53 4 (rvals (smallL xs x_.1)) true), rD (A) g o n 4 (rvals xs)]) (fun x_ : Nat × Option Addr × Nat × Nat => n - x_.1) (0, none, 0, 0) (show (0) ≤ n ∧ (0) ≤ m from ⟨by omega, by omega⟩) ?_
 rintro ⟨i, Aq, gq, cq⟩ hinv2_
 replace hinv2_ : i ≤ n ∧ i ≤ m := hinv2_
 obtain ⟨hi, him⟩ := hinv2_
 have hri : i < n → R64 (rget xs i) := fun h_ => hx _ (rget_mem (by omega))
 refine zSSR 9 <| bD [0, 0, 0, 0, 0] 5 4 [(11, .bool (decide ((i : Int) < (n : Int))))] [7, 8, 9, 10] <| sD 11 rfl (fun c3_ => ?_) fun c3_ => ?_
 ·
  refine bD [0, 0, 0, 0] 9 0 [(12, iq (i : Int)), (13, iq (m : Int)), (14, .bool (decide ((i : Int) < (m : Int)))), (15, .bool (decide ((i : Int) < (m : Int))))] [] <| zDN <| cSp 15 _ rfl (fun c4_ => ?_) fun c4_ => ?_
  ·
   refine rC 14 (.bool true) rfl (congrArg Value.bool c4_) ?_
   replace c4_ := of_decide_eq_true c4_
   refine cTr rfl <| cont_skip <| zN <| cSq <| cont_block <| cRg 9 rfl <| bD [0, 0, 0] 3 6 [(18, .slice Aq i cq), (19, .slice A n cap), (20, iq (i : Int))] [] <| pS 4 5 <| rC 19 (.slice (some ⟨g, o, none⟩) n cap) rfl (by rw [hra (by omega)]) <| sS 21 (Instr.indexAt 58 (.slice (some ⟨g, o, none⟩) n cap) (iq (i : Int))) (.pointer (some ⟨g, o + i * 4, none⟩)) (fun w hT => rI 53 4 w) <| pS 5 4 <| sS 22 (Instr.loadAt 53 (.pointer (some ⟨g, o + i * 4, none⟩))) (.agg #[iq ((rget xs i).x0), iq ((rget xs i).y0), iq ((rget xs i).x1), iq ((rget xs i).y1)]) (fun w hT => rM 4 (rcells (rget xs i)) (Rd.rect (hT.ok 1 _ rfl) (by omega))) <| pS 6 3 <| cP 23 (.agg #[iq ((smallR (rget xs i)).x0), iq ((smallR (rget xs i)).y0), iq ((smallR (rget xs i)).x1), iq ((smallR (rget xs i)).y1)]) (fun w hT => refSmallQ (rget xs i) w (hri (by omega))) <| bW [0] 7 2 (fun b5 => [(0, .slice A n cap), (1, iq (m : Int)), (6, iq (i : Int)), (12, iq (i : Int)), (13, iq (m : Int)), (14, .bool true), (18, .slice Aq i cq), (24, .slice (pB b5) 1 1)]) (fun b5 => [.cells b5 [iq ((smallR (rget xs i)).x0), iq ((smallR (rget xs i)).y0), iq ((smallR (rget xs i)).x1), iq ((smallR (rget xs i)).y1)] 53 true, .gen (rowE (Aq) gq i cq 53 4 (rvals (smallL xs i)) true), rD (A) g o n 4 (rvals xs)]) [0, 1, 6, 12, 13, 14, 18, 24] fun b5 => ?_
   refine pS 8 1 <| sSW (α := Option Addr × Nat × Nat) 25 (Builtin.append_ #[58, 58] 58 #[.slice Aq i cq, .slice (pB b5) 1 1]) (fun x_ => .slice x_.1 (i + 1) x_.2.2) (fun x_ => [.cells b5 [iq ((smallR (rget xs i)).x0), iq ((smallR (rget xs i)).y0), iq ((smallR (rget xs i)).x1), iq ((smallR (rget xs i)).y1)] 53 true, .gen (rowE (x_.1) x_.2.1 (i + 1) x_.2.2 53 4 (rvals ((smallL xs i) ++ [(⟨(smallR (rget xs i)).x0, (smallR (rget xs i)).y0, (smallR (rget xs i)).x1, (smallR (rget xs i)).y1⟩ : Rect)])) true), rD (A) g o n 4 (rvals xs)]) (fun _ => True) (by kernel_rfl) (fun w hT => append_own (n' := (i + 1)) (z := .agg #[iq 0, iq 0, iq 0, iq 0]) hT (i := 1) (bytes := 32) rfl (by kernel_rfl) (by kernel_rfl) rfl (by decide) (by decide) (Rd.ofCells (vals := rvals [(⟨(smallR (rget xs i)).x0, (smallR (rget xs i)).y0, (smallR (rget xs i)).x1, (smallR (rget xs i)).y1⟩ : Rect)]) (hT.ok 0 _ rfl) rfl rfl) (rvals_one [(⟨(smallR (rget xs i)).x0, (smallR (rget xs i)).y0, (smallR (rget xs i)).x1, (smallR (rget xs i)).y1⟩ : Rect)]) (by omega) (rvals_append (smallL xs i) [(⟨(smallR (rget xs i)).x0, (smallR (rget xs i)).y0, (smallR (rget xs i)).x1, (smallR (rget xs i)).y1⟩ : Rect)]) rfl) ?_
   rintro ⟨A6, g6, cp6⟩ -
   refine fR 1 (i + 1) A6 g6 cp6 ((smallL xs i) ++ [(⟨(smallR (rget xs i)).x0, (smallR (rget xs i)).y0, (smallR (rget xs i)).x1, (smallR (rget xs i)).y1⟩ : Rect)]) rfl fun hr7_a hr7_l hr7_c hr7_m => ?_
   refine bD [0] 9 0 [(5, .slice A6 (i + 1) cp6)] [] <| fG 0 <| zDbNR 3 <| bD [0, 0] 2 1 [(17, iq (IntKind.i64.wrap ((i : Int) + 1)))] [16] <| wI 17 ((i : Int) + 1) <| bD [0] 3 0 [(6, iq ((i : Int) + 1))] [] <| zDN <| cont_rowEqR 0 ((smallL xs i) ++ [(⟨(smallR (rget xs i)).x0, (smallR (rget xs i)).y0, (smallR (rget xs i)).x1, (smallR (rget xs i)).y1⟩ : Rect)]) (smallL xs (i + 1)) rfl (smallL_put (by omega)) ?_
   refine cA (i + 1, A6, g6, cp6) (show (i + 1) ≤ n ∧ (i + 1) ≤ m from ⟨by omega, by omega⟩)
  refine rC 14 (.bool false) rfl (congrArg Value.bool c4_) ?_
  replace c4_ := of_decide_eq_false c4_
  refine zFXxxeNSR 2 <| bS [0, 0] 2 0 [(4, .slice Aq i cq)] <| zDNr <| rA rfl 0 (.slice Aq i cq) fun w hT => ?_
  replace hT := hT.erase 1 (fun e h hw => by cases h; first | rfl | cases hw)
  rw [smallL_end (m := m) (by omega) (by omega) (by omega)] at hT
  exact ⟨_, _, _, _, rfl, hT⟩
 refine bD [0, 0, 0, 0] 9 0 [(12, undef), (13, undef), (14, undef), (15, .bool false)] [] <| zDN <| zFXxxeNSR 2 <| bS [0, 0] 2 0 [(4, .slice Aq i cq)] <| zDNr <| rA rfl 0 (.slice Aq i cq) fun w hT => ?_
 replace hT := hT.erase 1 (fun e h hw => by cases h; first | rfl | cases hw)
 rw [smallL_end (m := m) (by omega) (by omega) (by omega)] at hT
 exact ⟨_, _, _, _, rfl, hT⟩
end Go.Proofs.Ytlfahohbkgdabaa
namespace Go.Proofs.Ytlfahohbkgdabaa
open Go Go.ChangeShapes Go.WideShapes Go.ChangeAt Go.RowKit Go.Deep
variable {dfs : List Deferred}
section
def dget {α : Type} [Inhabited α] (l : List α) (i : Nat) : α := l.getD i default
theorem dget_zero {α : Type} [Inhabited α] (a : α) (l : List α) : dget (a :: l) 0 = a := rfl
theorem dget_succ {α : Type} [Inhabited α] (a : α) (l : List α) (i : Nat) : dget (a :: l) (i + 1) = dget l i := by simp [dget]
theorem dget_mem {α : Type} [Inhabited α] {l : List α} {i : Nat} (h : i < l.length) : dget l i ∈ l := by
  unfold dget; rw [List.getD_eq_getElem?_getD, List.getElem?_eq_getElem h]; simp
def dvals {α : Type} (cel : α → List Value) : List α → List Value
  | [] => []
  | a :: l => cel a ++ dvals cel l
theorem dvals_length {α : Type} {cel : α → List Value} {z : Nat} (hz : ∀ a, (cel a).length = z) : ∀ l : List α, (dvals cel l).length = l.length * z := by
  intro l
  induction l with
  | nil => simp [dvals]
  | cons a l ih => rw [dvals, List.length_append, ih, hz, List.length_cons, Nat.succ_mul, Nat.add_comm]
theorem dvals_get {α : Type} [Inhabited α] {cel : α → List Value} {z : Nat} (hz : ∀ a, (cel a).length = z) : ∀ {l : List α} {i k : Nat} {v : Value}, i < l.length → (cel (dget l i))[k]? = some v → (dvals cel l)[i * z + k]? = some v := by
  intro l
  induction l with
  | nil => intro i k v h; simp at h
  | cons a l ih =>
    intro i k v h hk
    cases i with
    | zero =>
      rw [dget_zero] at hk
      rw [Nat.zero_mul, Nat.zero_add, dvals, List.getElem?_append_left (List.getElem?_eq_some_iff.1 hk).1]
      exact hk
    | succ i =>
      rw [dget_succ] at hk
      rw [dvals, Nat.succ_mul, List.getElem?_append_right (by rw [hz]; omega), hz, show i * z + z + k - z = i * z + k by omega]
      exact ih (by simpa using h) hk
theorem Rd.dcell {α : Type} [Inhabited α] {w : World} {A : Option Addr} {g o n z : Nat} {cel : α → List Value} {l : List α} (hz : ∀ a, (cel a).length = z) (h : Rd w A g o n z (dvals cel l)) {i : Nat} (hi : i < l.length) : ∀ j v, (cel (dget l i))[j]? = some v → w.cell? ⟨g, (o + i * z) + j, none⟩ = some v := fun j v hj => by
  have := h.cell (i * z + j) v (dvals_get hz hi hj)
  rwa [← Nat.add_assoc] at this
theorem Rd.dsub {α : Type} [Inhabited α] {w : World} {A : Option Addr} {g o n z : Nat} {cel : α → List Value} {l : List α} (hz : ∀ a, (cel a).length = z) (h : Rd w A g o n z (dvals cel l)) {i : Nat} (hi : i < l.length) (f m : Nat) {cs : List Value} (hc : ((cel (dget l i)).drop f).take m = cs) : ∀ j v, cs[j]? = some v → w.cell? ⟨g, (o + i * z + f) + j, none⟩ = some v := fun j v hj => by
  subst hc
  rw [List.getElem?_take] at hj
  split at hj
  · rw [List.getElem?_drop] at hj
    have := h.dcell hz hi (f + j) v hj
    rwa [← Nat.add_assoc] at this
  · cases hj
theorem Rd.dcell1 {α : Type} [Inhabited α] {w : World} {A : Option Addr} {g o n z : Nat} {cel : α → List Value} {l : List α} (hz : ∀ a, (cel a).length = z) (h : Rd w A g o n z (dvals cel l)) {i : Nat} (hi : i < l.length) (f : Nat) {v : Value} (hv : (cel (dget l i))[f]? = some v) : w.cell? ⟨g, o + i * z + f, none⟩ = some v := h.dcell hz hi f v hv
theorem Rd.factsD {α : Type} {w : World} {A : Option Addr} {g o n z : Nat} {cel : α → List Value} {l : List α} (hz : ∀ a, (cel a).length = z) (h0 : 0 < z) (h : Rd w A g o n z (dvals cel l)) : (0 < n → A = some ⟨g, o, none⟩) ∧ l.length = n := by
  refine ⟨h.at_, ?_⟩
  have := h.len
  rw [dvals_length hz] at this
  exact Nat.eq_of_mul_eq_mul_right h0 this
theorem dget_map {α : Type} [Inhabited α] {F : Nat → α} {n i : Nat} (h : i < n) : dget ((List.range n).map F) i = F i := by
  simp [dget, List.getD_eq_getElem?_getD, h]
end
def subE (n : Nat) (G : Nat → GenEnt) : GenEnt :=
  { blk := fun k => ∃ i, i < n ∧ (G i).blk k, wr := false, own := false, ok := fun w => ∀ i, i < n → (G i).ok w,
    stable := fun w w' hb h i hi => (G i).stable w w' (fun b hbk => hb b ⟨i, hi, hbk⟩) (h i hi),
    inb := fun w b h hb => by obtain ⟨i, hi, hk⟩ := hb; exact (G i).inb w b (h i hi) hk }
theorem Tab.sub {w0 w : World} {T : List Ent} (hT : Tab w0 w T) {j n : Nat} {G : Nat → GenEnt} (hj : T[j]? = some (.gen (subE n G))) {i : Nat} (hi : i < n) (hw : (G i).wr = false) (ho : (G i).own = false) : Tab w0 w (.gen (G i) :: T) := by
  have hok := hT.ok j _ hj i hi
  refine ⟨hT.os, hT.tape, hT.output, hT.size, ?_, ?_, ?_, ?_⟩
  · intro q e he
    cases q with
    | zero => simp at he; subst he; exact hok
    | succ q => exact hT.ok q e (by simpa using he)
  · intro k hk hne
    exact hT.frame k hk (fun q e he hwr => hne (q + 1) e (by simpa using he) hwr)
  · intro q e he hown
    cases q with
    | zero => simp at he; subst he; exact absurd hown (by show ¬ (G i).own = true; rw [ho]; simp)
    | succ q => exact hT.own q e (by simpa using he) hown
  · intro p q e e' hpq he he' hwr k hk hk'
    cases p with
    | zero =>
      simp at he; subst he
      cases q with
      | zero => exact hpq rfl
      | succ q =>
        have he2 : T[q]? = some e' := by simpa using he'
        have hw' : e'.wr = true := by
          rcases hwr with h | h
          · exact absurd h (by show ¬ (G i).wr = true; rw [hw]; simp)
          · exact h
        have hne : j ≠ q := by
          intro hq; subst hq
          rw [hj] at he2; cases he2; cases hw'
        exact hT.disj j q _ e' hne hj he2 (.inr hw') k ⟨i, hi, hk⟩ hk'
    | succ p =>
      have he2 : T[p]? = some e := by simpa using he
      cases q with
      | zero =>
        simp at he'; subst he'
        have hw' : e.wr = true := by
          rcases hwr with h | h
          · exact h
          · exact absurd h (by show ¬ (G i).wr = true; rw [hw]; simp)
        have hne : p ≠ j := by
          intro hq; subst hq
          rw [hj] at he2; cases he2; cases hw'
        exact hT.disj p j e _ hne he2 hj (.inl hw') k hk ⟨i, hi, hk'⟩
      | succ q => exact hT.disj p q e e' (by omega) he2 (by simpa using he') hwr k hk hk'
theorem Tab.olds {w : World} : ∀ {T : List Ent}, (∀ (i : Nat) (e : Ent), T[i]? = some e → e.ok w ∧ e.own = false ∧ e.wr = false) → Tab w w T := by
  intro T
  induction T with
  | nil => intro _; exact Tab.start w
  | cons e T ih =>
    intro h
    have h0 := h 0 e rfl
    refine Tab.addOld (ih (fun i x hx => h (i + 1) x (by simpa using hx))) e h0.1 h0.2.1 (fun i x hx hw => ?_)
    have h1 := h (i + 1) x (by simpa using hx)
    rcases hw with hw | hw
    · rw [h0.2.2] at hw; cases hw
    · rw [h1.2.2] at hw; cases hw
theorem cont_sub {K : Act → World → Prop} {n : Nat} {w0 : World} {L : List (Nat × Value)} {T : List Ent} (j i m : Nat) (G : Nat → GenEnt) (hj : T[j]? = some (.gen (subE m G))) (hi : i < m) (hw : (G i).wr = false) (ho : (G i).own = false) (h : Cont dfs K n w0 L (.gen (G i) :: T)) : Cont dfs K n w0 L T :=
  fun a w ha hf hT => h a w ha hf (hT.sub hj hi hw ho)
theorem open_listC {α : Type} [Inhabited α] {cel : α → List Value} {z : Nat} (hz : ∀ a, (cel a).length = z) (hz0 : 0 < z) {good : World → α → Prop} {H : Type} {enc : TypeId × Value → H} {P : Program} {W : World} {ts t : TypeId} {c : Value} {n : Nat} {x : DataW H × List MemPlace} (ht : P.underlying ts = some (.slice t)) (hct : P.cellsOf t = z)
    (hone : ∀ (cs : List Value) (n : Nat) (x : DataW H × List MemPlace), cs.length = z → DataW.trod enc P W 0 (fun _ => true) true n t cs = some x → ∃ a : α, cs = cel a ∧ good W a)
    (h : DataW.trod enc P W 0 (fun _ => true) true n ts [c] = some x) :
    ∃ (A : Option Addr) (g o n cap : Nat) (l : List α), c = .slice A n cap ∧ Rd W A g o n z (dvals cel l) ∧ l.length = n ∧ n ≤ cap ∧ cap ≤ maxLen ∧ (∀ a ∈ l, good W a) := by
  rcases open_slice ht h with ⟨e, _⟩ | ⟨a, len, cap, m, k, D, Pl, e, _, hle, hm, hmm, _, hx⟩
  · simp only [List.cons.injEq, and_true] at e
    exact ⟨none, 0, 0, 0, 0, [], e, ⟨by simp [dvals], fun h => by omega, fun j v hj => by simp [dvals] at hj⟩, rfl, Nat.le_refl _, by unfold maxLen; omega, fun x hx => by cases hx⟩
  · simp only [List.cons.injEq, and_true] at e
    simp only [if_true] at hmm
    have each : ∀ i, i < len → ∃ r : α, (∀ j v, (cel r)[j]? = some v → W.cell? ((a.add (i * z)).add j) = some v) ∧ good W r := by
      intro i hil
      obtain ⟨cs', g1, g2⟩ := hx i (by omega)
      rw [hct] at g1
      obtain ⟨_, hlen, hcell⟩ := World.cells?_some g1
      obtain ⟨r, rfl, hr⟩ := hone _ _ _ (by simpa using hlen) g2
      refine ⟨r, fun j v hj => ?_, hr⟩
      have hjl := (List.getElem?_eq_some_iff.1 hj).1
      have := hcell j (by rw [hz] at hjl; simpa using hjl)
      rw [this]
      simpa using hj
    have hF : ∃ F : Nat → α, ∀ i, i < len → (∀ j v, (cel (F i))[j]? = some v → W.cell? ((a.add (i * z)).add j) = some v) ∧ good W (F i) :=
      ⟨fun i => if h : i < len then Classical.choose (each i h) else default, fun i h => by simp only [dif_pos h]; exact Classical.choose_spec (each i h)⟩
    obtain ⟨F, hF⟩ := hF
    have hsp : 0 < len → a.spot = none := fun hp => by
      have h0 : 0 < (cel (F 0)).length := by rw [hz]; exact hz0
      have := (hF 0 hp).1 0 _ (List.getElem?_eq_getElem h0)
      have z' : (a.add (0 * z)).add 0 = a := by simp [Addr.add]
      rw [z'] at this
      exact spot_of_cell this
    refine ⟨some a, a.block, a.off, len, cap, (List.range len).map F, e, ⟨by rw [dvals_length hz]; simp, fun hp => ?_, fun j v hj => ?_⟩, by simp, hle, hm, fun r hr => ?_⟩
    · have := hsp hp
      cases a with
      | mk b o s => simp only at this; subst this; rfl
    · have hjl := (List.getElem?_eq_some_iff.1 hj).1
      rw [dvals_length hz, List.length_map, List.length_range] at hjl
      have hq : j / z < len := Nat.div_lt_of_lt_mul (by rwa [Nat.mul_comm])
      have hr : j % z < z := Nat.mod_lt _ hz0
      have hk := List.getElem?_eq_getElem (l := cel (F (j / z))) (i := j % z) (by rw [hz]; exact hr)
      have h2 := dvals_get hz (l := (List.range len).map F) (i := j / z) (k := j % z) (by simpa using hq) (by rw [dget_map hq]; exact hk)
      rw [show j / z * z + j % z = j by rw [Nat.mul_comm]; exact Nat.div_add_mod j z, hj] at h2
      have h3 := (hF _ hq).1 (j % z) v (by rw [hk]; exact h2.symm)
      have hs2 := hsp (Nat.lt_of_le_of_lt (Nat.zero_le _) hq)
      rw [addr_split hs2, addr_split rfl] at h3
      simp only at h3
      rw [show a.off + j / z * z + j % z = a.off + j by rw [Nat.add_assoc, Nat.mul_comm, Nat.div_add_mod]] at h3
      exact h3
    · obtain ⟨i, hi, rfl⟩ := List.mem_map.1 hr
      exact (hF i (List.mem_range.1 hi)).2
theorem open_list {α : Type} [Inhabited α] {cel : α → List Value} {z : Nat} (hz : ∀ a, (cel a).length = z) (hz0 : 0 < z) {good : World → α → Prop} {H : Type} {enc : TypeId × Value → H} {P : Program} {W : World} {ts t : TypeId} {v : Value} {d : DataW H} {ps : List MemPlace} (ht : P.underlying ts = some (.slice t)) (hct : P.cellsOf t = z)
    (hone : ∀ (cs : List Value) (n : Nat) (x : DataW H × List MemPlace), cs.length = z → DataW.trod enc P W 0 (fun _ => true) true n t cs = some x → ∃ a : α, cs = cel a ∧ good W a)
    (hval : Value.okWide P W .any 0 ts v) (h : DataW.Trod enc P W 0 (fun _ => true) true ts v d ps) :
    ∃ (A : Option Addr) (g o n cap : Nat) (l : List α), v = .slice A n cap ∧ Rd W A g o n z (dvals cel l) ∧ l.length = n ∧ n ≤ cap ∧ cap ≤ maxLen ∧ (∀ a ∈ l, good W a) := by
  obtain ⟨a, len, cap, rfl⟩ := okWide_slice ht hval
  obtain ⟨fuel, hf⟩ := h
  exact open_listC hz hz0 ht hct hone hf
end Go.Proofs.Ytlfahohbkgdabaa
namespace Go.Proofs.Ytlfahohbkgdabaa
open Go Go.RowKit
variable {dfs : List Deferred}
def bunO (n : Nat) (G : Nat → GenEnt) : GenEnt := { subE n G with own := true }
def roE (b : Nat) (cs : List Value) (t : TypeId) : GenEnt :=
  { blk := fun k => k = b, wr := false, own := false, ok := fun w => w.heap[b]? = some (.cells cs.toArray t (0, 0)),
    stable := fun w w' hb h => (hb b rfl).trans h,
    inb := fun w k h hk => by rw [show k = b from hk]; exact (Array.getElem?_eq_some_iff.1 h).1 }
theorem Tab.see {w0 w : World} {T : List Ent} (hT : Tab w0 w T) {j : Nat} {e e0 : Ent} (hj : T[j]? = some e) (hw : e.wr = false) (hv : Vw e e0) (hw0 : e0.wr = false) : Tab w0 w (e0 :: T) := by
  refine ⟨hT.os, hT.tape, hT.output, hT.size, ?_, ?_, ?_, ?_⟩
  · intro q x hx
    cases q with
    | zero => simp at hx; subst hx; exact hv.ok w (hT.ok j e hj)
    | succ q => exact hT.ok q x (by simpa using hx)
  · intro k hk hne
    exact hT.frame k hk (fun q x hx hwr => hne (q + 1) x (by simpa using hx) hwr)
  · intro q x hx hown
    cases q with
    | zero => simp at hx; subst hx; rw [hv.own] at hown; cases hown
    | succ q => exact hT.own q x (by simpa using hx) hown
  · intro p q x y hpq hx hy hwr k hk hk'
    cases p with
    | zero =>
      simp at hx; subst hx
      cases q with
      | zero => exact hpq rfl
      | succ q =>
        have hy2 : T[q]? = some y := by simpa using hy
        have hw' : y.wr = true := by
          rcases hwr with h | h
          · rw [hw0] at h; cases h
          · exact h
        have hne : j ≠ q := by
          intro hq; subst hq
          rw [hj] at hy2; cases hy2; rw [hw] at hw'; cases hw'
        exact hT.disj j q e y hne hj hy2 (.inr hw') k (hv.blk w (hT.ok j e hj) k hk) hk'
    | succ p =>
      have hx2 : T[p]? = some x := by simpa using hx
      cases q with
      | zero =>
        simp at hy; subst hy
        have hw' : x.wr = true := by
          rcases hwr with h | h
          · exact h
          · rw [hw0] at h; cases h
        have hne : p ≠ j := by
          intro hq; subst hq
          rw [hj] at hx2; cases hx2; rw [hw] at hw'; cases hw'
        exact hT.disj p j x e hne hx2 hj (.inl hw') k hk (hv.blk w (hT.ok j e hj) k hk')
      | succ q => exact hT.disj p q x y (by omega) hx2 (by simpa using hy) hwr k hk hk'
theorem cont_see {K : Act → World → Prop} {n : Nat} {w0 : World} {L : List (Tmp × Value)} {T : List Ent} (j : Nat) (e0 : Ent) {e : Ent} (hj : T[j]? = some e) (hw : e.wr = false) (hv : Vw e e0) (hw0 : e0.wr = false) (h : Cont dfs K n w0 L (e0 :: T)) : Cont dfs K n w0 L T :=
  fun a w ha hf hT => h a w ha hf (hT.see hj hw hv hw0)
theorem Tab.weakenO {w0 w : World} {T : List Ent} (hT : Tab w0 w T) {i : Nat} {e e0 : Ent} (hi : T[i]? = some e) (ho : e.own = true) (hok : e0.ok w) (hb : ∀ k, e0.blk k → e.blk k) (hw : e0.wr = false) : Tab w0 w (T.set i e0) := by
  refine ⟨hT.os, hT.tape, hT.output, hT.size, ?_, ?_, ?_, ?_⟩
  · intro j x hx
    rcases getElem?_set_cases _ _ _ _ _ hx with ⟨_, rfl⟩ | ⟨_, hx⟩
    · exact hok
    · exact hT.ok j x hx
  · intro k hk hno
    refine hT.frame k hk (fun j x hx hxw hb' => ?_)
    by_cases hj : j = i
    · subst hj
      rw [hi] at hx; cases hx
      have := hT.own j e hi ho k hb'; omega
    · exact hno j x (by rw [List.getElem?_set_ne (Ne.symm hj)]; exact hx) hxw hb'
  · intro j x hx hxo k hk
    rcases getElem?_set_cases _ _ _ _ _ hx with ⟨_, rfl⟩ | ⟨_, hx⟩
    · exact hT.own i e hi ho k (hb k hk)
    · exact hT.own j x hx hxo k hk
  · intro j l x y hjl hx hy hxy k hk hk'
    rcases getElem?_set_cases _ _ _ _ _ hx with ⟨hji, rfl⟩ | ⟨hj, hx2⟩
    · rcases getElem?_set_cases _ _ _ _ _ hy with ⟨hli, rfl⟩ | ⟨hl, hy⟩
      · omega
      · rw [hw] at hxy
        exact hT.disj i l e y (Ne.symm hl) hi hy (.inr (hxy.resolve_left (by simp))) k (hb k hk) hk'
    · rcases getElem?_set_cases _ _ _ _ _ hy with ⟨hli, rfl⟩ | ⟨hl, hy⟩
      · rw [hw] at hxy
        exact hT.disj j i x e hj hx2 hi (.inl (hxy.resolve_right (by simp))) k hk (hb k hk')
      · exact hT.disj j l x y hjl hx2 hy hxy k hk hk'
theorem Tab.grow {w0 w : World} {T : List Ent} (hT : Tab w0 w T) {i j : Nat} {e0 e1 e2 : Ent} (hi : T[i]? = some e0) (hoi : e0.own = true) (hwi : e0.wr = false) (hj : T[j]? = some e1) (hw1 : e1.wr = false) (ho1 : e1.own = true) (hw2 : e2.wr = false) (hok : e2.ok w)
    (hb : ∀ k, e2.blk k → e1.blk k ∨ e0.blk k) : Tab w0 w (T.set j e2) := by
  refine ⟨hT.os, hT.tape, hT.output, hT.size, ?_, ?_, ?_, ?_⟩
  · intro q x hx
    rcases getElem?_set_cases _ _ _ _ _ hx with ⟨_, rfl⟩ | ⟨_, hx⟩
    · exact hok
    · exact hT.ok q x hx
  · intro k hk hno
    refine hT.frame k hk (fun q x hx hxw hb' => ?_)
    by_cases hq : q = j
    · subst hq
      rw [hj] at hx; cases hx; rw [hw1] at hxw; cases hxw
    · exact hno q x (by rw [List.getElem?_set_ne (Ne.symm hq)]; exact hx) hxw hb'
  · intro q x hx hxo k hk
    rcases getElem?_set_cases _ _ _ _ _ hx with ⟨_, rfl⟩ | ⟨_, hx⟩
    · rcases hb k hk with h | h
      · exact hT.own j e1 hj ho1 k h
      · exact hT.own i e0 hi hoi k h
    · exact hT.own q x hx hxo k hk
  · have key : ∀ (l : Nat) (y : Ent) (k : Nat), T[l]? = some y → y.wr = true → e2.blk k → ¬ y.blk k := by
      intro l y k hy hyw hk hk'
      rcases hb k hk with h | h
      · refine hT.disj j l e1 y (fun he => ?_) hj hy (.inr hyw) k h hk'
        subst he; rw [hj] at hy; cases hy; rw [hw1] at hyw; cases hyw
      · refine hT.disj i l e0 y (fun he => ?_) hi hy (.inr hyw) k h hk'
        subst he; rw [hi] at hy; cases hy; rw [hwi] at hyw; cases hyw
    intro p q x y hpq hx hy hxy k hk hk'
    rcases getElem?_set_cases _ _ _ _ _ hx with ⟨hp, hxe⟩ | ⟨hp, hx2⟩
    · rcases getElem?_set_cases _ _ _ _ _ hy with ⟨hq, hye⟩ | ⟨hq, hy2⟩
      · omega
      · rw [hxe] at hk hxy
        exact key q y k hy2 (hxy.resolve_left (by rw [hw2]; simp)) hk hk'
    · rcases getElem?_set_cases _ _ _ _ _ hy with ⟨hq, hye⟩ | ⟨hq, hy2⟩
      · rw [hye] at hk' hxy
        exact key p x k hx2 (hxy.resolve_right (by rw [hw2]; simp)) hk' hk
      · exact hT.disj p q x y hpq hx2 hy2 hxy k hk hk'
theorem cont_nilbun {K : Act → World → Prop} {n : Nat} {w0 : World} {L : List (Tmp × Value)} {T : List Ent} (G : Nat → GenEnt) (h : Cont dfs K n w0 L (.gen (bunO 0 G) :: T)) : Cont dfs K n w0 L T :=
  fun a w ha hf hT => h a w ha hf (hT.fresh (.gen (bunO 0 G)) (fun i hi => absurd hi (Nat.not_lt_zero i)) (fun k hk => by obtain ⟨i, hi, _⟩ := hk; exact absurd hi (Nat.not_lt_zero i)))
theorem cont_bun {K : Act → World → Prop} {n : Nat} {w0 : World} {L : List (Tmp × Value)} {T : List Ent} (i j m : Nat) (G G' : Nat → GenEnt) (g : GenEnt) {e : Ent} (hi : T[i]? = some e) (ho : e.own = true) (hv : Vw e (.gen g)) (hj : T[j]? = some (.gen (bunO m G))) (hij : i ≠ j)
    (hG : ∀ k, k < m → G' k = G k) (hg : G' m = g) (h : Cont dfs K n w0 L ((T.set j (.gen (bunO (m + 1) G'))).eraseIdx i)) : Cont dfs K n w0 L T := by
  intro a w ha hf hT
  have hok := hT.ok i e hi
  have h1 : Tab w0 w (T.set i (.gen { g with wr := false, own := true })) := hT.weakenO hi ho (hv.ok w hok) (fun k hk => hv.blk w hok k hk) rfl
  have hil : i < T.length := (List.getElem?_eq_some_iff.1 hi).1
  have hi2 : (T.set i (.gen { g with wr := false, own := true }))[i]? = some (.gen { g with wr := false, own := true }) := by rw [List.getElem?_set_self hil]
  have hj2 : (T.set i (.gen { g with wr := false, own := true }))[j]? = some (.gen (bunO m G)) := by rw [List.getElem?_set_ne hij]; exact hj
  have h2 := h1.grow (e2 := .gen (bunO (m + 1) G')) hi2 rfl rfl hj2 rfl rfl rfl (by
    intro q hq
    rcases Nat.lt_or_ge q m with hlt | hge
    · rw [hG q hlt]; exact h1.ok j _ hj2 q hlt
    · rw [show q = m by omega, hg]; exact hv.ok w hok) (by
    rintro k ⟨q, hq, hk⟩
    rcases Nat.lt_or_ge q m with hlt | hge
    · rw [hG q hlt] at hk; exact .inl ⟨q, hlt, hk⟩
    · rw [show q = m by omega, hg] at hk; exact .inr hk)
  have h3 := h2.erase i (by
    intro x hx hxw
    rw [List.getElem?_set_ne (Ne.symm hij), hi2] at hx; cases hx; rfl)
  rw [List.set_comm _ _ hij, List.eraseIdx_set_eq] at h3
  exact h a w ha hf h3
theorem Vw.bunSub {n : Nat} {G : Nat → GenEnt} : Vw (.gen (bunO n G)) (.gen (subE n G)) := ⟨fun _ h => h, fun _ _ _ h => h, fun h => h, rfl⟩
theorem Vw.subSub {n : Nat} {G : Nat → GenEnt} : Vw (.gen (subE n G)) (.gen (subE n G)) := ⟨fun _ h => h, fun _ _ _ h => h, fun h => h, rfl⟩
theorem Vw.bunAt {n : Nat} {G : Nat → GenEnt} (i : Nat) (hi : i < n) (hw : (G i).wr = false) (ho : (G i).own = false) : Vw (.gen (bunO n G)) (.gen (G i)) := ⟨fun _ h => h i hi, fun _ _ _ hk => ⟨i, hi, hk⟩, fun h => (by rw [show (Ent.gen (G i)).wr = (G i).wr from rfl, hw] at h; cases h), ho⟩
theorem Vw.subAt {n : Nat} {G : Nat → GenEnt} (i : Nat) (hi : i < n) (hw : (G i).wr = false) (ho : (G i).own = false) : Vw (.gen (subE n G)) (.gen (G i)) := ⟨fun _ h => h i hi, fun _ _ _ hk => ⟨i, hi, hk⟩, fun h => (by rw [show (Ent.gen (G i)).wr = (G i).wr from rfl, hw] at h; cases h), ho⟩
theorem Vw.subAtRo {n : Nat} {G : Nat → GenEnt} {b : Nat} {cs : List Value} {t : TypeId} (i : Nat) (hi : i < n) (hG : G i = roE b cs t) : Vw (.gen (subE n G)) (.ro b cs t) := ⟨fun w h => by have := h i hi; rw [hG] at this; exact this, fun _ _ _ hk => ⟨i, hi, by rw [hG]; exact hk⟩, fun h => (by cases h), rfl⟩
theorem Vw.cellsRo {b : Nat} {cs : List Value} {t : TypeId} {o : Bool} : Vw (.cells b cs t o) (.gen (roE b cs t)) := ⟨fun _ h => h, fun _ _ _ h => h, fun h => (by cases h), rfl⟩
theorem dget_app {α : Type} [Inhabited α] {l : List α} {a : α} {i : Nat} (h : i < l.length) : dget (l ++ [a]) i = dget l i := by
  unfold dget; rw [List.getD_eq_getElem?_getD, List.getD_eq_getElem?_getD, List.getElem?_append_left h]
theorem dget_end {α : Type} [Inhabited α] {l : List α} {a : α} {n : Nat} (h : l.length = n) : dget (l ++ [a]) n = a := by
  subst h; unfold dget; rw [List.getD_eq_getElem?_getD, List.getElem?_append_right (Nat.le_refl _)]; simp
end Go.Proofs.Ytlfahohbkgdabaa
namespace Go.Proofs.Ytlfahohbkgdabaa
open Go Go.RowKit
variable {dfs : List Deferred}
section
variable {α : Type} {cel : α → List Value} {z : Nat}
theorem dvals_append : ∀ a b : List α, dvals cel a ++ dvals cel b = dvals cel (a ++ b) := by
  intro a b
  induction a with
  | nil => rfl
  | cons x a ih => rw [dvals, List.append_assoc, ih]; rfl
theorem dvals_one (h1 : ∀ a, ∀ u ∈ cel a, u.oneCell' = true) : ∀ l : List α, ∀ u ∈ dvals cel l, u.oneCell' = true := by
  intro l
  induction l with
  | nil => intro u hu; cases hu
  | cons x l ih =>
    intro u hu
    rcases List.mem_append.1 hu with h | h
    · exact h1 x u h
    · exact ih u h
theorem Row.factsD {w : World} {A : Option Addr} {g n cap : Nat} {e : TypeId} {l : List α} (hz : ∀ a, (cel a).length = z) (h0 : 0 < z) (h : Row w A g n cap e z (dvals cel l)) : (0 < n → A = some ⟨g, 0, none⟩) ∧ l.length = n ∧ n ≤ cap ∧ cap ≤ maxLen := by
  refine ⟨h.at_, (h.rd.factsD hz h0).2, h.capLe, ?_⟩
  rcases h.own.2 with ⟨h1, _⟩ | ⟨g', cap', cur, hv, _, _, _, hm, _⟩
  · cases h1; unfold maxLen; omega
  · cases hv; exact hm
theorem cont_rowEqD {K : Act → World → Prop} {n' : Nat} {w0 : World} {L : List (Nat × Value)} {T : List Ent} (i : Nat) {A : Option Addr} {g n cap : Nat} {e : TypeId} (xs ys : List α) {own : Bool} (hi : T[i]? = some (.gen (rowE A g n cap e z (dvals cel xs) own))) (hxy : xs = ys)
    (h : Cont dfs K n' w0 L (T.set i (.gen (rowE A g n cap e z (dvals cel ys) own)))) : Cont dfs K n' w0 L T := by
  subst hxy
  have : T.set i (.gen (rowE A g n cap e z (dvals cel xs) own)) = T := by
    obtain ⟨hlt, he⟩ := List.getElem?_eq_some_iff.1 hi
    rw [← he]
    exact List.set_getElem_self hlt
  rwa [this] at h
end
end Go.Proofs.Ytlfahohbkgdabaa
namespace Go.Proofs.Ytlfahohbkgdabaa
open Go Go.RowKit
theorem reg_ext {l l' : List Rect} {F G : Int → Int → Bool} (h : IsReg l F) (h' : IsReg l' G) (e : ∀ x y, F x y = G x y) : l = l' := (h.congr e).unique h'
theorem hasL_and (a b : List Rect) (x y : Int) : hasL (regM andB a b) x y = (hasL a x y && hasL b x y) := (regM_isReg rfl a b).has x y
theorem hasL_less (a b : List Rect) (x y : Int) : hasL (regM lessB a b) x y = (hasL a x y && !hasL b x y) := (regM_isReg rfl a b).has x y
theorem hasL_can (a : List Rect) (x y : Int) : hasL (canR a) x y = hasL a x y := (canR_isReg a).has x y
theorem runs_length {β : Type} {lo : Int} : ∀ {l : List (Run β)} {hi : Int}, RunsOk l → (∀ r ∈ l, lo ≤ r.1 ∧ r.2.1 ≤ hi) → lo ≤ hi → (l.length : Int) ≤ hi - lo := by
  intro l
  induction l with
  | nil => intro hi _ _ h; simp; omega
  | cons r t ih =>
    intro hi h hb hle
    have h1 := hb r (by simp)
    have h2 := h.1
    have := ih (hi := r.1) h.tail (fun s hs => ⟨(hb s (by simp [hs])).1, h.below s hs⟩) (by omega)
    simp only [List.length_cons]
    omega
theorem look_at {β : Type} : ∀ {l : List (Run β)}, RunsOk l → ∀ r ∈ l, ∀ p, r.1 ≤ p → p < r.2.1 → look l p = some r.2.2 := by
  intro l
  induction l with
  | nil => intro _ r hr; cases hr
  | cons s t ih =>
    intro h r hr p h1 h2
    rcases List.mem_cons.1 hr with rfl | hr
    · rw [look, if_pos ⟨h1, h2⟩]
    · have := h.below r hr
      rw [look, if_neg (by omega)]
      exact ih h.tail r hr p h1 h2
theorem RunsOk.lt {β : Type} : ∀ {l : List (Run β)}, RunsOk l → ∀ r ∈ l, r.1 < r.2.1 := by
  intro l
  induction l with
  | nil => intro _ r hr; cases hr
  | cons s t ih =>
    intro h r hr
    rcases List.mem_cons.1 hr with rfl | hr
    · exact h.1
    · exact ih h.tail r hr
theorem flatR_length {m : Nat} : ∀ {bs : Bands}, (∀ b ∈ bs, b.2.2.length ≤ m) → (flatR bs).length ≤ bs.length * m := by
  intro bs
  induction bs with
  | nil => intro _; simp [flatR]
  | cons b t ih =>
    intro h
    have h1 := ih (fun c hc => h c (by simp [hc]))
    have h2 := h b (by simp)
    rw [flatR, List.length_append, bandR_length, List.length_cons, Nat.succ_mul]
    omega
theorem flatR_mem : ∀ {bs : Bands} {r : Rect}, r ∈ flatR bs → ∃ b ∈ bs, ∃ s ∈ b.2.2, r = ⟨s.1, b.1, s.2.1, b.2.1⟩ := by
  intro bs
  induction bs with
  | nil => intro r h; cases h
  | cons b t ih =>
    intro r h
    rw [flatR] at h
    rcases List.mem_append.1 h with h | h
    · obtain ⟨c, hc, s, hs, e⟩ := ih h
      exact ⟨c, by simp [hc], s, hs, e⟩
    · unfold bandR at h
      rw [List.mem_reverse, List.mem_map] at h
      obtain ⟨s, hs, e⟩ := h
      exact ⟨b, by simp, s, hs, e.symm⟩
def areaL (l : List Rect) : Int := (l.map fun r => areaI r.x0 r.y0 r.x1 r.y1).sum
end Go.Proofs.Ytlfahohbkgdabaa
