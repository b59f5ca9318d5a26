/- Contracts of functions of the given program, printed by a program of this project. -/
import Derived.Test.YtlfahohbkgdabaaGreatPeG4
import Derived.Test.YtlfahohbkgdabaaGreatPeG1
import Derived.Test.YtlfahohbkgdabaaGreatProg
import Derived.Test.YtlfahohbkgdabaaGreatPeG2
set_option linter.unusedSimpArgs false
set_option linter.unusedVariables false
namespace Go.Proofs.YtlfahohbkgdabaaGreat
open Go Go.RowKit
set_option maxRecDepth 100000
set_option maxHeartbeats 8000000
theorem refSmallQ (r : Rect) (w : World) (hr : R64 r) :
    Calls Tryz.prog 66 #[.agg #[iQ r.x0, iQ r.y0, iQ r.x1, iQ r.y1]] w fun e w' => e = .returned (.agg #[iQ ((smallR r).x0), iQ ((smallR r).y0), iQ ((smallR r).x1), iQ ((smallR r).y1)]) ∧ Below w.heap.size w w' := by
 obtain ⟨⟨h0, h0'⟩, ⟨h1, h1'⟩, ⟨h2, h2'⟩, ⟨h3, h3'⟩⟩ := hr
 refine enter 26 [(0, .agg #[iq r.x0, iq r.y0, iq r.x1, iq r.y1])] [] Tryz.func66 rfl Tryz.ntmps66 rfl (by kernel_rfl) (Tab.start w) ?_
 refine cSq <| cRg 2 rfl ?_
 refine batch2 [0, 0] 2 0 (fun b1 b2 => [(1, .pointer (pB b1)), (2, .pointer (pB b2))]) (fun b1 b2 => [.cells b2 [iq 0, iq 0, iq 0, iq 0] 32 true, .cells b1 [iq r.x0, iq r.y0, iq r.x1, iq r.y1] 32 true]) rfl rfl [1, 2] (fun _ _ => rfl) (fun b1 b2 => by kernel_rfl) (fun b1 b2 => by kernel_rfl) (fun b1 b2 => ?_)
 refine cDn <| tNo <| cSq <| cRg 5 rfl <| bD [0, 1] 2 3 [(6, iq r.x0)] [5] ?_
 refine pSt 3 2 rfl rfl <| call_pure (d := 7) (iq (aroundI r.x0 24)) (by kernel_rfl) (fun w hT => refAround r.x0 24 w (by omega) (by omega)) ?_
 have hq3_ := aroundI_range r.x0 (m := 24) (by omega)
 refine bD [0] 4 1 [(8, iq (IntKind.i64.wrap ((aroundI r.x0 24) - 4)))] [] ?_
 refine cRc 8 (iq (IntKind.i64.wrap ((aroundI r.x0 24) - 4))) (iq ((aroundI r.x0 24) - 4)) rfl (wrapI (by omega) (by omega)) ?_
 refine bD [0] 5 0 [(3, iq ((aroundI r.x0 24) - 4))] [] ?_
 refine cDn <| tNo <| cSq <| cRg 5 rfl <| bD [0, 1] 2 3 [(10, iq r.y0)] [9] ?_
 refine pSt 3 2 rfl rfl <| call_pure (d := 11) (iq (aroundI r.y0 24)) (by kernel_rfl) (fun w hT => refAround r.y0 24 w (by omega) (by omega)) ?_
 have hq4_ := aroundI_range r.y0 (m := 24) (by omega)
 refine bD [0] 4 1 [(12, iq (IntKind.i64.wrap ((aroundI r.y0 24) - 4)))] [] ?_
 refine cRc 12 (iq (IntKind.i64.wrap ((aroundI r.y0 24) - 4))) (iq ((aroundI r.y0 24) - 4)) rfl (wrapI (by omega) (by omega)) ?_
 refine bD [0] 5 0 [(4, iq ((aroundI r.y0 24) - 4))] [] ?_
 refine cDn <| tNo <| cSq <| drawn_enter 14 [0] rfl (by kernel_rfl) ?_
 refine tD 0 [0] [(0, 0), (1, 0), (2, 0), (3, 0), (7, 0), (8, 0), (4, 1), (9, 1)] 6 [9, 4, 8, 7, 3, 2, 1, 0] [(13, iq ((aroundI r.x0 24) - 4)), (14, iq ((aroundI r.y0 24) - 4)), (15, iq ((aroundI r.x0 24) - 4)), (17, iq r.x1), (20, iq ((aroundI r.y0 24) - 4)), (22, iq r.y1)] [16, 21] ?_
 refine dOn 5 5 rfl (by kernel_rfl) ?_
 refine call_pure (d := 18) (iq (aroundI r.x1 13)) (by kernel_rfl) (fun w hT => refAround r.x1 13 w (by omega) (by omega)) ?_
 have hq5_ := aroundI_range r.x1 (m := 13) (by omega)
 refine dNx 0 [0] (by kernel_rfl) ?_
 refine tD 0 [0] [(6, 0)] 4 [6, 5, 9, 4, 8, 7, 3, 2, 1, 0] [(19, iq (IntKind.i64.wrap (((aroundI r.x0 24) - 4) + (aroundI r.x1 13))))] [] ?_
 refine cRc 19 (iq (IntKind.i64.wrap (((aroundI r.x0 24) - 4) + (aroundI r.x1 13)))) (iq (((aroundI r.x0 24) - 4) + (aroundI r.x1 13))) rfl (wrapI (by omega) (by omega)) ?_
 refine dOn 10 3 rfl (by kernel_rfl) ?_
 refine call_pure (d := 23) (iq (aroundI r.y1 13)) (by kernel_rfl) (fun w hT => refAround r.y1 13 w (by omega) (by omega)) ?_
 have hq6_ := aroundI_range r.y1 (m := 13) (by omega)
 refine dNx 0 [0] (by kernel_rfl) ?_
 refine tD 0 [0] [(11, 0)] 2 [11, 10, 6, 5, 9, 4, 8, 7, 3, 2, 1, 0] [(24, iq (IntKind.i64.wrap (((aroundI r.y0 24) - 4) + (aroundI r.y1 13))))] [] ?_
 refine cRc 24 (iq (IntKind.i64.wrap (((aroundI r.y0 24) - 4) + (aroundI r.y1 13)))) (iq (((aroundI r.y0 24) - 4) + (aroundI r.y1 13))) rfl (wrapI (by omega) (by omega)) ?_
 refine tD 0 [0] [(12, 0)] 1 [12, 11, 10, 6, 5, 9, 4, 8, 7, 3, 2, 1, 0] [(25, .agg #[iq ((aroundI r.x0 24) - 4), iq ((aroundI r.y0 24) - 4), iq (((aroundI r.x0 24) - 4) + (aroundI r.x1 13)), iq (((aroundI r.y0 24) - 4) + (aroundI r.y1 13))])] [] ?_
 refine dOn 13 0 rfl (by kernel_rfl) ?_
 refine oS 0 [(2, .pointer (pB b2))] [.cells b2 [iq ((aroundI r.x0 24) - 4), iq ((aroundI r.y0 24) - 4), iq (((aroundI r.x0 24) - 4) + (aroundI r.x1 13)), iq (((aroundI r.y0 24) - 4) + (aroundI r.y1 13))] 32 true, .cells b1 [iq r.x0, iq r.y0, iq r.x1, iq r.y1] 32 true] ?_
 refine dNx 0 [0] (by kernel_rfl) ?_
 refine drawn_done (by kernel_rfl) ?_
 refine tNo <| cont_ret ?_
 refine ret_one (.inl rfl) rfl 0 (.agg #[iq ((aroundI r.x0 24) - 4), iq ((aroundI r.y0 24) - 4), iq (((aroundI r.x0 24) - 4) + (aroundI r.x1 13)), iq (((aroundI r.y0 24) - 4) + (aroundI r.y1 13))]) (by kernel_rfl) (by kernel_rfl) (fun w hT => ?_)
 exact ⟨rfl, hT.post rfl⟩
theorem refHasL (A : Option Addr) (g o n cap : Nat) (xs : List Rect) (x y : Int) (w : World) (hT0 : Tab w w [rD (A) g o n 4 (rvals xs)]) (hn : n ≤ 1000000000000) :
    Calls Tryz.prog 27 #[.slice A n cap, iQ x, iQ y] w fun e w' => e = .returned (.bool (hasL xs x y)) ∧ Below w.heap.size w w' := by
 obtain ⟨hra, hrl⟩ := Rd.factsR (hT0.ok 0 _ rfl)
 refine enter 21 [(0, .slice A n cap), (1, iq x), (2, iq y)] [rD (A) g o n 4 (rvals xs)] Tryz.func27 rfl Tryz.ntmps27 rfl (by kernel_rfl) hT0 ?_
 refine cSq <| cRg 1 rfl <| bD [0] 1 0 [] [6] ?_
 refine cDn <| tNo <| cSq <| cSq <| cRg 1 rfl <| bD [0] 1 0 [(7, iq 0)] [] ?_
 refine cDn <| tNo <| cont_block <| cont_loop (α := Nat) (fun x_ : Nat => x_ ≤ n ∧ ∀ j, j < x_ → hasB (rget xs j).x0 (rget xs j).y0 (rget xs j).x1 (rget xs j).y1 x y = false) (fun x_ : Nat => [(0, .slice A n cap), (1, iq x), (2, iq y), (7, iq (x_ : Int))]) (fun x_ : Nat => [rD (A) g o n 4 (rvals xs)]) (fun x_ : Nat => n - x_) 0 (⟨by omega, fun j hj => by omega⟩) (by kernel_rfl) (by kernel_rfl) ?_
 rintro i hinv1_
 replace hinv1_ : i ≤ n ∧ ∀ j, j < i → hasB (rget xs j).x0 (rget xs j).y0 (rget xs j).x1 (rget xs j).y1 x y = false := hinv1_
 obtain ⟨hi, hns⟩ := hinv1_
 refine cSq <| cSq <| cRg 4 rfl <| bD [0, 0, 0, 0] 4 0 [(11, .bool (decide ((i : Int) < (n : Int))))] [8, 9, 10] ?_
 refine cDn <| tNo ?_
 refine cSp 11 (decide ((i : Int) < (n : Int))) rfl (fun c2_ => ?_) (fun c2_ => ?_)
 ·
  replace c2_ := of_decide_eq_true c2_
  refine cTr rfl <| cont_skip <| tNo <| cSq <| cont_block <| cSq <| cRg 7 rfl <| bD [0, 0] 2 5 [(14, .slice A n cap), (15, iq (i : Int))] [] ?_
  refine pSt 3 4 rfl rfl <| cRc 14 (.slice A n cap) (.slice (some ⟨g, o, none⟩) n cap) rfl (by rw [hra (by omega)]) ?_
  refine sem_step 16 (Instr.indexAt 23 (.slice (some ⟨g, o, none⟩) n cap) (iq (i : Int))) (.pointer (some ⟨g, o + i * 4, none⟩)) (by kernel_rfl) (fun w hT => run_indexAt (e := 32) (sz := 4) _ (by kernel_rfl) (by kernel_rfl) (by omega) (by omega) (by omega) w) ?_
  refine pSt 4 3 rfl rfl <| sem_step 17 (Instr.loadAt 32 (.pointer (some ⟨g, o + i * 4, none⟩))) (.agg #[iq ((rget xs i).x0), iq ((rget xs i).y0), iq ((rget xs i).x1), iq ((rget xs i).y1)]) (by kernel_rfl) (fun w hT => run_loadN (m := 4) (cs := rcells (rget xs i)) (by kernel_rfl) (by kernel_rfl) rfl (Rd.rect (hT.ok 0 _ rfl) (by omega))) ?_
  refine bD [0, 0] 6 1 [(18, iq x), (19, iq y)] [] ?_
  refine pSt 7 0 rfl rfl <| call_pure (d := 20) (.bool (hasB ((rget xs i).x0) ((rget xs i).y0) ((rget xs i).x1) ((rget xs i).y1) x y)) (by kernel_rfl) (fun w hT => refHas ((rget xs i).x0) ((rget xs i).y0) ((rget xs i).x1) ((rget xs i).y1) x y w) ?_
  refine cDn <| tNo ?_
  refine cSp 20 (hasB ((rget xs i).x0) ((rget xs i).y0) ((rget xs i).x1) ((rget xs i).y1) x y) rfl (fun c3_ => ?_) (fun c3_ => ?_)
  ·
   refine cTr rfl <| cSq <| cRg 1 rfl <| bS [0] 1 0 [(6, .bool true)] ?_
   refine cDn <| tNo <| cont_ret <| blk_ret <| then_ret <| then_ret <| blk_ret <| then_ret ?_
   refine ret_one (.inl rfl) rfl 0 (.bool true) (by kernel_rfl) (by kernel_rfl) (fun w hT => ?_)
   exact ⟨ret_bool (List.any_eq_true.2 ⟨rget xs i, rget_mem (by omega), ‹_›⟩).symm, hT.post rfl⟩
  refine cFa rfl <| cont_skip <| blk_normal <| tNo <| cRg 3 rfl <| bD [0, 0] 2 1 [(13, iq (IntKind.i64.wrap ((i : Int) + 1)))] [12] ?_
  refine cRc 13 (iq (IntKind.i64.wrap ((i : Int) + 1))) (iq ((i : Int) + 1)) rfl (wrapI (by omega) (by omega)) ?_
  refine bD [0] 3 0 [(7, iq ((i : Int) + 1))] [] ?_
  refine cDn <| tNo ?_
  refine cont_again (i + 1) (show (i + 1) ≤ n ∧ ∀ j, j < (i + 1) → hasB (rget xs j).x0 (rget xs j).y0 (rget xs j).x1 (rget xs j).y1 x y = false from ⟨by omega, fun j hj => by rcases Nat.lt_succ_iff_lt_or_eq.1 hj with h_ | h_; exact hns j h_; subst h_; assumption⟩) (show n - (i + 1) < n - i from by omega) (by kernel_rfl) (by kernel_rfl)
 replace c2_ := of_decide_eq_false c2_
 refine cFa rfl <| cont_exit <| then_exit <| then_exit <| blk_exit <| tNo <| cSq <| cRg 1 rfl <| bS [0] 1 0 [(6, .bool false)] ?_
 refine cDn <| tNo <| cont_ret ?_
 refine ret_one (.inl rfl) rfl 0 (.bool false) (by kernel_rfl) (by kernel_rfl) (fun w hT => ?_)
 refine ⟨ret_bool ?_, hT.post rfl⟩
 symm
 unfold hasL
 rw [List.any_eq_false]
 intro r hr
 obtain ⟨j, hj, e_⟩ := List.mem_iff_getElem.1 hr
 have h_ := hns j (by omega)
 rw [← rget_eq hj, e_] at h_
 rw [h_]; simp
theorem refKeepB (p q : Bool) (how : Int) (w : World) :
    Calls Tryz.prog 93 #[.bool p, .bool q, iQ how] w fun e w' => e = .returned (.bool (docK how p q)) ∧ Below w.heap.size w w' := by
 refine enter 29 [(0, .bool p), (1, .bool q), (2, iq how)] [] Tryz.func93 rfl Tryz.ntmps93 rfl (by kernel_rfl) (Tab.start w) ?_
 refine cSq <| cRg 1 rfl <| bD [0] 1 0 [] [6] ?_
 refine cDn <| tNo <| cSq <| cSq <| cRg 2 rfl <| bD [0, 0] 2 0 [(8, .bool (how == 0))] [7] ?_
 refine cDn <| tNo ?_
 refine cSp 8 (how == 0) rfl (fun c1_ => ?_) (fun c1_ => ?_)
 ·
  replace c1_ := eq_of_beqt c1_
  refine cTr rfl <| cSq <| cRg 5 rfl <| bD [0, 0] 2 3 [(10, .bool p)] [9] ?_
  refine cSp 10 p rfl (fun c2_ => ?_) (fun c2_ => ?_)
  ·
   refine bS [0, 0, 0] 5 0 [(6, .bool true)] ?_
   refine cDn <| tNo <| cont_ret <| then_ret ?_
   refine ret_one (.inl rfl) rfl 0 (.bool true) (by kernel_rfl) (by kernel_rfl) (fun w hT => ?_)
   exact ⟨ret_bool (by simp [docK, *]), hT.post rfl⟩
  refine bS [0, 0, 0] 5 0 [(6, .bool q)] ?_
  refine cDn <| tNo <| cont_ret <| then_ret ?_
  refine ret_one (.inl rfl) rfl 0 (.bool q) (by kernel_rfl) (by kernel_rfl) (fun w hT => ?_)
  exact ⟨ret_bool (by simp [docK, *]), hT.post rfl⟩
 replace c1_ := ne_of_beqf c1_
 refine cFa rfl <| cont_skip <| tNo <| cSq <| cSq <| cRg 2 rfl <| bD [0, 0] 2 0 [(14, .bool (how == 1))] [13] ?_
 refine cDn <| tNo ?_
 refine cSp 14 (how == 1) rfl (fun c3_ => ?_) (fun c3_ => ?_)
 ·
  replace c3_ := eq_of_beqt c3_
  refine cTr rfl <| cSq <| cRg 5 rfl <| bD [0, 0] 2 3 [(16, .bool p)] [15] ?_
  refine cSp 16 p rfl (fun c4_ => ?_) (fun c4_ => ?_)
  ·
   refine bS [0, 0, 0] 5 0 [(6, .bool q)] ?_
   refine cDn <| tNo <| cont_ret <| then_ret ?_
   refine ret_one (.inl rfl) rfl 0 (.bool q) (by kernel_rfl) (by kernel_rfl) (fun w hT => ?_)
   exact ⟨ret_bool (by simp [docK, *]), hT.post rfl⟩
  refine bS [0, 0, 0] 5 0 [(6, .bool false)] ?_
  refine cDn <| tNo <| cont_ret <| then_ret ?_
  refine ret_one (.inl rfl) rfl 0 (.bool false) (by kernel_rfl) (by kernel_rfl) (fun w hT => ?_)
  exact ⟨ret_bool (by simp [docK, *]), hT.post rfl⟩
 replace c3_ := ne_of_beqf c3_
 refine cFa rfl <| cont_skip <| tNo <| cSq <| cSq <| cRg 2 rfl <| bD [0, 0] 2 0 [(20, .bool (how == 2))] [19] ?_
 refine cDn <| tNo ?_
 refine cSp 20 (how == 2) rfl (fun c5_ => ?_) (fun c5_ => ?_)
 ·
  replace c5_ := eq_of_beqt c5_
  refine cTr rfl <| cSq <| cRg 6 rfl <| bD [0, 0] 2 4 [(22, .bool p)] [21] ?_
  refine cSp 22 p rfl (fun c6_ => ?_) (fun c6_ => ?_)
  ·
   refine bS [0, 0, 0, 0] 6 0 [(6, .bool (!q))] ?_
   refine cDn <| tNo <| cont_ret <| then_ret ?_
   refine ret_one (.inl rfl) rfl 0 (.bool (!q)) (by kernel_rfl) (by kernel_rfl) (fun w hT => ?_)
   exact ⟨ret_bool (by simp [docK, *]), hT.post rfl⟩
  refine bS [0, 0, 0, 0] 6 0 [(6, .bool false)] ?_
  refine cDn <| tNo <| cont_ret <| then_ret ?_
  refine ret_one (.inl rfl) rfl 0 (.bool false) (by kernel_rfl) (by kernel_rfl) (fun w hT => ?_)
  exact ⟨ret_bool (by simp [docK, *]), hT.post rfl⟩
 replace c5_ := ne_of_beqf c5_
 refine cFa rfl <| cont_skip <| tNo <| cSq <| cRg 4 rfl <| bS [0, 0] 2 2 [(26, .bool p), (27, .bool q)] ?_
 refine cSp 26 p rfl (fun c7_ => ?_) (fun c7_ => ?_)
 ·
  refine cSp 27 q rfl (fun c8_ => ?_) (fun c8_ => ?_)
  ·
   refine bS [0, 0] 4 0 [(6, .bool false)] ?_
   refine cDn <| tNo <| cont_ret ?_
   refine ret_one (.inl rfl) rfl 0 (.bool false) (by kernel_rfl) (by kernel_rfl) (fun w hT => ?_)
   exact ⟨ret_bool (by simp [docK, *]), hT.post rfl⟩
  refine bS [0, 0] 4 0 [(6, .bool true)] ?_
  refine cDn <| tNo <| cont_ret ?_
  refine ret_one (.inl rfl) rfl 0 (.bool true) (by kernel_rfl) (by kernel_rfl) (fun w hT => ?_)
  exact ⟨ret_bool (by simp [docK, *]), hT.post rfl⟩
 refine cSp 27 q rfl (fun c9_ => ?_) (fun c9_ => ?_)
 ·
  refine bS [0, 0] 4 0 [(6, .bool true)] ?_
  refine cDn <| tNo <| cont_ret ?_
  refine ret_one (.inl rfl) rfl 0 (.bool true) (by kernel_rfl) (by kernel_rfl) (fun w hT => ?_)
  exact ⟨ret_bool (by simp [docK, *]), hT.post rfl⟩
 refine bS [0, 0] 4 0 [(6, .bool false)] ?_
 refine cDn <| tNo <| cont_ret ?_
 refine ret_one (.inl rfl) rfl 0 (.bool false) (by kernel_rfl) (by kernel_rfl) (fun w hT => ?_)
 exact ⟨ret_bool (by simp [docK, *]), hT.post rfl⟩
theorem refSpans (A : Option Addr) (g o n cap : Nat) (xs : List Rect) (A' : Option Addr) (g' o' n' cap' : Nat) (xs' : List Rect) (w : World) (hT0 : Tab w w [rD (A) g o n 4 (rvals xs), rD (A') g' o' n' 4 (rvals xs')]) (hn : n ≤ 1000000000000) :
    Calls Tryz.prog 94 #[.slice A n cap, .slice A' n' cap'] w fun e w' => e = .returned (.bool (eqF span1 xs xs')) ∧ Below w.heap.size w w' := by
 obtain ⟨hra, hrl⟩ := Rd.factsR (hT0.ok 0 _ rfl)
 obtain ⟨hra', hrl'⟩ := Rd.factsR (hT0.ok 1 _ rfl)
 refine enter 41 [(0, .slice A n cap), (1, .slice A' n' cap')] [rD (A) g o n 4 (rvals xs), rD (A') g' o' n' 4 (rvals xs')] Tryz.func94 rfl Tryz.ntmps94 rfl (by kernel_rfl) hT0 ?_
 refine cSq <| cRg 1 rfl <| bD [0] 1 0 [] [4] ?_
 refine cDn <| tNo <| cSq <| cSq <| cRg 5 rfl <| bD [0, 0, 0, 0, 0] 5 0 [(10, .bool ((n : Int) != ((n' : Nat) : Int)))] [6, 7, 8, 9] ?_
 refine cDn <| tNo ?_
 refine cSp 10 ((n : Int) != ((n' : Nat) : Int)) rfl (fun c1_ => ?_) (fun c1_ => ?_)
 ·
  replace c1_ := ne_of_bne c1_
  refine cTr rfl <| cSq <| cRg 1 rfl <| bS [0] 1 0 [(4, .bool false)] ?_
  refine cDn <| tNo <| cont_ret <| then_ret ?_
  refine ret_one (.inl rfl) rfl 0 (.bool false) (by kernel_rfl) (by kernel_rfl) (fun w hT => ?_)
  exact ⟨ret_bool (by first | exact (eqF_no (j := i) (by omega) (by omega) (by simp_all [span1])).symm | exact (eqF_len (by omega)).symm), hT.post rfl⟩
 replace c1_ := eq_of_bne_false c1_
 refine cFa rfl <| cont_skip <| tNo <| cSq <| cSq <| cRg 1 rfl <| bD [0] 1 0 [(5, iq 0)] [] ?_
 refine cDn <| tNo <| cont_block <| cont_loop (α := Nat) (fun x_ : Nat => x_ ≤ n ∧ ∀ j, j < x_ → span1 (rget xs j) (rget xs' j) = true) (fun x_ : Nat => [(0, .slice A n cap), (1, .slice A' n' cap'), (5, iq (x_ : Int))]) (fun x_ : Nat => [rD (A) g o n 4 (rvals xs), rD (A') g' o' n' 4 (rvals xs')]) (fun x_ : Nat => n - x_) 0 (⟨by omega, fun j hj => by omega⟩) (by kernel_rfl) (by kernel_rfl) ?_
 rintro i hinv2_
 replace hinv2_ : i ≤ n ∧ ∀ j, j < i → span1 (rget xs j) (rget xs' j) = true := hinv2_
 obtain ⟨hi, hns⟩ := hinv2_
 refine cSq <| cSq <| cRg 4 rfl <| bD [0, 0, 0, 0] 4 0 [(14, .bool (decide ((i : Int) < (n : Int))))] [11, 12, 13] ?_
 refine cDn <| tNo ?_
 refine cSp 14 (decide ((i : Int) < (n : Int))) rfl (fun c3_ => ?_) (fun c3_ => ?_)
 ·
  replace c3_ := of_decide_eq_true c3_
  refine cTr rfl <| cont_skip <| tNo <| cSq <| cont_block <| cSq <| drawn_enter 24 [] rfl (by kernel_rfl) ?_
  refine tD 0 [] [(0, 0), (1, 0), (5, 0), (6, 0)] 20 [6, 5, 1, 0] [(17, .slice A n cap), (18, iq (i : Int)), (22, .slice A' n' cap'), (23, iq (i : Int))] [] ?_
  refine cRc 17 (.slice A n cap) (.slice (some ⟨g, o, none⟩) n cap) rfl (by rw [hra (by omega)]) ?_
  refine sT 0 [] 2 19 19 (Instr.indexAt 23 (.slice (some ⟨g, o, none⟩) n cap) (iq (i : Int))) (.pointer (some ⟨g, o + i * 4, none⟩)) (fun w hT => run_indexAt (e := 32) (sz := 4) _ (by kernel_rfl) (by kernel_rfl) (by omega) (by omega) (by omega) w) ?_
  refine tD 0 [] [(3, 0)] 18 [3, 2, 6, 5, 1, 0] [(20, .pointer (some ⟨g, o + i * 4, none⟩))] [] ?_
  refine sT 0 [] 4 17 21 (Instr.loadAt 3 (.pointer (some ⟨g, o + i * 4, none⟩))) (iq ((rget xs i).x0)) (fun w hT => run_load1 (by kernel_rfl) (Rd.cellF (hT 0 _ rfl) i 0 _ (by omega) rfl)) ?_
  refine cRc 22 (.slice A' n' cap') (.slice (some ⟨g', o', none⟩) n' cap') rfl (by rw [hra' (by omega)]) ?_
  refine sT 0 [] 7 16 24 (Instr.indexAt 23 (.slice (some ⟨g', o', none⟩) n' cap') (iq (i : Int))) (.pointer (some ⟨g', o' + i * 4, none⟩)) (fun w hT => run_indexAt (e := 32) (sz := 4) _ (by kernel_rfl) (by kernel_rfl) (by omega) (by omega) (by omega) w) ?_
  refine tD 0 [] [(8, 0)] 15 [8, 7, 4, 3, 2, 6, 5, 1, 0] [(25, .pointer (some ⟨g', o' + i * 4, none⟩))] [] ?_
  refine sT 0 [] 9 14 26 (Instr.loadAt 3 (.pointer (some ⟨g', o' + i * 4, none⟩))) (iq ((rget xs' i).x0)) (fun w hT => run_load1 (by kernel_rfl) (Rd.cellF (hT 1 _ rfl) i 0 _ (by omega) rfl)) ?_
  refine tD 0 [] [(10, 0), (11, 0)] 12 [11, 10, 9, 8, 7, 4, 3, 2, 6, 5, 1, 0] [(28, .bool (((rget xs i).x0) != ((rget xs' i).x0)))] [27] ?_
  refine cSp 28 (((rget xs i).x0) != ((rget xs' i).x0)) rfl (fun c4_ => ?_) (fun c4_ => ?_)
  ·
   replace c4_ := ne_of_bne c4_
   refine tD 0 [] [(12, 0), (13, 0), (17, 0), (18, 0), (14, 0), (19, 0), (15, 0), (20, 0), (16, 0), (21, 0), (22, 0), (23, 0)] 0 [23, 22, 21, 16, 20, 15, 19, 14, 18, 17, 13, 12, 11, 10, 9, 8, 7, 4, 3, 2, 6, 5, 1, 0] [(29, undef), (30, undef), (31, undef), (32, undef), (33, undef), (34, undef), (35, undef), (36, undef), (37, undef), (38, undef), (39, undef), (40, .bool true)] [] ?_
   refine drawn_done (by kernel_rfl) ?_
   refine tNo <| cTr rfl <| cSq <| cRg 1 rfl <| bS [0] 1 0 [(4, .bool false)] ?_
   refine cDn <| tNo <| cont_ret <| blk_ret <| then_ret <| then_ret <| blk_ret <| then_ret ?_
   refine ret_one (.inl rfl) rfl 0 (.bool false) (by kernel_rfl) (by kernel_rfl) (fun w hT => ?_)
   exact ⟨ret_bool (by first | exact (eqF_no (j := i) (by omega) (by omega) (by simp_all [span1])).symm | exact (eqF_len (by omega)).symm), hT.post rfl⟩
  replace c4_ := eq_of_bne_false c4_
  refine tD 0 [] [(12, 0), (13, 0), (17, 0), (18, 0)] 8 [18, 17, 13, 12, 11, 10, 9, 8, 7, 4, 3, 2, 6, 5, 1, 0] [(29, .slice A n cap), (30, iq (i : Int)), (34, .slice A' n' cap'), (35, iq (i : Int))] [] ?_
  refine cRc 29 (.slice A n cap) (.slice (some ⟨g, o, none⟩) n cap) rfl (by rw [hra (by omega)]) ?_
  refine sT 0 [] 14 7 31 (Instr.indexAt 23 (.slice (some ⟨g, o, none⟩) n cap) (iq (i : Int))) (.pointer (some ⟨g, o + i * 4, none⟩)) (fun w hT => run_indexAt (e := 32) (sz := 4) _ (by kernel_rfl) (by kernel_rfl) (by omega) (by omega) (by omega) w) ?_
  refine tD 0 [] [(15, 0)] 6 [15, 14, 18, 17, 13, 12, 11, 10, 9, 8, 7, 4, 3, 2, 6, 5, 1, 0] [(32, .pointer (some ⟨g, o + i * 4 + 2, none⟩))] [] ?_
  refine sT 0 [] 16 5 33 (Instr.loadAt 3 (.pointer (some ⟨g, o + i * 4 + 2, none⟩))) (iq ((rget xs i).x1)) (fun w hT => run_load1 (by kernel_rfl) (Rd.cellF (hT 0 _ rfl) i 2 _ (by omega) rfl)) ?_
  refine cRc 34 (.slice A' n' cap') (.slice (some ⟨g', o', none⟩) n' cap') rfl (by rw [hra' (by omega)]) ?_
  refine sT 0 [] 19 4 36 (Instr.indexAt 23 (.slice (some ⟨g', o', none⟩) n' cap') (iq (i : Int))) (.pointer (some ⟨g', o' + i * 4, none⟩)) (fun w hT => run_indexAt (e := 32) (sz := 4) _ (by kernel_rfl) (by kernel_rfl) (by omega) (by omega) (by omega) w) ?_
  refine tD 0 [] [(20, 0)] 3 [20, 19, 16, 15, 14, 18, 17, 13, 12, 11, 10, 9, 8, 7, 4, 3, 2, 6, 5, 1, 0] [(37, .pointer (some ⟨g', o' + i * 4 + 2, none⟩))] [] ?_
  refine sT 0 [] 21 2 38 (Instr.loadAt 3 (.pointer (some ⟨g', o' + i * 4 + 2, none⟩))) (iq ((rget xs' i).x1)) (fun w hT => run_load1 (by kernel_rfl) (Rd.cellF (hT 1 _ rfl) i 2 _ (by omega) rfl)) ?_
  refine tD 0 [] [(22, 0), (23, 0)] 0 [23, 22, 21, 20, 19, 16, 15, 14, 18, 17, 13, 12, 11, 10, 9, 8, 7, 4, 3, 2, 6, 5, 1, 0] [(39, .bool (((rget xs i).x1) != ((rget xs' i).x1))), (40, .bool (((rget xs i).x1) != ((rget xs' i).x1)))] [] ?_
  refine drawn_done (by kernel_rfl) ?_
  refine tNo ?_
  refine cSp 40 (((rget xs i).x1) != ((rget xs' i).x1)) rfl (fun c5_ => ?_) (fun c5_ => ?_)
  ·
   refine cRc 39 (.bool (((rget xs i).x1) != ((rget xs' i).x1))) (.bool true) rfl (congrArg Value.bool c5_) ?_
   replace c5_ := ne_of_bne c5_
   refine cTr rfl <| cSq <| cRg 1 rfl <| bS [0] 1 0 [(4, .bool false)] ?_
   refine cDn <| tNo <| cont_ret <| blk_ret <| then_ret <| then_ret <| blk_ret <| then_ret ?_
   refine ret_one (.inl rfl) rfl 0 (.bool false) (by kernel_rfl) (by kernel_rfl) (fun w hT => ?_)
   exact ⟨ret_bool (by first | exact (eqF_no (j := i) (by omega) (by omega) (by simp_all [span1])).symm | exact (eqF_len (by omega)).symm), hT.post rfl⟩
  refine cRc 39 (.bool (((rget xs i).x1) != ((rget xs' i).x1))) (.bool false) rfl (congrArg Value.bool c5_) ?_
  replace c5_ := eq_of_bne_false c5_
  refine cFa rfl <| cont_skip <| blk_normal <| tNo <| cRg 3 rfl <| bD [0, 0] 2 1 [(16, iq (IntKind.i64.wrap ((i : Int) + 1)))] [15] ?_
  refine cRc 16 (iq (IntKind.i64.wrap ((i : Int) + 1))) (iq ((i : Int) + 1)) rfl (wrapI (by omega) (by omega)) ?_
  refine bD [0] 3 0 [(5, iq ((i : Int) + 1))] [] ?_
  refine cDn <| tNo ?_
  refine cont_again (i + 1) (show (i + 1) ≤ n ∧ ∀ j, j < (i + 1) → span1 (rget xs j) (rget xs' j) = true from ⟨by omega, fun j hj => by rcases Nat.lt_succ_iff_lt_or_eq.1 hj with h_ | h_; exact hns j h_; subst h_; simp_all [span1]⟩) (show n - (i + 1) < n - i from by omega) (by kernel_rfl) (by kernel_rfl)
 replace c3_ := of_decide_eq_false c3_
 refine cFa rfl <| cont_exit <| then_exit <| then_exit <| blk_exit <| tNo <| cSq <| cRg 1 rfl <| bS [0] 1 0 [(4, .bool true)] ?_
 refine cDn <| tNo <| cont_ret ?_
 refine ret_one (.inl rfl) rfl 0 (.bool true) (by kernel_rfl) (by kernel_rfl) (fun w hT => ?_)
 exact ⟨ret_bool (eqF_all (by omega) (fun j hj => hns j (by omega))).symm, hT.post rfl⟩
theorem refAdd (A : Option Addr) (g o n cap : Nat) (xs : List Int) (y : Int) (w : World) (hT0 : Tab w w [rD (A) g o n 1 (iV xs)]) (hrise : Rise xs) (hn : n ≤ 1000000000) :
    Calls Tryz.prog 92 #[.slice A n cap, iQ y] w fun e w' => (e = .returned (.slice A n cap) ∧ y ∈ xs ∧ Below w.heap.size w w') ∨ (y ∉ xs ∧ ∃ (A_ : Option Addr) (g_ k_ cp_ : Nat), e = .returned (.slice A_ k_ cp_) ∧ Tab w w' [.gen (rowE (A_) g_ k_ cp_ 3 1 (iV (addL' xs y)) true)]) := by
 obtain ⟨hra, hrl⟩ := Rd.facts (hT0.ok 0 _ rfl)
 refine enter 49 [(0, .slice A n cap), (1, iq y)] [rD (A) g o n 1 (iV xs)] Tryz.func92 rfl Tryz.ntmps92 rfl (by kernel_rfl) hT0 ?_
 refine cSq <| cRg 1 rfl <| bD [0] 1 0 [] [4] ?_
 refine cDn <| tNo <| cSq <| cRg 1 rfl <| bD [0] 1 0 [(5, .slice none 0 0)] [] ?_
 refine cDn <| tNo <| cSq <| cRg 1 rfl <| bD [0] 1 0 [(6, .bool false)] [] ?_
 refine cDn <| tNo <| cSq <| cSq <| cRg 1 rfl <| bD [0] 1 0 [(7, iq 0)] [] ?_
 refine cDn <| tNo <| cont_block <| cont_nilrow 3 1 ?_
 refine cont_rowEq (k := .i64) 0 ([]) (insP xs y 0) rfl ((insP_zero _ _).symm) ?_
 refine cont_loop (α := Nat × Nat × Option Addr × Nat × Nat × Bool) (fun x_ : Nat × Nat × Option Addr × Nat × Nat × Bool => x_.1 ≤ n ∧ x_.2.1 ≤ x_.1 + 1 ∧ (∀ j, j < x_.1 → xs.getD j 0 ≠ y) ∧ x_.2.2.2.2.2 = anyGt (xs.take x_.1) y ∧ (x_.2.2.2.2.2 = false → x_.2.1 ≤ x_.1)) (fun x_ : Nat × Nat × Option Addr × Nat × Nat × Bool => [(0, .slice A n cap), (1, iq y), (5, .slice x_.2.2.1 x_.2.1 x_.2.2.2.2.1), (6, .bool x_.2.2.2.2.2), (7, iq (x_.1 : Int))]) (fun x_ : Nat × Nat × Option Addr × Nat × Nat × Bool => [.gen (rowE (x_.2.2.1) x_.2.2.2.1 x_.2.1 x_.2.2.2.2.1 3 1 (iV (insP xs y x_.1)) true), rD (A) g o n 1 (iV xs)]) (fun x_ : Nat × Nat × Option Addr × Nat × Nat × Bool => n - x_.1) (0, 0, none, 0, 0, false) (show (0) ≤ n ∧ (0) ≤ (0) + 1 ∧ (∀ j, j < (0) → xs.getD j 0 ≠ y) ∧ (false) = anyGt (xs.take (0)) y ∧ ((false) = false → (0) ≤ (0)) from ⟨by omega, by omega, fun j hj => by omega, (anyGt_zero _ _).symm, fun _ => by omega⟩) (by kernel_rfl) (by kernel_rfl) ?_
 rintro ⟨i, kq, Aq, gq, cq, dn⟩ hinv2_
 replace hinv2_ : i ≤ n ∧ kq ≤ i + 1 ∧ (∀ j, j < i → xs.getD j 0 ≠ y) ∧ dn = anyGt (xs.take i) y ∧ (dn = false → kq ≤ i) := hinv2_
 obtain ⟨hi, hkq, hne, hdn, hkd⟩ := hinv2_
 refine cSq <| cSq <| cRg 4 rfl <| bD [0, 0, 0, 0] 4 0 [(11, .bool (decide ((i : Int) < (n : Int))))] [8, 9, 10] ?_
 refine cDn <| tNo ?_
 refine cSp 11 (decide ((i : Int) < (n : Int))) rfl (fun c3_ => ?_) (fun c3_ => ?_)
 ·
  replace c3_ := of_decide_eq_true c3_
  refine cTr rfl <| cont_skip <| tNo <| cSq <| cont_block <| cSq <| cSq <| cRg 6 rfl <| bD [0, 0] 2 4 [(14, .slice A n cap), (15, iq (i : Int))] [] ?_
  refine pSt 3 3 rfl rfl <| cRc 14 (.slice A n cap) (.slice (some ⟨g, o, none⟩) n cap) rfl (by rw [hra (by omega)]) ?_
  refine sem_step 16 (Instr.indexAt 72 (.slice (some ⟨g, o, none⟩) n cap) (iq (i : Int))) (.pointer (some ⟨g, o + i, none⟩)) (by kernel_rfl) (fun w hT => run_indexAt (e := 3) (sz := 1) _ (by kernel_rfl) (by kernel_rfl) (by omega) (by omega) (by omega) w) ?_
  refine pSt 4 2 rfl rfl <| sem_step 17 (Instr.loadAt 3 (.pointer (some ⟨g, o + i, none⟩))) (iq (xs.getD i 0)) (by kernel_rfl) (fun w hT => run_load1 (by kernel_rfl) (Rd.cell (hT.ok 1 _ rfl) (i) _ (ivals_get (by omega)))) ?_
  refine bD [0, 0] 6 0 [(19, .bool ((xs.getD i 0) == y))] [18] ?_
  refine cDn <| tNo ?_
  refine cSp 19 ((xs.getD i 0) == y) rfl (fun c4_ => ?_) (fun c4_ => ?_)
  ·
   replace c4_ := eq_of_beqt c4_
   refine cTr rfl <| cSq <| cRg 2 rfl <| bS [0, 0] 2 0 [(4, .slice A n cap)] ?_
   refine cDn <| tNo <| cont_ret <| then_ret <| blk_ret <| then_ret <| then_ret <| blk_ret <| then_ret ?_
   refine ret_one (.inl rfl) rfl 0 (.slice A n cap) (by kernel_rfl) (by kernel_rfl) (fun w hT => ?_)
   exact .inl ⟨by rw [hra (by omega)], by rw [← show xs.getD i 0 = y by assumption]; exact getD_mem (by omega), hT.post rfl⟩
  replace c4_ := ne_of_beqf c4_
  refine cFa rfl <| cont_skip <| tNo <| cSq <| cSq <| cRg 10 rfl <| bD [0, 0, 0] 3 7 [(23, .bool (!dn))] [21, 22] ?_
  refine cSp 23 (!dn) rfl (fun c5_ => ?_) (fun c5_ => ?_)
  ·
   replace c5_ : dn = false := by simpa using c5_
   have hdf_ : dn = false := c5_
   have hkq2 := hkd hdf_
   refine bD [0, 0] 5 5 [(24, .slice A n cap), (25, iq (i : Int))] [] ?_
   refine pSt 6 4 rfl rfl <| cRc 24 (.slice A n cap) (.slice (some ⟨g, o, none⟩) n cap) rfl (by rw [hra (by omega)]) ?_
   refine sem_step 26 (Instr.indexAt 72 (.slice (some ⟨g, o, none⟩) n cap) (iq (i : Int))) (.pointer (some ⟨g, o + i, none⟩)) (by kernel_rfl) (fun w hT => run_indexAt (e := 3) (sz := 1) _ (by kernel_rfl) (by kernel_rfl) (by omega) (by omega) (by omega) w) ?_
   refine pSt 7 3 rfl rfl <| sem_step 27 (Instr.loadAt 3 (.pointer (some ⟨g, o + i, none⟩))) (iq (xs.getD i 0)) (by kernel_rfl) (fun w hT => run_load1 (by kernel_rfl) (Rd.cell (hT.ok 1 _ rfl) (i) _ (ivals_get (by omega)))) ?_
   refine bD [0, 0, 0] 10 0 [(28, iq y), (29, .bool (decide ((xs.getD i 0) > y))), (30, .bool (decide ((xs.getD i 0) > y)))] [] ?_
   refine cDn <| tNo ?_
   refine cSp 30 (decide ((xs.getD i 0) > y)) rfl (fun c6_ => ?_) (fun c6_ => ?_)
   ·
    refine cRc 29 (.bool (decide ((xs.getD i 0) > y))) (.bool true) rfl (congrArg Value.bool c6_) ?_
    replace c6_ := of_decide_eq_true c6_
    refine cTr rfl <| cSq <| cRg 5 rfl ?_
    refine batch1 [0, 0, 0] 3 2 (fun b7 => [(0, .slice A n cap), (1, iq y), (7, iq (i : Int)), (24, .slice (some ⟨g, o, none⟩) n cap), (25, iq (i : Int)), (26, .pointer (some ⟨g, o + i, none⟩)), (27, iq (xs.getD i 0)), (28, iq y), (29, .bool true), (31, .slice Aq kq cq), (33, .slice (pB b7) 1 1)]) (fun b7 => [.cells b7 [iq y] 3 true, .gen (rowE (Aq) gq kq cq 3 1 (iV (insP xs y i)) true), rD (A) g o n 1 (iV xs)]) rfl rfl [0, 1, 7, 24, 25, 26, 27, 28, 29, 31, 33] (fun _ => rfl) (fun b7 => by kernel_rfl) (fun b7 => by kernel_rfl) (fun b7 => ?_)
    refine pSt 4 1 rfl rfl <| sSW (α := Option Addr × Nat × Nat) 34 (Builtin.append_ #[72, 72] 72 #[.slice Aq kq cq, .slice (pB b7) 1 1]) (fun x_ => .slice x_.1 (kq + 1) x_.2.2) (fun x_ => [.cells b7 [iq y] 3 true, .gen (rowE (x_.1) x_.2.1 (kq + 1) x_.2.2 3 1 (iV ((insP xs y i) ++ [y])) true), rD (A) g o n 1 (iV xs)]) (fun _ => True) (by kernel_rfl) (fun w hT => append_own (n' := (kq + 1)) (z := iq 0) hT (i := 1) (bytes := 8) rfl (by kernel_rfl) (by kernel_rfl) rfl (by decide) (by decide) (Rd.ofCells (vals := ivals .i64 [y]) (hT.ok 0 _ rfl) rfl rfl) (ivals_one .i64 [y]) (by omega) (ivals_append .i64 (insP xs y i) [y]) rfl) ?_
    rintro ⟨A8, g8, cp8⟩ -
    refine cont_fact (F := (0 < (kq + 1) → (A8 : Option Addr) = pB g8) ∧ ((insP xs y i) ++ [y]).length = (kq + 1) ∧ (kq + 1) ≤ cp8 ∧ cp8 ≤ maxLen) (fun w hT => Row.facts (hT.ok 1 _ rfl)) (fun hr9_ => ?_)
    obtain ⟨hr9_a, hr9_l, hr9_c, hr9_m⟩ := hr9_
    unfold maxLen at hr9_m
    refine bD [0] 5 0 [(5, .slice A8 (kq + 1) cp8)] [] ?_
    refine cFg 0 rfl <| cDn <| tNo <| cRg 1 rfl <| bD [0] 1 0 [(6, .bool true)] [] ?_
    refine cDn <| tNo <| cRg 8 rfl <| bD [0, 0, 0] 3 5 [(35, .slice A8 (kq + 1) cp8), (36, .slice A n cap), (37, iq (i : Int))] [] ?_
    refine pSt 4 4 rfl rfl <| cRc 36 (.slice A n cap) (.slice (some ⟨g, o, none⟩) n cap) rfl (by rw [hra (by omega)]) ?_
    refine sem_step 38 (Instr.indexAt 72 (.slice (some ⟨g, o, none⟩) n cap) (iq (i : Int))) (.pointer (some ⟨g, o + i, none⟩)) (by kernel_rfl) (fun w hT => run_indexAt (e := 3) (sz := 1) _ (by kernel_rfl) (by kernel_rfl) (by omega) (by omega) (by omega) w) ?_
    refine pSt 5 3 rfl rfl <| sem_step 39 (Instr.loadAt 3 (.pointer (some ⟨g, o + i, none⟩))) (iq (xs.getD i 0)) (by kernel_rfl) (fun w hT => run_load1 (by kernel_rfl) (Rd.cell (hT.ok 1 _ rfl) (i) _ (ivals_get (by omega)))) ?_
    refine batch1 [0] 6 2 (fun b10 => [(0, .slice A n cap), (1, iq y), (6, .bool true), (7, iq (i : Int)), (24, .slice (some ⟨g, o, none⟩) n cap), (25, iq (i : Int)), (26, .pointer (some ⟨g, o + i, none⟩)), (27, iq (xs.getD i 0)), (28, iq y), (29, .bool true), (35, .slice A8 (kq + 1) cp8), (40, .slice (pB b10) 1 1)]) (fun b10 => [.cells b10 [iq (xs.getD i 0)] 3 true, .gen (rowE (A8) g8 (kq + 1) cp8 3 1 (iV ((insP xs y i) ++ [y])) true), rD (A) g o n 1 (iV xs)]) rfl rfl [0, 1, 6, 7, 24, 25, 26, 27, 28, 29, 35, 40] (fun _ => rfl) (fun b10 => by kernel_rfl) (fun b10 => by kernel_rfl) (fun b10 => ?_)
    refine pSt 7 1 rfl rfl <| sSW (α := Option Addr × Nat × Nat) 41 (Builtin.append_ #[72, 72] 72 #[.slice A8 (kq + 1) cp8, .slice (pB b10) 1 1]) (fun x_ => .slice x_.1 ((kq + 1) + 1) x_.2.2) (fun x_ => [.cells b10 [iq (xs.getD i 0)] 3 true, .gen (rowE (x_.1) x_.2.1 ((kq + 1) + 1) x_.2.2 3 1 (iV (((insP xs y i) ++ [y]) ++ [xs.getD i 0])) true), rD (A) g o n 1 (iV xs)]) (fun _ => True) (by kernel_rfl) (fun w hT => append_own (n' := ((kq + 1) + 1)) (z := iq 0) hT (i := 1) (bytes := 8) rfl (by kernel_rfl) (by kernel_rfl) rfl (by decide) (by decide) (Rd.ofCells (vals := ivals .i64 [xs.getD i 0]) (hT.ok 0 _ rfl) rfl rfl) (ivals_one .i64 [xs.getD i 0]) (by omega) (ivals_append .i64 ((insP xs y i) ++ [y]) [xs.getD i 0]) rfl) ?_
    rintro ⟨A11, g11, cp11⟩ -
    refine cont_fact (F := (0 < ((kq + 1) + 1) → (A11 : Option Addr) = pB g11) ∧ (((insP xs y i) ++ [y]) ++ [xs.getD i 0]).length = ((kq + 1) + 1) ∧ ((kq + 1) + 1) ≤ cp11 ∧ cp11 ≤ maxLen) (fun w hT => Row.facts (hT.ok 1 _ rfl)) (fun hr12_ => ?_)
    obtain ⟨hr12_a, hr12_l, hr12_c, hr12_m⟩ := hr12_
    unfold maxLen at hr12_m
    refine bD [0] 8 0 [(5, .slice A11 ((kq + 1) + 1) cp11)] [] ?_
    refine cFg 0 rfl <| cDn <| blk_normal <| tNo <| cRg 3 rfl <| bD [0, 0] 2 1 [(13, iq (IntKind.i64.wrap ((i : Int) + 1)))] [12] ?_
    refine cRc 13 (iq (IntKind.i64.wrap ((i : Int) + 1))) (iq ((i : Int) + 1)) rfl (wrapI (by omega) (by omega)) ?_
    refine bS [0] 3 0 [(0, .slice A n cap), (1, iq y), (5, .slice A11 ((kq + 1) + 1) cp11), (6, .bool true), (7, iq ((i : Int) + 1)), (24, .slice (some ⟨g, o, none⟩) n cap), (25, iq (i : Int)), (26, .pointer (some ⟨g, o + i, none⟩)), (27, iq (xs.getD i 0)), (28, iq y), (29, .bool true)] ?_
    refine cDn <| tNo <| cont_rowEq (k := .i64) 0 (((insP xs y i) ++ [y]) ++ [xs.getD i 0]) (insP xs y (i + 1)) rfl (insP_gt (by omega) (hdn ▸ hdf_) (by omega) hne) ?_
    refine cont_again (i + 1, ((kq + 1) + 1), A11, g11, cp11, true) (show (i + 1) ≤ n ∧ (((kq + 1) + 1)) ≤ (i + 1) + 1 ∧ (∀ j, j < (i + 1) → xs.getD j 0 ≠ y) ∧ (true) = anyGt (xs.take (i + 1)) y ∧ ((true) = false → (((kq + 1) + 1)) ≤ (i + 1)) from ⟨by omega, by omega, fun j hj => by rcases Nat.lt_succ_iff_lt_or_eq.1 hj with h_ | h_; exact hne j h_; subst h_; assumption, by rw [anyGt_succ (by omega), decide_eq_true (by omega)]; simp, fun h_ => by first | exact absurd h_ (by decide) | (rw [hdt_] at h_; cases h_) | (have := hkd hdf_; omega)⟩) (show n - (i + 1) < n - i from by omega) (by kernel_rfl) (by kernel_rfl)
   refine cRc 29 (.bool (decide ((xs.getD i 0) > y))) (.bool false) rfl (congrArg Value.bool c6_) ?_
   replace c6_ := of_decide_eq_false c6_
   refine cFa rfl <| cont_skip <| tNo <| cRg 8 rfl <| bD [0, 0, 0] 3 5 [(35, .slice Aq kq cq), (36, .slice A n cap), (37, iq (i : Int))] [] ?_
   refine pSt 4 4 rfl rfl <| cRc 36 (.slice A n cap) (.slice (some ⟨g, o, none⟩) n cap) rfl (by rw [hra (by omega)]) ?_
   refine sem_step 38 (Instr.indexAt 72 (.slice (some ⟨g, o, none⟩) n cap) (iq (i : Int))) (.pointer (some ⟨g, o + i, none⟩)) (by kernel_rfl) (fun w hT => run_indexAt (e := 3) (sz := 1) _ (by kernel_rfl) (by kernel_rfl) (by omega) (by omega) (by omega) w) ?_
   refine pSt 5 3 rfl rfl <| sem_step 39 (Instr.loadAt 3 (.pointer (some ⟨g, o + i, none⟩))) (iq (xs.getD i 0)) (by kernel_rfl) (fun w hT => run_load1 (by kernel_rfl) (Rd.cell (hT.ok 1 _ rfl) (i) _ (ivals_get (by omega)))) ?_
   refine batch1 [0] 6 2 (fun b13 => [(0, .slice A n cap), (1, iq y), (6, .bool dn), (7, iq (i : Int)), (24, .slice (some ⟨g, o, none⟩) n cap), (25, iq (i : Int)), (26, .pointer (some ⟨g, o + i, none⟩)), (27, iq (xs.getD i 0)), (28, iq y), (29, .bool false), (35, .slice Aq kq cq), (40, .slice (pB b13) 1 1)]) (fun b13 => [.cells b13 [iq (xs.getD i 0)] 3 true, .gen (rowE (Aq) gq kq cq 3 1 (iV (insP xs y i)) true), rD (A) g o n 1 (iV xs)]) rfl rfl [0, 1, 6, 7, 24, 25, 26, 27, 28, 29, 35, 40] (fun _ => rfl) (fun b13 => by kernel_rfl) (fun b13 => by kernel_rfl) (fun b13 => ?_)
   refine pSt 7 1 rfl rfl <| sSW (α := Option Addr × Nat × Nat) 41 (Builtin.append_ #[72, 72] 72 #[.slice Aq kq cq, .slice (pB b13) 1 1]) (fun x_ => .slice x_.1 (kq + 1) x_.2.2) (fun x_ => [.cells b13 [iq (xs.getD i 0)] 3 true, .gen (rowE (x_.1) x_.2.1 (kq + 1) x_.2.2 3 1 (iV ((insP xs y i) ++ [xs.getD i 0])) true), rD (A) g o n 1 (iV xs)]) (fun _ => True) (by kernel_rfl) (fun w hT => append_own (n' := (kq + 1)) (z := iq 0) hT (i := 1) (bytes := 8) rfl (by kernel_rfl) (by kernel_rfl) rfl (by decide) (by decide) (Rd.ofCells (vals := ivals .i64 [xs.getD i 0]) (hT.ok 0 _ rfl) rfl rfl) (ivals_one .i64 [xs.getD i 0]) (by omega) (ivals_append .i64 (insP xs y i) [xs.getD i 0]) rfl) ?_
   rintro ⟨A14, g14, cp14⟩ -
   refine cont_fact (F := (0 < (kq + 1) → (A14 : Option Addr) = pB g14) ∧ ((insP xs y i) ++ [xs.getD i 0]).length = (kq + 1) ∧ (kq + 1) ≤ cp14 ∧ cp14 ≤ maxLen) (fun w hT => Row.facts (hT.ok 1 _ rfl)) (fun hr15_ => ?_)
   obtain ⟨hr15_a, hr15_l, hr15_c, hr15_m⟩ := hr15_
   unfold maxLen at hr15_m
   refine bD [0] 8 0 [(5, .slice A14 (kq + 1) cp14)] [] ?_
   refine cFg 0 rfl <| cDn <| blk_normal <| tNo <| cRg 3 rfl <| bD [0, 0] 2 1 [(13, iq (IntKind.i64.wrap ((i : Int) + 1)))] [12] ?_
   refine cRc 13 (iq (IntKind.i64.wrap ((i : Int) + 1))) (iq ((i : Int) + 1)) rfl (wrapI (by omega) (by omega)) ?_
   refine bD [0] 3 0 [(7, iq ((i : Int) + 1))] [] ?_
   refine cDn <| tNo ?_
   have hst_ : insP xs y i ++ [xs.getD i 0] = insP xs y (i + 1) ∧ anyGt (xs.take (i + 1)) y = dn := by
     rw [hdf_]; exact insP_low (by omega) (hdn.symm.trans hdf_) (by omega)
   refine cont_rowEq (k := .i64) 0 ((insP xs y i) ++ [xs.getD i 0]) (insP xs y (i + 1)) rfl hst_.1 ?_
   refine cont_again (i + 1, (kq + 1), A14, g14, cp14, dn) (show (i + 1) ≤ n ∧ ((kq + 1)) ≤ (i + 1) + 1 ∧ (∀ j, j < (i + 1) → xs.getD j 0 ≠ y) ∧ (dn) = anyGt (xs.take (i + 1)) y ∧ ((dn) = false → ((kq + 1)) ≤ (i + 1)) from ⟨by omega, by omega, fun j hj => by rcases Nat.lt_succ_iff_lt_or_eq.1 hj with h_ | h_; exact hne j h_; subst h_; assumption, by rw [hst_.2, hdf_], fun h_ => by first | exact absurd h_ (by decide) | (rw [hdt_] at h_; cases h_) | (have := hkd hdf_; omega)⟩) (show n - (i + 1) < n - i from by omega) (by kernel_rfl) (by kernel_rfl)
  replace c5_ : dn = true := by simpa using c5_
  have hdt_ : dn = true := c5_
  refine bD [0, 0, 0, 0, 0, 0, 0] 10 0 [(24, undef), (25, undef), (26, undef), (27, undef), (28, undef), (29, undef), (30, .bool false)] [] ?_
  refine cDn <| tNo <| cFa rfl <| cont_skip <| tNo <| cRg 8 rfl <| bD [0, 0, 0] 3 5 [(35, .slice Aq kq cq), (36, .slice A n cap), (37, iq (i : Int))] [] ?_
  refine pSt 4 4 rfl rfl <| cRc 36 (.slice A n cap) (.slice (some ⟨g, o, none⟩) n cap) rfl (by rw [hra (by omega)]) ?_
  refine sem_step 38 (Instr.indexAt 72 (.slice (some ⟨g, o, none⟩) n cap) (iq (i : Int))) (.pointer (some ⟨g, o + i, none⟩)) (by kernel_rfl) (fun w hT => run_indexAt (e := 3) (sz := 1) _ (by kernel_rfl) (by kernel_rfl) (by omega) (by omega) (by omega) w) ?_
  refine pSt 5 3 rfl rfl <| sem_step 39 (Instr.loadAt 3 (.pointer (some ⟨g, o + i, none⟩))) (iq (xs.getD i 0)) (by kernel_rfl) (fun w hT => run_load1 (by kernel_rfl) (Rd.cell (hT.ok 1 _ rfl) (i) _ (ivals_get (by omega)))) ?_
  refine batch1 [0] 6 2 (fun b16 => [(0, .slice A n cap), (1, iq y), (6, .bool dn), (7, iq (i : Int)), (24, undef), (25, undef), (26, undef), (27, undef), (28, undef), (29, undef), (35, .slice Aq kq cq), (40, .slice (pB b16) 1 1)]) (fun b16 => [.cells b16 [iq (xs.getD i 0)] 3 true, .gen (rowE (Aq) gq kq cq 3 1 (iV (insP xs y i)) true), rD (A) g o n 1 (iV xs)]) rfl rfl [0, 1, 6, 7, 24, 25, 26, 27, 28, 29, 35, 40] (fun _ => rfl) (fun b16 => by kernel_rfl) (fun b16 => by kernel_rfl) (fun b16 => ?_)
  refine pSt 7 1 rfl rfl <| sSW (α := Option Addr × Nat × Nat) 41 (Builtin.append_ #[72, 72] 72 #[.slice Aq kq cq, .slice (pB b16) 1 1]) (fun x_ => .slice x_.1 (kq + 1) x_.2.2) (fun x_ => [.cells b16 [iq (xs.getD i 0)] 3 true, .gen (rowE (x_.1) x_.2.1 (kq + 1) x_.2.2 3 1 (iV ((insP xs y i) ++ [xs.getD i 0])) true), rD (A) g o n 1 (iV xs)]) (fun _ => True) (by kernel_rfl) (fun w hT => append_own (n' := (kq + 1)) (z := iq 0) hT (i := 1) (bytes := 8) rfl (by kernel_rfl) (by kernel_rfl) rfl (by decide) (by decide) (Rd.ofCells (vals := ivals .i64 [xs.getD i 0]) (hT.ok 0 _ rfl) rfl rfl) (ivals_one .i64 [xs.getD i 0]) (by omega) (ivals_append .i64 (insP xs y i) [xs.getD i 0]) rfl) ?_
  rintro ⟨A17, g17, cp17⟩ -
  refine cont_fact (F := (0 < (kq + 1) → (A17 : Option Addr) = pB g17) ∧ ((insP xs y i) ++ [xs.getD i 0]).length = (kq + 1) ∧ (kq + 1) ≤ cp17 ∧ cp17 ≤ maxLen) (fun w hT => Row.facts (hT.ok 1 _ rfl)) (fun hr18_ => ?_)
  obtain ⟨hr18_a, hr18_l, hr18_c, hr18_m⟩ := hr18_
  unfold maxLen at hr18_m
  refine bD [0] 8 0 [(5, .slice A17 (kq + 1) cp17)] [] ?_
  refine cFg 0 rfl <| cDn <| blk_normal <| tNo <| cRg 3 rfl <| bD [0, 0] 2 1 [(13, iq (IntKind.i64.wrap ((i : Int) + 1)))] [12] ?_
  refine cRc 13 (iq (IntKind.i64.wrap ((i : Int) + 1))) (iq ((i : Int) + 1)) rfl (wrapI (by omega) (by omega)) ?_
  refine bD [0] 3 0 [(7, iq ((i : Int) + 1))] [] ?_
  refine cDn <| tNo ?_
  have hst_ : insP xs y i ++ [xs.getD i 0] = insP xs y (i + 1) ∧ anyGt (xs.take (i + 1)) y = dn := by
    rw [hdt_]; exact insP_on hrise (by omega) (hdn.symm.trans hdt_)
  refine cont_rowEq (k := .i64) 0 ((insP xs y i) ++ [xs.getD i 0]) (insP xs y (i + 1)) rfl hst_.1 ?_
  refine cont_again (i + 1, (kq + 1), A17, g17, cp17, dn) (show (i + 1) ≤ n ∧ ((kq + 1)) ≤ (i + 1) + 1 ∧ (∀ j, j < (i + 1) → xs.getD j 0 ≠ y) ∧ (dn) = anyGt (xs.take (i + 1)) y ∧ ((dn) = false → ((kq + 1)) ≤ (i + 1)) from ⟨by omega, by omega, fun j hj => by rcases Nat.lt_succ_iff_lt_or_eq.1 hj with h_ | h_; exact hne j h_; subst h_; assumption, by rw [hst_.2, hdt_], fun h_ => by first | exact absurd h_ (by decide) | (rw [hdt_] at h_; cases h_) | (have := hkd hdf_; omega)⟩) (show n - (i + 1) < n - i from by omega) (by kernel_rfl) (by kernel_rfl)
 replace c3_ := of_decide_eq_false c3_
 refine cFa rfl <| cont_exit <| then_exit <| then_exit <| blk_exit <| tNo <| cSq <| cSq <| cRg 2 rfl <| bD [0, 0] 2 0 [(43, .bool (!dn))] [42] ?_
 refine cDn <| tNo ?_
 refine cSp 43 (!dn) rfl (fun c19_ => ?_) (fun c19_ => ?_)
 ·
  replace c19_ : dn = false := by simpa using c19_
  have hdf_ : dn = false := c19_
  have hkq2 := hkd hdf_
  refine cTr rfl <| cRg 5 rfl ?_
  refine batch1 [0, 0, 0] 3 2 (fun b20 => [(44, .slice Aq kq cq), (46, .slice (pB b20) 1 1)]) (fun b20 => [.cells b20 [iq y] 3 true, .gen (rowE (Aq) gq kq cq 3 1 (iV (insP xs y i)) true), rD (A) g o n 1 (iV xs)]) rfl rfl [44, 46] (fun _ => rfl) (fun b20 => by kernel_rfl) (fun b20 => by kernel_rfl) (fun b20 => ?_)
  refine pSt 4 1 rfl rfl <| sSW (α := Option Addr × Nat × Nat) 47 (Builtin.append_ #[72, 72] 72 #[.slice Aq kq cq, .slice (pB b20) 1 1]) (fun x_ => .slice x_.1 (kq + 1) x_.2.2) (fun x_ => [.cells b20 [iq y] 3 true, .gen (rowE (x_.1) x_.2.1 (kq + 1) x_.2.2 3 1 (iV ((insP xs y i) ++ [y])) true), rD (A) g o n 1 (iV xs)]) (fun _ => True) (by kernel_rfl) (fun w hT => append_own (n' := (kq + 1)) (z := iq 0) hT (i := 1) (bytes := 8) rfl (by kernel_rfl) (by kernel_rfl) rfl (by decide) (by decide) (Rd.ofCells (vals := ivals .i64 [y]) (hT.ok 0 _ rfl) rfl rfl) (ivals_one .i64 [y]) (by omega) (ivals_append .i64 (insP xs y i) [y]) rfl) ?_
  rintro ⟨A21, g21, cp21⟩ -
  refine cont_fact (F := (0 < (kq + 1) → (A21 : Option Addr) = pB g21) ∧ ((insP xs y i) ++ [y]).length = (kq + 1) ∧ (kq + 1) ≤ cp21 ∧ cp21 ≤ maxLen) (fun w hT => Row.facts (hT.ok 1 _ rfl)) (fun hr22_ => ?_)
  obtain ⟨hr22_a, hr22_l, hr22_c, hr22_m⟩ := hr22_
  unfold maxLen at hr22_m
  refine bS [0] 5 0 [(5, .slice A21 (kq + 1) cp21)] ?_
  refine cFg 0 rfl <| cDn <| tNo <| cSq <| cRg 2 rfl <| bS [0, 0] 2 0 [(4, .slice A21 (kq + 1) cp21)] ?_
  refine cDn <| tNo <| cont_ret ?_
  refine ret_one (.inl rfl) rfl 0 (.slice A21 (kq + 1) cp21) (by kernel_rfl) (by kernel_rfl) (fun w hT => ?_)
  replace hT := hT.erase 1 (fun e h hw => by cases h; first | rfl | cases hw)
  refine .inr ⟨notin (i := i) (by omega) hne, ?_⟩
  rw [insP_last (by omega) (hdn.symm.trans hdf_) hne] at hT
  exact ⟨_, _, _, _, rfl, hT⟩
 replace c19_ : dn = true := by simpa using c19_
 have hdt_ : dn = true := c19_
 refine cFa rfl <| cont_skip <| tNo <| cSq <| cRg 2 rfl <| bS [0, 0] 2 0 [(4, .slice Aq kq cq)] ?_
 refine cDn <| tNo <| cont_ret ?_
 refine ret_one (.inl rfl) rfl 0 (.slice Aq kq cq) (by kernel_rfl) (by kernel_rfl) (fun w hT => ?_)
 replace hT := hT.erase 1 (fun e h hw => by cases h; first | rfl | cases hw)
 refine .inr ⟨notin (i := i) (by omega) hne, ?_⟩
 rw [insP_end (by omega) (hdn.symm.trans hdt_) hne] at hT
 exact ⟨_, _, _, _, rfl, hT⟩
theorem refMerge (A : Option Addr) (g o n cap : Nat) (xs : List Rect) (A' : Option Addr) (g' o' n' cap' : Nat) (xs' : List Rect) (how : Int) (w : World) (hT0 : Tab w w [rD (A) g o n 4 (rvals xs), rD (A') g' o' n' 4 (rvals xs')]) (hn : n + n' ≤ 262144) :
    Calls Tryz.prog 67 #[.slice A n cap, .slice A' n' cap', iQ how] w fun e w' => ∃ (A_ : Option Addr) (g_ k_ cp_ : Nat), e = .returned (.slice A_ k_ cp_) ∧ Tab w w' [.gen (rowE (A_) g_ k_ cp_ 32 4 (rvals (regM (docK how) xs xs')) true)] := by
 obtain ⟨hra, hrl⟩ := Rd.factsR (hT0.ok 0 _ rfl)
 obtain ⟨hra', hrl'⟩ := Rd.factsR (hT0.ok 1 _ rfl)
 refine enter 195 [(0, .slice A n cap), (1, .slice A' n' cap'), (2, iq how)] [rD (A) g o n 4 (rvals xs), rD (A') g' o' n' 4 (rvals xs')] Tryz.func67 rfl Tryz.ntmps67 rfl (by kernel_rfl) hT0 ?_
 refine cSq <| cRg 1 rfl <| bD [0] 1 0 [] [6] ?_
 refine cDn <| tNo <| cSq <| cRg 1 rfl <| bD [0] 1 0 [(7, .slice none 0 0)] [] ?_
 refine cDn <| tNo <| cSq <| cRg 1 rfl <| bS [0] 1 0 [(0, .slice A n cap), (1, .slice A' n' cap'), (2, iq how), (7, .slice none 0 0), (8, .slice none 0 0)] ?_
 refine cDn <| tNo <| cSq <| cSq <| cRg 1 rfl <| bD [0] 1 0 [(9, iq 0)] [] ?_
 refine cDn <| tNo <| cont_block <| cont_nilrow 3 1 ?_
 refine cN [.gen (rowE (none) 0 0 0 3 1 (ivals .i64 []) true), rD (A) g o n 4 (rvals xs), rD (A') g' o' n' 4 (rvals xs')] ?_
 refine cont_nilrow 3 1 ?_
 refine cont_norm [(0, .slice A n cap), (1, .slice A' n' cap'), (2, iq how), (7, .slice none 0 0), (8, .slice none 0 0), (9, iq 0)] [.gen (rowE (none) 0 0 0 3 1 (ivals .i64 []) true), .gen (rowE (none) 0 0 0 3 1 (ivals .i64 []) true), rD (A) g o n 4 (rvals xs), rD (A') g' o' n' 4 (rvals xs')] (by kernel_rfl) rfl ?_
 refine cont_rowEq (k := .i64) 1 ([]) (gx (xs ++ xs') 0) rfl ((gx_zero _).symm) ?_
 refine cont_rowEq (k := .i64) 0 ([]) (gy (xs ++ xs') 0) rfl ((gy_zero _).symm) ?_
 refine cont_loop (α := Nat × Nat × Option Addr × Nat × Nat × Nat × Option Addr × Nat × Nat) (fun x_ : Nat × Nat × Option Addr × Nat × Nat × Nat × Option Addr × Nat × Nat => x_.1 ≤ n + n') (fun x_ : Nat × Nat × Option Addr × Nat × Nat × Nat × Option Addr × Nat × Nat => [(0, .slice A n cap), (1, .slice A' n' cap'), (2, iq how), (7, .slice x_.2.2.1 x_.2.1 x_.2.2.2.2.1), (8, .slice x_.2.2.2.2.2.2.1 x_.2.2.2.2.2.1 x_.2.2.2.2.2.2.2.2), (9, iq (x_.1 : Int))]) (fun x_ : Nat × Nat × Option Addr × Nat × Nat × Nat × Option Addr × Nat × Nat => [.gen (rowE (x_.2.2.2.2.2.2.1) x_.2.2.2.2.2.2.2.1 x_.2.2.2.2.2.1 x_.2.2.2.2.2.2.2.2 3 1 (iV (gy (xs ++ xs') x_.1)) true), .gen (rowE (x_.2.2.1) x_.2.2.2.1 x_.2.1 x_.2.2.2.2.1 3 1 (iV (gx (xs ++ xs') x_.1)) true), rD (A) g o n 4 (rvals xs), rD (A') g' o' n' 4 (rvals xs')]) (fun x_ : Nat × Nat × Option Addr × Nat × Nat × Nat × Option Addr × Nat × Nat => n + n' - x_.1) (0, 0, none, 0, 0, 0, none, 0, 0) (show (0) ≤ n + n' from (by omega)) (by kernel_rfl) (by kernel_rfl) ?_
 rintro ⟨i, kx, Ax, gx_, cx, ky, Ay, gy_, cy⟩ hinv3_
 replace hinv3_ : i ≤ n + n' := hinv3_
 refine cN [.gen (rowE (Ay) gy_ ky cy 3 1 (iV (gy (xs ++ xs') i)) true), .gen (rowE (Ax) gx_ kx cx 3 1 (iV (gx (xs ++ xs') i)) true), rD (A) g o n 4 (rvals xs), rD (A') g' o' n' 4 (rvals xs')] ?_
 have hi := hinv3_
 have hrx := gx_rise (xs ++ xs') i
 have hry := gy_rise (xs ++ xs') i
 have hlx := gx_length (xs ++ xs') i
 have hly := gy_length (xs ++ xs') i
 have hab : (xs ++ xs').length = n + n' := by rw [List.length_append]; omega
 refine cSq <| cSq <| cRg 7 rfl <| bD [0, 0, 0, 0, 0, 0] 6 1 [(19, iq (i : Int)), (24, iq (IntKind.i64.wrap ((n : Int) + ((n' : Nat) : Int))))] [20, 21, 22, 23] ?_
 refine cRc 24 (iq (IntKind.i64.wrap ((n : Int) + ((n' : Nat) : Int)))) (iq ((n : Int) + ((n' : Nat) : Int))) rfl (wrapI (by omega) (by omega)) ?_
 refine bS [0] 7 0 [(0, .slice A n cap), (1, .slice A' n' cap'), (2, iq how), (7, .slice Ax kx cx), (8, .slice Ay ky cy), (9, iq (i : Int)), (25, .bool (decide ((i : Int) < ((n : Int) + ((n' : Nat) : Int)))))] ?_
 refine cDn <| tNo ?_
 refine cSp 25 (decide ((i : Int) < ((n : Int) + ((n' : Nat) : Int)))) rfl (fun c4_ => ?_) (fun c4_ => ?_)
 ·
  replace c4_ := of_decide_eq_true c4_
  refine cTr rfl <| cont_skip <| tNo <| cSq <| cont_block <| cSq <| cRg 1 rfl ?_
  refine batch1 [0] 1 0 (fun b5 => [(0, .slice A n cap), (1, .slice A' n' cap'), (2, iq how), (7, .slice Ax kx cx), (8, .slice Ay ky cy), (9, iq (i : Int)), (10, .pointer (pB b5))]) (fun b5 => [.cells b5 [iq 0, iq 0, iq 0, iq 0] 32 true, .gen (rowE (Ay) gy_ ky cy 3 1 (iV (gy (xs ++ xs') i)) true), .gen (rowE (Ax) gx_ kx cx 3 1 (iV (gx (xs ++ xs') i)) true), rD (A) g o n 4 (rvals xs), rD (A') g' o' n' 4 (rvals xs')]) rfl rfl [0, 1, 2, 7, 8, 9, 10] (fun _ => rfl) (fun b5 => by kernel_rfl) (fun b5 => by kernel_rfl) (fun b5 => ?_)
  refine cDn <| tNo <| cSq <| cSq <| cRg 4 rfl <| bD [0, 0, 0, 0] 4 0 [(31, .bool (decide ((i : Int) < (n : Int))))] [28, 29, 30] ?_
  refine cDn <| tNo ?_
  refine cSp 31 (decide ((i : Int) < (n : Int))) rfl (fun c6_ => ?_) (fun c6_ => ?_)
  ·
   replace c6_ := of_decide_eq_true c6_
   refine cTr rfl <| cRg 5 rfl <| bD [0, 0] 2 3 [(32, .slice A n cap), (33, iq (i : Int))] [] ?_
   refine pSt 3 2 rfl rfl <| cRc 32 (.slice A n cap) (.slice (some ⟨g, o, none⟩) n cap) rfl (by rw [hra (by omega)]) ?_
   refine sem_step 34 (Instr.indexAt 23 (.slice (some ⟨g, o, none⟩) n cap) (iq (i : Int))) (.pointer (some ⟨g, o + i * 4, none⟩)) (by kernel_rfl) (fun w hT => run_indexAt (e := 32) (sz := 4) _ (by kernel_rfl) (by kernel_rfl) (by omega) (by omega) (by omega) w) ?_
   refine pSt 4 1 rfl rfl <| sem_step 35 (Instr.loadAt 32 (.pointer (some ⟨g, o + i * 4, none⟩))) (.agg #[iq ((rget xs i).x0), iq ((rget xs i).y0), iq ((rget xs i).x1), iq ((rget xs i).y1)]) (by kernel_rfl) (fun w hT => run_loadN (m := 4) (cs := rcells (rget xs i)) (by kernel_rfl) (by kernel_rfl) rfl (Rd.rect (hT.ok 3 _ rfl) (by omega))) ?_
   refine batch0 [0] 5 0 [(0, .slice A n cap), (1, .slice A' n' cap'), (2, iq how), (7, .slice Ax kx cx), (8, .slice Ay ky cy), (9, iq (i : Int)), (10, .pointer (pB b5))] [.cells b5 [iq ((rget xs i).x0), iq ((rget xs i).y0), iq ((rget xs i).x1), iq ((rget xs i).y1)] 32 true, .gen (rowE (Ay) gy_ ky cy 3 1 (iV (gy (xs ++ xs') i)) true), .gen (rowE (Ax) gx_ kx cx 3 1 (iV (gx (xs ++ xs') i)) true), rD (A) g o n 4 (rvals xs), rD (A') g' o' n' 4 (rvals xs')] rfl rfl (by kernel_rfl) (by kernel_rfl) ?_
   refine cDn <| tNo <| cSq <| cSq <| cRg 2 rfl ?_
   have hel_ : (rget xs i) = rget (xs ++ xs') i := by rw [rget_append, if_pos (by omega)]
   refine cont_norm [(0, .slice A n cap), (1, .slice A' n' cap'), (2, iq how), (7, .slice Ax kx cx), (8, .slice Ay ky cy), (9, iq (i : Int)), (10, .pointer (pB b5))] [.cells b5 [iq ((rget (xs ++ xs') i).x0), iq ((rget (xs ++ xs') i).y0), iq ((rget (xs ++ xs') i).x1), iq ((rget (xs ++ xs') i).y1)] 32 true, .gen (rowE (Ay) gy_ ky cy 3 1 (iV (gy (xs ++ xs') i)) true), .gen (rowE (Ax) gx_ kx cx 3 1 (iV (gx (xs ++ xs') i)) true), rD (A) g o n 4 (rvals xs), rD (A') g' o' n' 4 (rvals xs')] (by kernel_rfl) (by rw [hel_]) ?_
   refine bS [0] 1 1 [(0, .slice A n cap), (1, .slice A' n' cap'), (2, iq how), (7, .slice Ax kx cx), (8, .slice Ay ky cy), (9, iq (i : Int)), (10, .pointer (pB b5)), (43, .agg #[iq ((rget (xs ++ xs') i).x0), iq ((rget (xs ++ xs') i).y0), iq ((rget (xs ++ xs') i).x1), iq ((rget (xs ++ xs') i).y1)])] ?_
   refine pSt 2 0 rfl rfl <| call_pure (d := 44) (.bool (emptyB ((rget (xs ++ xs') i).x0) ((rget (xs ++ xs') i).y0) ((rget (xs ++ xs') i).x1) ((rget (xs ++ xs') i).y1))) (by kernel_rfl) (fun w hT => refEmpty ((rget (xs ++ xs') i).x0) ((rget (xs ++ xs') i).y0) ((rget (xs ++ xs') i).x1) ((rget (xs ++ xs') i).y1) w) ?_
   refine cDn <| tNo ?_
   refine cSp 44 (emptyB ((rget (xs ++ xs') i).x0) ((rget (xs ++ xs') i).y0) ((rget (xs ++ xs') i).x1) ((rget (xs ++ xs') i).y1)) rfl (fun c7_ => ?_) (fun c7_ => ?_)
   ·
    have hem_ : emptyR (rget (xs ++ xs') i) = true := c7_
    refine cTr rfl <| cont_exit <| then_exit <| blk_exit <| tNo <| cRg 3 rfl <| bD [0, 0] 2 1 [(27, iq (IntKind.i64.wrap ((i : Int) + 1)))] [26] ?_
    refine cRc 27 (iq (IntKind.i64.wrap ((i : Int) + 1))) (iq ((i : Int) + 1)) rfl (wrapI (by omega) (by omega)) ?_
    refine cFg 0 rfl <| bD [0] 3 0 [(9, iq ((i : Int) + 1))] [] ?_
    refine cDn <| tNo <| cont_rowEq (k := .i64) 1 (gx (xs ++ xs') i) (gx (xs ++ xs') (i + 1)) rfl (gx_skip (by omega) hem_) ?_
    refine cont_rowEq (k := .i64) 0 (gy (xs ++ xs') i) (gy (xs ++ xs') (i + 1)) rfl (gy_skip (by omega) hem_) ?_
    refine cont_again (i + 1, kx, Ax, gx_, cx, ky, Ay, gy_, cy) (show (i + 1) ≤ n + n' from (by omega)) (show n + n' - (i + 1) < n + n' - i from by omega) (by kernel_rfl) (by kernel_rfl)
   have hem_ : emptyR (rget (xs ++ xs') i) = false := c7_
   refine cFa rfl <| cont_skip <| tNo <| cSq ?_
   refine cont_fact (F := (0 < kx → (Ax : Option Addr) = pB gx_) ∧ (gx (xs ++ xs') i).length = kx ∧ kx ≤ cx ∧ cx ≤ maxLen) (fun w hT => Row.facts (hT.ok 2 _ rfl)) (fun hr8_ => ?_)
   obtain ⟨hr8_a, hr8_l, hr8_c, hr8_m⟩ := hr8_
   unfold maxLen at hr8_m
   refine cont_fact (F := (0 < ky → (Ay : Option Addr) = pB gy_) ∧ (gy (xs ++ xs') i).length = ky ∧ ky ≤ cy ∧ cy ≤ maxLen) (fun w hT => Row.facts (hT.ok 1 _ rfl)) (fun hr9_ => ?_)
   obtain ⟨hr9_a, hr9_l, hr9_c, hr9_m⟩ := hr9_
   unfold maxLen at hr9_m
   refine drawn_enter 8 [2] rfl (by kernel_rfl) ?_
   refine tD 0 [2] [(0, 0), (1, 0), (4, 0), (2, 0), (5, 0)] 3 [5, 2, 4, 1, 0] [(45, .slice Ax kx cx), (47, iq ((rget (xs ++ xs') i).x0)), (50, iq ((rget (xs ++ xs') i).x1))] [46, 49] ?_
   refine dOn 3 2 rfl (by kernel_rfl) ?_
   refine call_gen (d := 48) (α := Option Addr × Nat × Nat × Nat) (fun x_ => .slice x_.1 x_.2.2.1 x_.2.2.2) (fun x_ => [.cells b5 [iq ((rget (xs ++ xs') i).x0), iq ((rget (xs ++ xs') i).y0), iq ((rget (xs ++ xs') i).x1), iq ((rget (xs ++ xs') i).y1)] 32 true, .gen (rowE (Ay) gy_ ky cy 3 1 (iV (gy (xs ++ xs') i)) true), .gen (rowE (x_.1) x_.2.1 x_.2.2.1 x_.2.2.2 3 1 (iV (addL' (gx (xs ++ xs') i) ((rget (xs ++ xs') i).x0))) true), rD (A) g o n 4 (rvals xs), rD (A') g' o' n' 4 (rvals xs')]) (fun x_ => True) (by kernel_rfl) (fun w hT => (refAdd Ax gx_ 0 kx cx (gx (xs ++ xs') i) ((rget (xs ++ xs') i).x0) w (hT.viewRo (.cons (i := 2) rfl Vw.rowRd .nil) rfl) (by assumption) (by omega)).mono fun e w' hh_ => by
     rcases hh_ with ⟨he_, hm_, hb_⟩ | ⟨hm_, A_, g_, k_, c_, he_, ht_⟩
     · exact ⟨(Ax, gx_, kx, cx), he_, trivial, hT.moved (i := 2) rfl (.inl ⟨rfl, rfl, rfl, rfl, by rw [addL', if_pos hm_], hb_⟩)⟩
     · exact ⟨(A_, g_, k_, c_), he_, trivial, hT.moved (i := 2) rfl (.inr ht_)⟩) ?_
   rintro ⟨A10, g10, k10, cp10⟩ -
   refine cN [.cells b5 [iq ((rget (xs ++ xs') i).x0), iq ((rget (xs ++ xs') i).y0), iq ((rget (xs ++ xs') i).x1), iq ((rget (xs ++ xs') i).y1)] 32 true, .gen (rowE (Ay) gy_ ky cy 3 1 (iV (gy (xs ++ xs') i)) true), .gen (rowE (A10) g10 k10 cp10 3 1 (iV (addL' (gx (xs ++ xs') i) ((rget (xs ++ xs') i).x0))) true), rD (A) g o n 4 (rvals xs), rD (A') g' o' n' 4 (rvals xs')] ?_
   refine cont_fact (F := (0 < k10 → (A10 : Option Addr) = pB g10) ∧ (addL' (gx (xs ++ xs') i) ((rget (xs ++ xs') i).x0)).length = k10 ∧ k10 ≤ cp10 ∧ cp10 ≤ maxLen) (fun w hT => Row.facts (hT.ok 2 _ rfl)) (fun hr11_ => ?_)
   obtain ⟨hr11_a, hr11_l, hr11_c, hr11_m⟩ := hr11_
   unfold maxLen at hr11_m
   have hrl10 := addL'_length (gx (xs ++ xs') i) ((rget (xs ++ xs') i).x0) (by assumption : Rise (gx (xs ++ xs') i))
   have hri10 := addL'_rise (by assumption : Rise (gx (xs ++ xs') i)) ((rget (xs ++ xs') i).x0)
   refine dNx 0 [2] (by kernel_rfl) ?_
   refine dOn 6 1 rfl (by kernel_rfl) ?_
   refine call_gen (d := 51) (α := Option Addr × Nat × Nat × Nat) (fun x_ => .slice x_.1 x_.2.2.1 x_.2.2.2) (fun x_ => [.cells b5 [iq ((rget (xs ++ xs') i).x0), iq ((rget (xs ++ xs') i).y0), iq ((rget (xs ++ xs') i).x1), iq ((rget (xs ++ xs') i).y1)] 32 true, .gen (rowE (Ay) gy_ ky cy 3 1 (iV (gy (xs ++ xs') i)) true), .gen (rowE (x_.1) x_.2.1 x_.2.2.1 x_.2.2.2 3 1 (iV (addL' (addL' (gx (xs ++ xs') i) ((rget (xs ++ xs') i).x0)) ((rget (xs ++ xs') i).x1))) true), rD (A) g o n 4 (rvals xs), rD (A') g' o' n' 4 (rvals xs')]) (fun x_ => True) (by kernel_rfl) (fun w hT => (refAdd A10 g10 0 k10 cp10 (addL' (gx (xs ++ xs') i) ((rget (xs ++ xs') i).x0)) ((rget (xs ++ xs') i).x1) w (hT.viewRo (.cons (i := 2) rfl Vw.rowRd .nil) rfl) (by assumption) (by omega)).mono fun e w' hh_ => by
     rcases hh_ with ⟨he_, hm_, hb_⟩ | ⟨hm_, A_, g_, k_, c_, he_, ht_⟩
     · exact ⟨(A10, g10, k10, cp10), he_, trivial, hT.moved (i := 2) rfl (.inl ⟨rfl, rfl, rfl, rfl, by rw [addL', if_pos hm_], hb_⟩)⟩
     · exact ⟨(A_, g_, k_, c_), he_, trivial, hT.moved (i := 2) rfl (.inr ht_)⟩) ?_
   rintro ⟨A12, g12, k12, cp12⟩ -
   refine cont_norm [(0, .slice A n cap), (1, .slice A' n' cap'), (2, iq how), (7, .slice Ax kx cx), (8, .slice Ay ky cy), (9, iq (i : Int)), (10, .pointer (pB b5)), (45, .slice Ax kx cx), (47, iq ((rget (xs ++ xs') i).x0)), (48, .slice A10 k10 cp10), (50, iq ((rget (xs ++ xs') i).x1)), (51, .slice A12 k12 cp12)] [.cells b5 [iq ((rget (xs ++ xs') i).x0), iq ((rget (xs ++ xs') i).y0), iq ((rget (xs ++ xs') i).x1), iq ((rget (xs ++ xs') i).y1)] 32 true, .gen (rowE (Ay) gy_ ky cy 3 1 (iV (gy (xs ++ xs') i)) true), .gen (rowE (A12) g12 k12 cp12 3 1 (iV (addL' (addL' (gx (xs ++ xs') i) ((rget (xs ++ xs') i).x0)) ((rget (xs ++ xs') i).x1))) true), rD (A) g o n 4 (rvals xs), rD (A') g' o' n' 4 (rvals xs')] (by kernel_rfl) rfl ?_
   refine cont_fact (F := (0 < k12 → (A12 : Option Addr) = pB g12) ∧ (addL' (addL' (gx (xs ++ xs') i) ((rget (xs ++ xs') i).x0)) ((rget (xs ++ xs') i).x1)).length = k12 ∧ k12 ≤ cp12 ∧ cp12 ≤ maxLen) (fun w hT => Row.facts (hT.ok 2 _ rfl)) (fun hr13_ => ?_)
   obtain ⟨hr13_a, hr13_l, hr13_c, hr13_m⟩ := hr13_
   unfold maxLen at hr13_m
   have hrl12 := addL'_length (addL' (gx (xs ++ xs') i) ((rget (xs ++ xs') i).x0)) ((rget (xs ++ xs') i).x1) (by assumption : Rise (addL' (gx (xs ++ xs') i) ((rget (xs ++ xs') i).x0)))
   have hri12 := addL'_rise (by assumption : Rise (addL' (gx (xs ++ xs') i) ((rget (xs ++ xs') i).x0))) ((rget (xs ++ xs') i).x1)
   refine dNx 0 [2] (by kernel_rfl) ?_
   refine tD 0 [2] [(7, 0)] 0 [7, 6, 3, 5, 2, 4, 1, 0] [(7, .slice A12 k12 cp12)] [] ?_
   refine drawn_done (by kernel_rfl) ?_
   refine tNo <| drawn_enter 8 [1] rfl (by kernel_rfl) ?_
   refine tD 0 [1] [(0, 0), (1, 0), (4, 0), (2, 0), (5, 0)] 3 [5, 2, 4, 1, 0] [(52, .slice Ay ky cy), (54, iq ((rget (xs ++ xs') i).y0)), (57, iq ((rget (xs ++ xs') i).y1))] [53, 56] ?_
   refine dOn 3 2 rfl (by kernel_rfl) ?_
   refine call_gen (d := 55) (α := Option Addr × Nat × Nat × Nat) (fun x_ => .slice x_.1 x_.2.2.1 x_.2.2.2) (fun x_ => [.cells b5 [iq ((rget (xs ++ xs') i).x0), iq ((rget (xs ++ xs') i).y0), iq ((rget (xs ++ xs') i).x1), iq ((rget (xs ++ xs') i).y1)] 32 true, .gen (rowE (x_.1) x_.2.1 x_.2.2.1 x_.2.2.2 3 1 (iV (addL' (gy (xs ++ xs') i) ((rget (xs ++ xs') i).y0))) true), .gen (rowE (A12) g12 k12 cp12 3 1 (iV (addL' (addL' (gx (xs ++ xs') i) ((rget (xs ++ xs') i).x0)) ((rget (xs ++ xs') i).x1))) true), rD (A) g o n 4 (rvals xs), rD (A') g' o' n' 4 (rvals xs')]) (fun x_ => True) (by kernel_rfl) (fun w hT => (refAdd Ay gy_ 0 ky cy (gy (xs ++ xs') i) ((rget (xs ++ xs') i).y0) w (hT.viewRo (.cons (i := 1) rfl Vw.rowRd .nil) rfl) (by assumption) (by omega)).mono fun e w' hh_ => by
     rcases hh_ with ⟨he_, hm_, hb_⟩ | ⟨hm_, A_, g_, k_, c_, he_, ht_⟩
     · exact ⟨(Ay, gy_, ky, cy), he_, trivial, hT.moved (i := 1) rfl (.inl ⟨rfl, rfl, rfl, rfl, by rw [addL', if_pos hm_], hb_⟩)⟩
     · exact ⟨(A_, g_, k_, c_), he_, trivial, hT.moved (i := 1) rfl (.inr ht_)⟩) ?_
   rintro ⟨A14, g14, k14, cp14⟩ -
   refine cont_norm [(0, .slice A n cap), (1, .slice A' n' cap'), (2, iq how), (7, .slice A12 k12 cp12), (8, .slice Ay ky cy), (9, iq (i : Int)), (52, .slice Ay ky cy), (54, iq ((rget (xs ++ xs') i).y0)), (55, .slice A14 k14 cp14), (57, iq ((rget (xs ++ xs') i).y1))] [.cells b5 [iq ((rget (xs ++ xs') i).x0), iq ((rget (xs ++ xs') i).y0), iq ((rget (xs ++ xs') i).x1), iq ((rget (xs ++ xs') i).y1)] 32 true, .gen (rowE (A14) g14 k14 cp14 3 1 (iV (addL' (gy (xs ++ xs') i) ((rget (xs ++ xs') i).y0))) true), .gen (rowE (A12) g12 k12 cp12 3 1 (iV (addL' (addL' (gx (xs ++ xs') i) ((rget (xs ++ xs') i).x0)) ((rget (xs ++ xs') i).x1))) true), rD (A) g o n 4 (rvals xs), rD (A') g' o' n' 4 (rvals xs')] (by kernel_rfl) rfl ?_
   refine cont_fact (F := (0 < k14 → (A14 : Option Addr) = pB g14) ∧ (addL' (gy (xs ++ xs') i) ((rget (xs ++ xs') i).y0)).length = k14 ∧ k14 ≤ cp14 ∧ cp14 ≤ maxLen) (fun w hT => Row.facts (hT.ok 1 _ rfl)) (fun hr15_ => ?_)
   obtain ⟨hr15_a, hr15_l, hr15_c, hr15_m⟩ := hr15_
   unfold maxLen at hr15_m
   have hrl14 := addL'_length (gy (xs ++ xs') i) ((rget (xs ++ xs') i).y0) (by assumption : Rise (gy (xs ++ xs') i))
   have hri14 := addL'_rise (by assumption : Rise (gy (xs ++ xs') i)) ((rget (xs ++ xs') i).y0)
   refine dNx 0 [1] (by kernel_rfl) ?_
   refine dOn 6 1 rfl (by kernel_rfl) ?_
   refine call_gen (d := 58) (α := Option Addr × Nat × Nat × Nat) (fun x_ => .slice x_.1 x_.2.2.1 x_.2.2.2) (fun x_ => [.cells b5 [iq ((rget (xs ++ xs') i).x0), iq ((rget (xs ++ xs') i).y0), iq ((rget (xs ++ xs') i).x1), iq ((rget (xs ++ xs') i).y1)] 32 true, .gen (rowE (x_.1) x_.2.1 x_.2.2.1 x_.2.2.2 3 1 (iV (addL' (addL' (gy (xs ++ xs') i) ((rget (xs ++ xs') i).y0)) ((rget (xs ++ xs') i).y1))) true), .gen (rowE (A12) g12 k12 cp12 3 1 (iV (addL' (addL' (gx (xs ++ xs') i) ((rget (xs ++ xs') i).x0)) ((rget (xs ++ xs') i).x1))) true), rD (A) g o n 4 (rvals xs), rD (A') g' o' n' 4 (rvals xs')]) (fun x_ => True) (by kernel_rfl) (fun w hT => (refAdd A14 g14 0 k14 cp14 (addL' (gy (xs ++ xs') i) ((rget (xs ++ xs') i).y0)) ((rget (xs ++ xs') i).y1) w (hT.viewRo (.cons (i := 1) rfl Vw.rowRd .nil) rfl) (by assumption) (by omega)).mono fun e w' hh_ => by
     rcases hh_ with ⟨he_, hm_, hb_⟩ | ⟨hm_, A_, g_, k_, c_, he_, ht_⟩
     · exact ⟨(A14, g14, k14, cp14), he_, trivial, hT.moved (i := 1) rfl (.inl ⟨rfl, rfl, rfl, rfl, by rw [addL', if_pos hm_], hb_⟩)⟩
     · exact ⟨(A_, g_, k_, c_), he_, trivial, hT.moved (i := 1) rfl (.inr ht_)⟩) ?_
   rintro ⟨A16, g16, k16, cp16⟩ -
   refine cN [.cells b5 [iq ((rget (xs ++ xs') i).x0), iq ((rget (xs ++ xs') i).y0), iq ((rget (xs ++ xs') i).x1), iq ((rget (xs ++ xs') i).y1)] 32 true, .gen (rowE (A16) g16 k16 cp16 3 1 (iV (addL' (addL' (gy (xs ++ xs') i) ((rget (xs ++ xs') i).y0)) ((rget (xs ++ xs') i).y1))) true), .gen (rowE (A12) g12 k12 cp12 3 1 (iV (addL' (addL' (gx (xs ++ xs') i) ((rget (xs ++ xs') i).x0)) ((rget (xs ++ xs') i).x1))) true), rD (A) g o n 4 (rvals xs), rD (A') g' o' n' 4 (rvals xs')] ?_
   refine cont_fact (F := (0 < k16 → (A16 : Option Addr) = pB g16) ∧ (addL' (addL' (gy (xs ++ xs') i) ((rget (xs ++ xs') i).y0)) ((rget (xs ++ xs') i).y1)).length = k16 ∧ k16 ≤ cp16 ∧ cp16 ≤ maxLen) (fun w hT => Row.facts (hT.ok 1 _ rfl)) (fun hr17_ => ?_)
   obtain ⟨hr17_a, hr17_l, hr17_c, hr17_m⟩ := hr17_
   unfold maxLen at hr17_m
   have hrl16 := addL'_length (addL' (gy (xs ++ xs') i) ((rget (xs ++ xs') i).y0)) ((rget (xs ++ xs') i).y1) (by assumption : Rise (addL' (gy (xs ++ xs') i) ((rget (xs ++ xs') i).y0)))
   have hri16 := addL'_rise (by assumption : Rise (addL' (gy (xs ++ xs') i) ((rget (xs ++ xs') i).y0))) ((rget (xs ++ xs') i).y1)
   refine dNx 0 [1] (by kernel_rfl) ?_
   refine tD 0 [1] [(7, 0)] 0 [7, 6, 3, 5, 2, 4, 1, 0] [(8, .slice A16 k16 cp16)] [] ?_
   refine drawn_done (by kernel_rfl) ?_
   refine blk_normal <| tNo <| cRg 3 rfl <| bS [0, 0] 2 1 [(0, .slice A n cap), (1, .slice A' n' cap'), (2, iq how), (7, .slice A12 k12 cp12), (8, .slice A16 k16 cp16), (27, iq (IntKind.i64.wrap ((i : Int) + 1)))] ?_
   refine cRc 27 (iq (IntKind.i64.wrap ((i : Int) + 1))) (iq ((i : Int) + 1)) rfl (wrapI (by omega) (by omega)) ?_
   refine cFg 0 rfl <| bD [0] 3 0 [(9, iq ((i : Int) + 1))] [] ?_
   refine cDn <| tNo <| cont_rowEq (k := .i64) 1 (addL' (addL' (gx (xs ++ xs') i) ((rget (xs ++ xs') i).x0)) ((rget (xs ++ xs') i).x1)) (gx (xs ++ xs') (i + 1)) rfl (gx_put (by omega) hem_) ?_
   refine cont_rowEq (k := .i64) 0 (addL' (addL' (gy (xs ++ xs') i) ((rget (xs ++ xs') i).y0)) ((rget (xs ++ xs') i).y1)) (gy (xs ++ xs') (i + 1)) rfl (gy_put (by omega) hem_) ?_
   refine cont_again (i + 1, k12, A12, g12, cp12, k16, A16, g16, cp16) (show (i + 1) ≤ n + n' from (by omega)) (show n + n' - (i + 1) < n + n' - i from by omega) (by kernel_rfl) (by kernel_rfl)
  replace c6_ := of_decide_eq_false c6_
  refine cFa rfl <| cRg 8 rfl <| bD [0, 0, 0, 0, 0] 5 3 [(36, .slice A' n' cap'), (40, iq (IntKind.i64.wrap ((i : Int) - (n : Int))))] [37, 38, 39] ?_
  refine cRc 40 (iq (IntKind.i64.wrap ((i : Int) - (n : Int)))) (iq ((i : Int) - (n : Int))) rfl (wrapI (by omega) (by omega)) ?_
  refine pSt 6 2 rfl rfl <| cRc 36 (.slice A' n' cap') (.slice (some ⟨g', o', none⟩) n' cap') rfl (by rw [hra' (by omega)]) ?_
  refine sem_step 41 (Instr.indexAt 23 (.slice (some ⟨g', o', none⟩) n' cap') (iq ((i : Int) - (n : Int)))) (.pointer (some ⟨g', o' + (Int.toNat ((i : Int) - (n : Int))) * 4, none⟩)) (by kernel_rfl) (fun w hT => run_indexAt (e := 32) (sz := 4) _ (by kernel_rfl) (by kernel_rfl) (by omega) (by omega) (by omega) w) ?_
  refine pSt 7 1 rfl rfl <| sem_step 42 (Instr.loadAt 32 (.pointer (some ⟨g', o' + (Int.toNat ((i : Int) - (n : Int))) * 4, none⟩))) (.agg #[iq ((rget xs' (Int.toNat ((i : Int) - (n : Int)))).x0), iq ((rget xs' (Int.toNat ((i : Int) - (n : Int)))).y0), iq ((rget xs' (Int.toNat ((i : Int) - (n : Int)))).x1), iq ((rget xs' (Int.toNat ((i : Int) - (n : Int)))).y1)]) (by kernel_rfl) (fun w hT => run_loadN (m := 4) (cs := rcells (rget xs' (Int.toNat ((i : Int) - (n : Int))))) (by kernel_rfl) (by kernel_rfl) rfl (Rd.rect (hT.ok 4 _ rfl) (by omega))) ?_
  refine batch0 [0] 8 0 [(0, .slice A n cap), (1, .slice A' n' cap'), (2, iq how), (7, .slice Ax kx cx), (8, .slice Ay ky cy), (9, iq (i : Int)), (10, .pointer (pB b5))] [.cells b5 [iq ((rget xs' (Int.toNat ((i : Int) - (n : Int)))).x0), iq ((rget xs' (Int.toNat ((i : Int) - (n : Int)))).y0), iq ((rget xs' (Int.toNat ((i : Int) - (n : Int)))).x1), iq ((rget xs' (Int.toNat ((i : Int) - (n : Int)))).y1)] 32 true, .gen (rowE (Ay) gy_ ky cy 3 1 (iV (gy (xs ++ xs') i)) true), .gen (rowE (Ax) gx_ kx cx 3 1 (iV (gx (xs ++ xs') i)) true), rD (A) g o n 4 (rvals xs), rD (A') g' o' n' 4 (rvals xs')] rfl rfl (by kernel_rfl) (by kernel_rfl) ?_
  refine cDn <| tNo <| cSq <| cSq <| cRg 2 rfl ?_
  have hel_ : (rget xs' (Int.toNat ((i : Int) - (n : Int)))) = rget (xs ++ xs') i := by rw [rget_append, if_neg (by omega)]; congr 1; omega
  refine cont_norm [(0, .slice A n cap), (1, .slice A' n' cap'), (2, iq how), (7, .slice Ax kx cx), (8, .slice Ay ky cy), (9, iq (i : Int)), (10, .pointer (pB b5))] [.cells b5 [iq ((rget (xs ++ xs') i).x0), iq ((rget (xs ++ xs') i).y0), iq ((rget (xs ++ xs') i).x1), iq ((rget (xs ++ xs') i).y1)] 32 true, .gen (rowE (Ay) gy_ ky cy 3 1 (iV (gy (xs ++ xs') i)) true), .gen (rowE (Ax) gx_ kx cx 3 1 (iV (gx (xs ++ xs') i)) true), rD (A) g o n 4 (rvals xs), rD (A') g' o' n' 4 (rvals xs')] (by kernel_rfl) (by rw [hel_]) ?_
  refine bS [0] 1 1 [(0, .slice A n cap), (1, .slice A' n' cap'), (2, iq how), (7, .slice Ax kx cx), (8, .slice Ay ky cy), (9, iq (i : Int)), (10, .pointer (pB b5)), (43, .agg #[iq ((rget (xs ++ xs') i).x0), iq ((rget (xs ++ xs') i).y0), iq ((rget (xs ++ xs') i).x1), iq ((rget (xs ++ xs') i).y1)])] ?_
  refine pSt 2 0 rfl rfl <| call_pure (d := 44) (.bool (emptyB ((rget (xs ++ xs') i).x0) ((rget (xs ++ xs') i).y0) ((rget (xs ++ xs') i).x1) ((rget (xs ++ xs') i).y1))) (by kernel_rfl) (fun w hT => refEmpty ((rget (xs ++ xs') i).x0) ((rget (xs ++ xs') i).y0) ((rget (xs ++ xs') i).x1) ((rget (xs ++ xs') i).y1) w) ?_
  refine cDn <| tNo ?_
  refine cSp 44 (emptyB ((rget (xs ++ xs') i).x0) ((rget (xs ++ xs') i).y0) ((rget (xs ++ xs') i).x1) ((rget (xs ++ xs') i).y1)) rfl (fun c18_ => ?_) (fun c18_ => ?_)
  ·
   have hem_ : emptyR (rget (xs ++ xs') i) = true := c18_
   refine cTr rfl <| cont_exit <| then_exit <| blk_exit <| tNo <| cRg 3 rfl <| bD [0, 0] 2 1 [(27, iq (IntKind.i64.wrap ((i : Int) + 1)))] [26] ?_
   refine cRc 27 (iq (IntKind.i64.wrap ((i : Int) + 1))) (iq ((i : Int) + 1)) rfl (wrapI (by omega) (by omega)) ?_
   refine cFg 0 rfl <| bD [0] 3 0 [(9, iq ((i : Int) + 1))] [] ?_
   refine cDn <| tNo <| cont_rowEq (k := .i64) 1 (gx (xs ++ xs') i) (gx (xs ++ xs') (i + 1)) rfl (gx_skip (by omega) hem_) ?_
   refine cont_rowEq (k := .i64) 0 (gy (xs ++ xs') i) (gy (xs ++ xs') (i + 1)) rfl (gy_skip (by omega) hem_) ?_
   refine cont_again (i + 1, kx, Ax, gx_, cx, ky, Ay, gy_, cy) (show (i + 1) ≤ n + n' from (by omega)) (show n + n' - (i + 1) < n + n' - i from by omega) (by kernel_rfl) (by kernel_rfl)
  have hem_ : emptyR (rget (xs ++ xs') i) = false := c18_
  refine cFa rfl <| cont_skip <| tNo <| cSq ?_
  refine cont_fact (F := (0 < kx → (Ax : Option Addr) = pB gx_) ∧ (gx (xs ++ xs') i).length = kx ∧ kx ≤ cx ∧ cx ≤ maxLen) (fun w hT => Row.facts (hT.ok 2 _ rfl)) (fun hr19_ => ?_)
  obtain ⟨hr19_a, hr19_l, hr19_c, hr19_m⟩ := hr19_
  unfold maxLen at hr19_m
  refine cont_fact (F := (0 < ky → (Ay : Option Addr) = pB gy_) ∧ (gy (xs ++ xs') i).length = ky ∧ ky ≤ cy ∧ cy ≤ maxLen) (fun w hT => Row.facts (hT.ok 1 _ rfl)) (fun hr20_ => ?_)
  obtain ⟨hr20_a, hr20_l, hr20_c, hr20_m⟩ := hr20_
  unfold maxLen at hr20_m
  refine drawn_enter 8 [2] rfl (by kernel_rfl) ?_
  refine tD 0 [2] [(0, 0), (1, 0), (4, 0), (2, 0), (5, 0)] 3 [5, 2, 4, 1, 0] [(45, .slice Ax kx cx), (47, iq ((rget (xs ++ xs') i).x0)), (50, iq ((rget (xs ++ xs') i).x1))] [46, 49] ?_
  refine dOn 3 2 rfl (by kernel_rfl) ?_
  refine call_gen (d := 48) (α := Option Addr × Nat × Nat × Nat) (fun x_ => .slice x_.1 x_.2.2.1 x_.2.2.2) (fun x_ => [.cells b5 [iq ((rget (xs ++ xs') i).x0), iq ((rget (xs ++ xs') i).y0), iq ((rget (xs ++ xs') i).x1), iq ((rget (xs ++ xs') i).y1)] 32 true, .gen (rowE (Ay) gy_ ky cy 3 1 (iV (gy (xs ++ xs') i)) true), .gen (rowE (x_.1) x_.2.1 x_.2.2.1 x_.2.2.2 3 1 (iV (addL' (gx (xs ++ xs') i) ((rget (xs ++ xs') i).x0))) true), rD (A) g o n 4 (rvals xs), rD (A') g' o' n' 4 (rvals xs')]) (fun x_ => True) (by kernel_rfl) (fun w hT => (refAdd Ax gx_ 0 kx cx (gx (xs ++ xs') i) ((rget (xs ++ xs') i).x0) w (hT.viewRo (.cons (i := 2) rfl Vw.rowRd .nil) rfl) (by assumption) (by omega)).mono fun e w' hh_ => by
    rcases hh_ with ⟨he_, hm_, hb_⟩ | ⟨hm_, A_, g_, k_, c_, he_, ht_⟩
    · exact ⟨(Ax, gx_, kx, cx), he_, trivial, hT.moved (i := 2) rfl (.inl ⟨rfl, rfl, rfl, rfl, by rw [addL', if_pos hm_], hb_⟩)⟩
    · exact ⟨(A_, g_, k_, c_), he_, trivial, hT.moved (i := 2) rfl (.inr ht_)⟩) ?_
  rintro ⟨A21, g21, k21, cp21⟩ -
  refine cN [.cells b5 [iq ((rget (xs ++ xs') i).x0), iq ((rget (xs ++ xs') i).y0), iq ((rget (xs ++ xs') i).x1), iq ((rget (xs ++ xs') i).y1)] 32 true, .gen (rowE (Ay) gy_ ky cy 3 1 (iV (gy (xs ++ xs') i)) true), .gen (rowE (A21) g21 k21 cp21 3 1 (iV (addL' (gx (xs ++ xs') i) ((rget (xs ++ xs') i).x0))) true), rD (A) g o n 4 (rvals xs), rD (A') g' o' n' 4 (rvals xs')] ?_
  refine cont_fact (F := (0 < k21 → (A21 : Option Addr) = pB g21) ∧ (addL' (gx (xs ++ xs') i) ((rget (xs ++ xs') i).x0)).length = k21 ∧ k21 ≤ cp21 ∧ cp21 ≤ maxLen) (fun w hT => Row.facts (hT.ok 2 _ rfl)) (fun hr22_ => ?_)
  obtain ⟨hr22_a, hr22_l, hr22_c, hr22_m⟩ := hr22_
  unfold maxLen at hr22_m
  have hrl21 := addL'_length (gx (xs ++ xs') i) ((rget (xs ++ xs') i).x0) (by assumption : Rise (gx (xs ++ xs') i))
  have hri21 := addL'_rise (by assumption : Rise (gx (xs ++ xs') i)) ((rget (xs ++ xs') i).x0)
  refine dNx 0 [2] (by kernel_rfl) ?_
  refine dOn 6 1 rfl (by kernel_rfl) ?_
  refine call_gen (d := 51) (α := Option Addr × Nat × Nat × Nat) (fun x_ => .slice x_.1 x_.2.2.1 x_.2.2.2) (fun x_ => [.cells b5 [iq ((rget (xs ++ xs') i).x0), iq ((rget (xs ++ xs') i).y0), iq ((rget (xs ++ xs') i).x1), iq ((rget (xs ++ xs') i).y1)] 32 true, .gen (rowE (Ay) gy_ ky cy 3 1 (iV (gy (xs ++ xs') i)) true), .gen (rowE (x_.1) x_.2.1 x_.2.2.1 x_.2.2.2 3 1 (iV (addL' (addL' (gx (xs ++ xs') i) ((rget (xs ++ xs') i).x0)) ((rget (xs ++ xs') i).x1))) true), rD (A) g o n 4 (rvals xs), rD (A') g' o' n' 4 (rvals xs')]) (fun x_ => True) (by kernel_rfl) (fun w hT => (refAdd A21 g21 0 k21 cp21 (addL' (gx (xs ++ xs') i) ((rget (xs ++ xs') i).x0)) ((rget (xs ++ xs') i).x1) w (hT.viewRo (.cons (i := 2) rfl Vw.rowRd .nil) rfl) (by assumption) (by omega)).mono fun e w' hh_ => by
    rcases hh_ with ⟨he_, hm_, hb_⟩ | ⟨hm_, A_, g_, k_, c_, he_, ht_⟩
    · exact ⟨(A21, g21, k21, cp21), he_, trivial, hT.moved (i := 2) rfl (.inl ⟨rfl, rfl, rfl, rfl, by rw [addL', if_pos hm_], hb_⟩)⟩
    · exact ⟨(A_, g_, k_, c_), he_, trivial, hT.moved (i := 2) rfl (.inr ht_)⟩) ?_
  rintro ⟨A23, g23, k23, cp23⟩ -
  refine cont_norm [(0, .slice A n cap), (1, .slice A' n' cap'), (2, iq how), (7, .slice Ax kx cx), (8, .slice Ay ky cy), (9, iq (i : Int)), (10, .pointer (pB b5)), (45, .slice Ax kx cx), (47, iq ((rget (xs ++ xs') i).x0)), (48, .slice A21 k21 cp21), (50, iq ((rget (xs ++ xs') i).x1)), (51, .slice A23 k23 cp23)] [.cells b5 [iq ((rget (xs ++ xs') i).x0), iq ((rget (xs ++ xs') i).y0), iq ((rget (xs ++ xs') i).x1), iq ((rget (xs ++ xs') i).y1)] 32 true, .gen (rowE (Ay) gy_ ky cy 3 1 (iV (gy (xs ++ xs') i)) true), .gen (rowE (A23) g23 k23 cp23 3 1 (iV (addL' (addL' (gx (xs ++ xs') i) ((rget (xs ++ xs') i).x0)) ((rget (xs ++ xs') i).x1))) true), rD (A) g o n 4 (rvals xs), rD (A') g' o' n' 4 (rvals xs')] (by kernel_rfl) rfl ?_
  refine cont_fact (F := (0 < k23 → (A23 : Option Addr) = pB g23) ∧ (addL' (addL' (gx (xs ++ xs') i) ((rget (xs ++ xs') i).x0)) ((rget (xs ++ xs') i).x1)).length = k23 ∧ k23 ≤ cp23 ∧ cp23 ≤ maxLen) (fun w hT => Row.facts (hT.ok 2 _ rfl)) (fun hr24_ => ?_)
  obtain ⟨hr24_a, hr24_l, hr24_c, hr24_m⟩ := hr24_
  unfold maxLen at hr24_m
  have hrl23 := addL'_length (addL' (gx (xs ++ xs') i) ((rget (xs ++ xs') i).x0)) ((rget (xs ++ xs') i).x1) (by assumption : Rise (addL' (gx (xs ++ xs') i) ((rget (xs ++ xs') i).x0)))
  have hri23 := addL'_rise (by assumption : Rise (addL' (gx (xs ++ xs') i) ((rget (xs ++ xs') i).x0))) ((rget (xs ++ xs') i).x1)
  refine dNx 0 [2] (by kernel_rfl) ?_
  refine tD 0 [2] [(7, 0)] 0 [7, 6, 3, 5, 2, 4, 1, 0] [(7, .slice A23 k23 cp23)] [] ?_
  refine drawn_done (by kernel_rfl) ?_
  refine tNo <| drawn_enter 8 [1] rfl (by kernel_rfl) ?_
  refine tD 0 [1] [(0, 0), (1, 0), (4, 0), (2, 0), (5, 0)] 3 [5, 2, 4, 1, 0] [(52, .slice Ay ky cy), (54, iq ((rget (xs ++ xs') i).y0)), (57, iq ((rget (xs ++ xs') i).y1))] [53, 56] ?_
  refine dOn 3 2 rfl (by kernel_rfl) ?_
  refine call_gen (d := 55) (α := Option Addr × Nat × Nat × Nat) (fun x_ => .slice x_.1 x_.2.2.1 x_.2.2.2) (fun x_ => [.cells b5 [iq ((rget (xs ++ xs') i).x0), iq ((rget (xs ++ xs') i).y0), iq ((rget (xs ++ xs') i).x1), iq ((rget (xs ++ xs') i).y1)] 32 true, .gen (rowE (x_.1) x_.2.1 x_.2.2.1 x_.2.2.2 3 1 (iV (addL' (gy (xs ++ xs') i) ((rget (xs ++ xs') i).y0))) true), .gen (rowE (A23) g23 k23 cp23 3 1 (iV (addL' (addL' (gx (xs ++ xs') i) ((rget (xs ++ xs') i).x0)) ((rget (xs ++ xs') i).x1))) true), rD (A) g o n 4 (rvals xs), rD (A') g' o' n' 4 (rvals xs')]) (fun x_ => True) (by kernel_rfl) (fun w hT => (refAdd Ay gy_ 0 ky cy (gy (xs ++ xs') i) ((rget (xs ++ xs') i).y0) w (hT.viewRo (.cons (i := 1) rfl Vw.rowRd .nil) rfl) (by assumption) (by omega)).mono fun e w' hh_ => by
    rcases hh_ with ⟨he_, hm_, hb_⟩ | ⟨hm_, A_, g_, k_, c_, he_, ht_⟩
    · exact ⟨(Ay, gy_, ky, cy), he_, trivial, hT.moved (i := 1) rfl (.inl ⟨rfl, rfl, rfl, rfl, by rw [addL', if_pos hm_], hb_⟩)⟩
    · exact ⟨(A_, g_, k_, c_), he_, trivial, hT.moved (i := 1) rfl (.inr ht_)⟩) ?_
  rintro ⟨A25, g25, k25, cp25⟩ -
  refine cont_norm [(0, .slice A n cap), (1, .slice A' n' cap'), (2, iq how), (7, .slice A23 k23 cp23), (8, .slice Ay ky cy), (9, iq (i : Int)), (52, .slice Ay ky cy), (54, iq ((rget (xs ++ xs') i).y0)), (55, .slice A25 k25 cp25), (57, iq ((rget (xs ++ xs') i).y1))] [.cells b5 [iq ((rget (xs ++ xs') i).x0), iq ((rget (xs ++ xs') i).y0), iq ((rget (xs ++ xs') i).x1), iq ((rget (xs ++ xs') i).y1)] 32 true, .gen (rowE (A25) g25 k25 cp25 3 1 (iV (addL' (gy (xs ++ xs') i) ((rget (xs ++ xs') i).y0))) true), .gen (rowE (A23) g23 k23 cp23 3 1 (iV (addL' (addL' (gx (xs ++ xs') i) ((rget (xs ++ xs') i).x0)) ((rget (xs ++ xs') i).x1))) true), rD (A) g o n 4 (rvals xs), rD (A') g' o' n' 4 (rvals xs')] (by kernel_rfl) rfl ?_
  refine cont_fact (F := (0 < k25 → (A25 : Option Addr) = pB g25) ∧ (addL' (gy (xs ++ xs') i) ((rget (xs ++ xs') i).y0)).length = k25 ∧ k25 ≤ cp25 ∧ cp25 ≤ maxLen) (fun w hT => Row.facts (hT.ok 1 _ rfl)) (fun hr26_ => ?_)
  obtain ⟨hr26_a, hr26_l, hr26_c, hr26_m⟩ := hr26_
  unfold maxLen at hr26_m
  have hrl25 := addL'_length (gy (xs ++ xs') i) ((rget (xs ++ xs') i).y0) (by assumption : Rise (gy (xs ++ xs') i))
  have hri25 := addL'_rise (by assumption : Rise (gy (xs ++ xs') i)) ((rget (xs ++ xs') i).y0)
  refine dNx 0 [1] (by kernel_rfl) ?_
  refine dOn 6 1 rfl (by kernel_rfl) ?_
  refine call_gen (d := 58) (α := Option Addr × Nat × Nat × Nat) (fun x_ => .slice x_.1 x_.2.2.1 x_.2.2.2) (fun x_ => [.cells b5 [iq ((rget (xs ++ xs') i).x0), iq ((rget (xs ++ xs') i).y0), iq ((rget (xs ++ xs') i).x1), iq ((rget (xs ++ xs') i).y1)] 32 true, .gen (rowE (x_.1) x_.2.1 x_.2.2.1 x_.2.2.2 3 1 (iV (addL' (addL' (gy (xs ++ xs') i) ((rget (xs ++ xs') i).y0)) ((rget (xs ++ xs') i).y1))) true), .gen (rowE (A23) g23 k23 cp23 3 1 (iV (addL' (addL' (gx (xs ++ xs') i) ((rget (xs ++ xs') i).x0)) ((rget (xs ++ xs') i).x1))) true), rD (A) g o n 4 (rvals xs), rD (A') g' o' n' 4 (rvals xs')]) (fun x_ => True) (by kernel_rfl) (fun w hT => (refAdd A25 g25 0 k25 cp25 (addL' (gy (xs ++ xs') i) ((rget (xs ++ xs') i).y0)) ((rget (xs ++ xs') i).y1) w (hT.viewRo (.cons (i := 1) rfl Vw.rowRd .nil) rfl) (by assumption) (by omega)).mono fun e w' hh_ => by
    rcases hh_ with ⟨he_, hm_, hb_⟩ | ⟨hm_, A_, g_, k_, c_, he_, ht_⟩
    · exact ⟨(A25, g25, k25, cp25), he_, trivial, hT.moved (i := 1) rfl (.inl ⟨rfl, rfl, rfl, rfl, by rw [addL', if_pos hm_], hb_⟩)⟩
    · exact ⟨(A_, g_, k_, c_), he_, trivial, hT.moved (i := 1) rfl (.inr ht_)⟩) ?_
  rintro ⟨A27, g27, k27, cp27⟩ -
  refine cN [.cells b5 [iq ((rget (xs ++ xs') i).x0), iq ((rget (xs ++ xs') i).y0), iq ((rget (xs ++ xs') i).x1), iq ((rget (xs ++ xs') i).y1)] 32 true, .gen (rowE (A27) g27 k27 cp27 3 1 (iV (addL' (addL' (gy (xs ++ xs') i) ((rget (xs ++ xs') i).y0)) ((rget (xs ++ xs') i).y1))) true), .gen (rowE (A23) g23 k23 cp23 3 1 (iV (addL' (addL' (gx (xs ++ xs') i) ((rget (xs ++ xs') i).x0)) ((rget (xs ++ xs') i).x1))) true), rD (A) g o n 4 (rvals xs), rD (A') g' o' n' 4 (rvals xs')] ?_
  refine cont_fact (F := (0 < k27 → (A27 : Option Addr) = pB g27) ∧ (addL' (addL' (gy (xs ++ xs') i) ((rget (xs ++ xs') i).y0)) ((rget (xs ++ xs') i).y1)).length = k27 ∧ k27 ≤ cp27 ∧ cp27 ≤ maxLen) (fun w hT => Row.facts (hT.ok 1 _ rfl)) (fun hr28_ => ?_)
  obtain ⟨hr28_a, hr28_l, hr28_c, hr28_m⟩ := hr28_
  unfold maxLen at hr28_m
  have hrl27 := addL'_length (addL' (gy (xs ++ xs') i) ((rget (xs ++ xs') i).y0)) ((rget (xs ++ xs') i).y1) (by assumption : Rise (addL' (gy (xs ++ xs') i) ((rget (xs ++ xs') i).y0)))
  have hri27 := addL'_rise (by assumption : Rise (addL' (gy (xs ++ xs') i) ((rget (xs ++ xs') i).y0))) ((rget (xs ++ xs') i).y1)
  refine dNx 0 [1] (by kernel_rfl) ?_
  refine tD 0 [1] [(7, 0)] 0 [7, 6, 3, 5, 2, 4, 1, 0] [(8, .slice A27 k27 cp27)] [] ?_
  refine drawn_done (by kernel_rfl) ?_
  refine blk_normal <| tNo <| cRg 3 rfl <| bS [0, 0] 2 1 [(0, .slice A n cap), (1, .slice A' n' cap'), (2, iq how), (7, .slice A23 k23 cp23), (8, .slice A27 k27 cp27), (27, iq (IntKind.i64.wrap ((i : Int) + 1)))] ?_
  refine cRc 27 (iq (IntKind.i64.wrap ((i : Int) + 1))) (iq ((i : Int) + 1)) rfl (wrapI (by omega) (by omega)) ?_
  refine cFg 0 rfl <| bD [0] 3 0 [(9, iq ((i : Int) + 1))] [] ?_
  refine cDn <| tNo <| cont_rowEq (k := .i64) 1 (addL' (addL' (gx (xs ++ xs') i) ((rget (xs ++ xs') i).x0)) ((rget (xs ++ xs') i).x1)) (gx (xs ++ xs') (i + 1)) rfl (gx_put (by omega) hem_) ?_
  refine cont_rowEq (k := .i64) 0 (addL' (addL' (gy (xs ++ xs') i) ((rget (xs ++ xs') i).y0)) ((rget (xs ++ xs') i).y1)) (gy (xs ++ xs') (i + 1)) rfl (gy_put (by omega) hem_) ?_
  refine cont_again (i + 1, k23, A23, g23, cp23, k27, A27, g27, cp27) (show (i + 1) ≤ n + n' from (by omega)) (show n + n' - (i + 1) < n + n' - i from by omega) (by kernel_rfl) (by kernel_rfl)
 replace c4_ := of_decide_eq_false c4_
 refine cFa rfl <| cont_exit <| then_exit <| then_exit <| blk_exit <| tNo <| cSq <| cRg 1 rfl ?_
 have hin : i = n + n' := by omega
 obtain ⟨XS, hXS⟩ : ∃ y_ : List Int, y_ = (gx (xs ++ xs') i) := ⟨_, rfl⟩
 refine cont_rowEq (k := .i64) 1 (gx (xs ++ xs') i) (XS) rfl hXS.symm ?_
 obtain ⟨YS, hYS⟩ : ∃ y_ : List Int, y_ = (gy (xs ++ xs') i) := ⟨_, rfl⟩
 refine cont_rowEq (k := .i64) 0 (gy (xs ++ xs') i) (YS) rfl hYS.symm ?_
 refine cont_fact (F := (0 < kx → (Ax : Option Addr) = pB gx_) ∧ XS.length = kx ∧ kx ≤ cx ∧ cx ≤ maxLen) (fun w hT => Row.facts (hT.ok 1 _ rfl)) (fun hr29_ => ?_)
 obtain ⟨hr29_a, hr29_l, hr29_c, hr29_m⟩ := hr29_
 unfold maxLen at hr29_m
 refine cont_fact (F := (0 < ky → (Ay : Option Addr) = pB gy_) ∧ YS.length = ky ∧ ky ≤ cy ∧ cy ≤ maxLen) (fun w hT => Row.facts (hT.ok 0 _ rfl)) (fun hr30_ => ?_)
 obtain ⟨hr30_a, hr30_l, hr30_c, hr30_m⟩ := hr30_
 unfold maxLen at hr30_m
 have hX : XS = gx (xs ++ xs') (xs ++ xs').length := by rw [hXS, hin, show (xs ++ xs').length = n + n' by rw [List.length_append]; omega]
 have hY : YS = gy (xs ++ xs') (xs ++ xs').length := by rw [hYS, hin, show (xs ++ xs').length = n + n' by rw [List.length_append]; omega]
 have hbX : XS.length ≤ 2 * (n + n') := by rw [hXS, ← hin]; exact gx_length _ _
 have hbY : YS.length ≤ 2 * (n + n') := by rw [hYS, ← hin]; exact gy_length _ _
 clear hlx hly hrx hry
 clear hab
 refine bD [0] 1 0 [(11, .slice none 0 0)] [] ?_
 refine cDn <| tNo <| cSq <| cRg 1 rfl <| bD [0] 1 0 [(12, .slice none 0 0)] [] ?_
 refine cDn <| tNo <| cSq <| cSq <| cRg 1 rfl <| bS [0] 1 0 [(0, .slice A n cap), (1, .slice A' n' cap'), (2, iq how), (7, .slice Ax kx cx), (8, .slice Ay ky cy), (11, .slice none 0 0), (12, .slice none 0 0), (13, iq 0)] ?_
 refine cDn <| tNo <| cont_block <| cont_nilrow 32 4 ?_
 refine cN [.gen (rowE (none) 0 0 0 32 4 (rvals []) true), .gen (rowE (Ay) gy_ ky cy 3 1 (iV YS) true), .gen (rowE (Ax) gx_ kx cx 3 1 (iV XS) true), rD (A) g o n 4 (rvals xs), rD (A') g' o' n' 4 (rvals xs')] ?_
 refine cont_nilrow 32 4 ?_
 refine cN [.gen (rowE (none) 0 0 0 32 4 (rvals []) true), .gen (rowE (none) 0 0 0 32 4 (rvals []) true), .gen (rowE (Ay) gy_ ky cy 3 1 (iV YS) true), .gen (rowE (Ax) gx_ kx cx 3 1 (iV XS) true), rD (A) g o n 4 (rvals xs), rD (A') g' o' n' 4 (rvals xs')] ?_
 refine cont_rowEqR 0 ([]) ((mgG touchL (ownD how xs xs' XS) YS 0).1) rfl rfl ?_
 refine cont_rowEqR 1 ([]) ((mgG touchL (ownD how xs xs' XS) YS 0).2) rfl rfl ?_
 refine cont_loop (α := Nat × Nat × Option Addr × Nat × Nat × Nat × Option Addr × Nat × Nat) (fun x_ : Nat × Nat × Option Addr × Nat × Nat × Nat × Option Addr × Nat × Nat => x_.1 ≤ YS.length - 1) (fun x_ : Nat × Nat × Option Addr × Nat × Nat × Nat × Option Addr × Nat × Nat => [(0, .slice A n cap), (1, .slice A' n' cap'), (2, iq how), (7, .slice Ax kx cx), (8, .slice Ay ky cy), (11, .slice x_.2.2.1 x_.2.1 x_.2.2.2.2.1), (12, .slice x_.2.2.2.2.2.2.1 x_.2.2.2.2.2.1 x_.2.2.2.2.2.2.2.2), (13, iq (x_.1 : Int))]) (fun x_ : Nat × Nat × Option Addr × Nat × Nat × Nat × Option Addr × Nat × Nat => [.gen (rowE (x_.2.2.1) x_.2.2.2.1 x_.2.1 x_.2.2.2.2.1 32 4 (rvals ((mgG touchL (ownD how xs xs' XS) YS x_.1).1)) true), .gen (rowE (x_.2.2.2.2.2.2.1) x_.2.2.2.2.2.2.2.1 x_.2.2.2.2.2.1 x_.2.2.2.2.2.2.2.2 32 4 (rvals ((mgG touchL (ownD how xs xs' XS) YS x_.1).2)) true), .gen (rowE (Ay) gy_ ky cy 3 1 (iV YS) true), .gen (rowE (Ax) gx_ kx cx 3 1 (iV XS) true), rD (A) g o n 4 (rvals xs), rD (A') g' o' n' 4 (rvals xs')]) (fun x_ : Nat × Nat × Option Addr × Nat × Nat × Nat × Option Addr × Nat × Nat => YS.length - 1 - x_.1) (0, 0, none, 0, 0, 0, none, 0, 0) (show (0) ≤ YS.length - 1 from (by omega)) (by kernel_rfl) (by kernel_rfl) ?_
 rintro ⟨i, kq, Aq, gq, cq, kr, Ar, gr, cr⟩ hinv33_
 replace hinv33_ : i ≤ YS.length - 1 := hinv33_
 refine cN [.gen (rowE (Aq) gq kq cq 32 4 (rvals ((mgG touchL (ownD how xs xs' XS) YS i).1)) true), .gen (rowE (Ar) gr kr cr 32 4 (rvals ((mgG touchL (ownD how xs xs' XS) YS i).2)) true), .gen (rowE (Ay) gy_ ky cy 3 1 (iV YS) true), .gen (rowE (Ax) gx_ kx cx 3 1 (iV XS) true), rD (A) g o n 4 (rvals xs), rD (A') g' o' n' 4 (rvals xs')] ?_
 have hi := hinv33_
 have hmb := mgG_bound (al := touchL) (own := (ownD how xs xs' XS)) (ys := YS) (m := XS.length) (i := i) (fun a b => ownD_length how xs xs' XS a b) (by omega) (by omega)
 refine cSq <| cSq <| cRg 5 rfl <| bD [0, 0] 2 3 [(60, iq (IntKind.i64.wrap ((i : Int) + 1)))] [59] ?_
 refine cRc 60 (iq (IntKind.i64.wrap ((i : Int) + 1))) (iq ((i + 1 : Nat) : Int)) rfl (by rw [show (((i + 1 : Nat) : Int)) = (i : Int) + 1 by omega]; exact wrapI (by omega) (by omega)) ?_
 refine bS [0, 0, 0] 5 0 [(0, .slice A n cap), (1, .slice A' n' cap'), (2, iq how), (7, .slice Ax kx cx), (8, .slice Ay ky cy), (11, .slice Aq kq cq), (12, .slice Ar kr cr), (13, iq (i : Int)), (63, .bool (decide (((i + 1 : Nat) : Int) < (ky : Int))))] ?_
 refine cDn <| tNo ?_
 refine cSp 63 (decide (((i + 1 : Nat) : Int) < (ky : Int))) rfl (fun c34_ => ?_) (fun c34_ => ?_)
 ·
  replace c34_ := of_decide_eq_true c34_
  refine cTr rfl <| cont_skip <| tNo <| cSq <| cont_block <| cSq <| cRg 1 rfl ?_
  refine cont_fact (F := (0 < kq → (Aq : Option Addr) = pB gq) ∧ ((mgG touchL (ownD how xs xs' XS) YS i).1).length = kq ∧ kq ≤ cq ∧ cq ≤ maxLen) (fun w hT => Row.factsR (hT.ok 0 _ rfl)) (fun hr35_ => ?_)
  obtain ⟨hr35_a, hr35_l, hr35_c, hr35_m⟩ := hr35_
  unfold maxLen at hr35_m
  refine cont_fact (F := (0 < kr → (Ar : Option Addr) = pB gr) ∧ ((mgG touchL (ownD how xs xs' XS) YS i).2).length = kr ∧ kr ≤ cr ∧ cr ≤ maxLen) (fun w hT => Row.factsR (hT.ok 1 _ rfl)) (fun hr36_ => ?_)
  obtain ⟨hr36_a, hr36_l, hr36_c, hr36_m⟩ := hr36_
  unfold maxLen at hr36_m
  refine bD [0] 1 0 [(14, .slice none 0 0)] [] ?_
  refine cDn <| tNo <| cSq <| cSq <| cRg 1 rfl <| bD [0] 1 0 [(15, iq 0)] [] ?_
  refine cDn <| tNo <| cont_block <| cont_nilrow 32 4 ?_
  refine cont_norm [(0, .slice A n cap), (1, .slice A' n' cap'), (2, iq how), (7, .slice Ax kx cx), (8, .slice Ay ky cy), (11, .slice Aq kq cq), (12, .slice Ar kr cr), (13, iq (i : Int)), (14, .slice none 0 0), (15, iq 0)] [.gen (rowE (none) 0 0 0 32 4 (rvals []) true), .gen (rowE (Aq) gq kq cq 32 4 (rvals ((mgG touchL (ownD how xs xs' XS) YS i).1)) true), .gen (rowE (Ar) gr kr cr 32 4 (rvals ((mgG touchL (ownD how xs xs' XS) YS i).2)) true), .gen (rowE (Ay) gy_ ky cy 3 1 (iV YS) true), .gen (rowE (Ax) gx_ kx cx 3 1 (iV XS) true), rD (A) g o n 4 (rvals xs), rD (A') g' o' n' 4 (rvals xs')] (by kernel_rfl) rfl ?_
  refine cont_rowEqR 0 ([]) (ownL (fun x => keepF (docK how) xs xs' x (YS.getD i 0)) (YS.getD i 0) (YS.getD (i + 1) 0) XS 0) rfl rfl ?_
  refine cont_loop (α := Nat × Nat × Option Addr × Nat × Nat) (fun x_ : Nat × Nat × Option Addr × Nat × Nat => x_.1 ≤ XS.length - 1 ∧ x_.2.1 ≤ x_.1) (fun x_ : Nat × Nat × Option Addr × Nat × Nat => [(0, .slice A n cap), (1, .slice A' n' cap'), (2, iq how), (7, .slice Ax kx cx), (8, .slice Ay ky cy), (11, .slice Aq kq cq), (12, .slice Ar kr cr), (13, iq (i : Int)), (14, .slice x_.2.2.1 x_.2.1 x_.2.2.2.2), (15, iq (x_.1 : Int))]) (fun x_ : Nat × Nat × Option Addr × Nat × Nat => [.gen (rowE (x_.2.2.1) x_.2.2.2.1 x_.2.1 x_.2.2.2.2 32 4 (rvals (ownL (fun x => keepF (docK how) xs xs' x (YS.getD i 0)) (YS.getD i 0) (YS.getD (i + 1) 0) XS x_.1)) true), .gen (rowE (Aq) gq kq cq 32 4 (rvals ((mgG touchL (ownD how xs xs' XS) YS i).1)) true), .gen (rowE (Ar) gr kr cr 32 4 (rvals ((mgG touchL (ownD how xs xs' XS) YS i).2)) true), .gen (rowE (Ay) gy_ ky cy 3 1 (iV YS) true), .gen (rowE (Ax) gx_ kx cx 3 1 (iV XS) true), rD (A) g o n 4 (rvals xs), rD (A') g' o' n' 4 (rvals xs')]) (fun x_ : Nat × Nat × Option Addr × Nat × Nat => XS.length - 1 - x_.1) (0, 0, none, 0, 0) (show (0) ≤ XS.length - 1 ∧ (0) ≤ (0) from ⟨by omega, by omega⟩) (by kernel_rfl) (by kernel_rfl) ?_
  rintro ⟨k, kw, Aw, gw, cw⟩ hinv38_
  replace hinv38_ : k ≤ XS.length - 1 ∧ kw ≤ k := hinv38_
  refine cN [.gen (rowE (Aw) gw kw cw 32 4 (rvals (ownL (fun x => keepF (docK how) xs xs' x (YS.getD i 0)) (YS.getD i 0) (YS.getD (i + 1) 0) XS k)) true), .gen (rowE (Aq) gq kq cq 32 4 (rvals ((mgG touchL (ownD how xs xs' XS) YS i).1)) true), .gen (rowE (Ar) gr kr cr 32 4 (rvals ((mgG touchL (ownD how xs xs' XS) YS i).2)) true), .gen (rowE (Ay) gy_ ky cy 3 1 (iV YS) true), .gen (rowE (Ax) gx_ kx cx 3 1 (iV XS) true), rD (A) g o n 4 (rvals xs), rD (A') g' o' n' 4 (rvals xs')] ?_
  obtain ⟨hk, hkw⟩ := hinv38_
  refine cSq <| cSq <| cRg 5 rfl <| bD [0, 0] 2 3 [(67, iq (IntKind.i64.wrap ((k : Int) + 1)))] [66] ?_
  refine cRc 67 (iq (IntKind.i64.wrap ((k : Int) + 1))) (iq ((k + 1 : Nat) : Int)) rfl (by rw [show (((k + 1 : Nat) : Int)) = (k : Int) + 1 by omega]; exact wrapI (by omega) (by omega)) ?_
  refine bS [0, 0, 0] 5 0 [(0, .slice A n cap), (1, .slice A' n' cap'), (2, iq how), (7, .slice Ax kx cx), (8, .slice Ay ky cy), (11, .slice Aq kq cq), (12, .slice Ar kr cr), (13, iq (i : Int)), (14, .slice Aw kw cw), (15, iq (k : Int)), (70, .bool (decide (((k + 1 : Nat) : Int) < (kx : Int))))] ?_
  refine cDn <| tNo ?_
  refine cSp 70 (decide (((k + 1 : Nat) : Int) < (kx : Int))) rfl (fun c39_ => ?_) (fun c39_ => ?_)
  ·
   replace c39_ := of_decide_eq_true c39_
   refine cTr rfl <| cont_skip <| tNo <| cSq <| cont_block <| cSq <| drawn_enter 23 [] rfl (by kernel_rfl) ?_
   refine tD 0 [] [(0, 0), (1, 0), (2, 0), (5, 0), (6, 0), (10, 0), (11, 0), (12, 0), (15, 0), (16, 0), (20, 0)] 12 [20, 16, 15, 12, 11, 10, 6, 5, 2, 1, 0] [(73, .slice A n cap), (74, .slice Ax kx cx), (75, iq (k : Int)), (78, .slice Ay ky cy), (79, iq (i : Int)), (83, .slice A' n' cap'), (84, .slice Ax kx cx), (85, iq (k : Int)), (88, .slice Ay ky cy), (89, iq (i : Int)), (93, iq how)] [] ?_
   refine cRc 74 (.slice Ax kx cx) (.slice (pB gx_) kx cx) rfl (by rw [hr29_a (by omega)]) ?_
   refine sT 0 [] 3 11 76 (Instr.indexAt 72 (.slice (pB gx_) kx cx) (iq (k : Int))) (.pointer (some ⟨gx_, k, none⟩)) (fun w hT => run_indexAt (e := 3) (sz := 1) _ (by kernel_rfl) (by kernel_rfl) (by omega) (by omega) (by omega) w) ?_
   refine sT 0 [] 4 10 77 (Instr.loadAt 3 (.pointer (some ⟨gx_, k, none⟩))) (iq (XS.getD k 0)) (fun w hT => run_load1 (by kernel_rfl) (Row.cell (hT 4 _ rfl) (k) _ (ivals_get (by omega)))) ?_
   refine cRc 78 (.slice Ay ky cy) (.slice (pB gy_) ky cy) rfl (by rw [hr30_a (by omega)]) ?_
   refine sT 0 [] 7 9 80 (Instr.indexAt 72 (.slice (pB gy_) ky cy) (iq (i : Int))) (.pointer (some ⟨gy_, i, none⟩)) (fun w hT => run_indexAt (e := 3) (sz := 1) _ (by kernel_rfl) (by kernel_rfl) (by omega) (by omega) (by omega) w) ?_
   refine sT 0 [] 8 8 81 (Instr.loadAt 3 (.pointer (some ⟨gy_, i, none⟩))) (iq (YS.getD i 0)) (fun w hT => run_load1 (by kernel_rfl) (Row.cell (hT 3 _ rfl) (i) _ (ivals_get (by omega)))) ?_
   refine cRc 84 (.slice Ax kx cx) (.slice (pB gx_) kx cx) rfl (by rw [hr29_a (by omega)]) ?_
   refine sT 0 [] 13 7 86 (Instr.indexAt 72 (.slice (pB gx_) kx cx) (iq (k : Int))) (.pointer (some ⟨gx_, k, none⟩)) (fun w hT => run_indexAt (e := 3) (sz := 1) _ (by kernel_rfl) (by kernel_rfl) (by omega) (by omega) (by omega) w) ?_
   refine sT 0 [] 14 6 87 (Instr.loadAt 3 (.pointer (some ⟨gx_, k, none⟩))) (iq (XS.getD k 0)) (fun w hT => run_load1 (by kernel_rfl) (Row.cell (hT 4 _ rfl) (k) _ (ivals_get (by omega)))) ?_
   refine cRc 88 (.slice Ay ky cy) (.slice (pB gy_) ky cy) rfl (by rw [hr30_a (by omega)]) ?_
   refine sT 0 [] 17 5 90 (Instr.indexAt 72 (.slice (pB gy_) ky cy) (iq (i : Int))) (.pointer (some ⟨gy_, i, none⟩)) (fun w hT => run_indexAt (e := 3) (sz := 1) _ (by kernel_rfl) (by kernel_rfl) (by omega) (by omega) (by omega) w) ?_
   refine sT 0 [] 18 4 91 (Instr.loadAt 3 (.pointer (some ⟨gy_, i, none⟩))) (iq (YS.getD i 0)) (fun w hT => run_load1 (by kernel_rfl) (Row.cell (hT 3 _ rfl) (i) _ (ivals_get (by omega)))) ?_
   refine dOn 9 3 rfl (by kernel_rfl) ?_
   refine call_pure (d := 82) (.bool (hasL xs (XS.getD k 0) (YS.getD i 0))) (by kernel_rfl) (fun w hT => refHasL A g o n cap xs (XS.getD k 0) (YS.getD i 0) w (hT.viewRo (.cons (i := 5) rfl Vw.rd .nil) rfl) (by omega)) ?_
   refine dNx 0 [] (by kernel_rfl) ?_
   refine dOn 19 2 rfl (by kernel_rfl) ?_
   refine call_pure (d := 92) (.bool (hasL xs' (XS.getD k 0) (YS.getD i 0))) (by kernel_rfl) (fun w hT => refHasL A' g' o' n' cap' xs' (XS.getD k 0) (YS.getD i 0) w (hT.viewRo (.cons (i := 6) rfl Vw.rd .nil) rfl) (by omega)) ?_
   refine dNx 0 [] (by kernel_rfl) ?_
   refine dOn 21 1 rfl (by kernel_rfl) ?_
   refine call_pure (d := 94) (.bool (docK how (hasL xs (XS.getD k 0) (YS.getD i 0)) (hasL xs' (XS.getD k 0) (YS.getD i 0)))) (by kernel_rfl) (fun w hT => refKeepB (hasL xs (XS.getD k 0) (YS.getD i 0)) (hasL xs' (XS.getD k 0) (YS.getD i 0)) how w) ?_
   refine dNx 0 [] (by kernel_rfl) ?_
   refine tD 0 [] [(22, 0)] 0 [22, 21, 19, 9, 18, 17, 14, 13, 8, 7, 4, 3, 20, 16, 15, 12, 11, 10, 6, 5, 2, 1, 0] [(16, .bool (docK how (hasL xs (XS.getD k 0) (YS.getD i 0)) (hasL xs' (XS.getD k 0) (YS.getD i 0))))] [] ?_
   refine drawn_done (by kernel_rfl) ?_
   refine tNo <| cSq <| cSq <| cRg 2 rfl <| bS [0, 0] 2 0 [(0, .slice A n cap), (1, .slice A' n' cap'), (2, iq how), (7, .slice Ax kx cx), (8, .slice Ay ky cy), (11, .slice Aq kq cq), (12, .slice Ar kr cr), (13, iq (i : Int)), (14, .slice Aw kw cw), (15, iq (k : Int)), (96, .bool (!(docK how (hasL xs (XS.getD k 0) (YS.getD i 0)) (hasL xs' (XS.getD k 0) (YS.getD i 0)))))] ?_
   refine cDn <| tNo ?_
   refine cSp 96 (!(docK how (hasL xs (XS.getD k 0) (YS.getD i 0)) (hasL xs' (XS.getD k 0) (YS.getD i 0)))) rfl (fun c40_ => ?_) (fun c40_ => ?_)
   ·
    replace c40_ : (docK how (hasL xs (XS.getD k 0) (YS.getD i 0)) (hasL xs' (XS.getD k 0) (YS.getD i 0))) = false := by simpa using c40_
    have hkeep_ : docK how (hasL xs (XS.getD k 0) (YS.getD i 0)) (hasL xs' (XS.getD k 0) (YS.getD i 0)) = false := c40_
    refine cTr rfl <| cont_exit <| then_exit <| blk_exit <| tNo <| cRg 3 rfl <| bD [0, 0] 2 1 [(72, iq (IntKind.i64.wrap ((k : Int) + 1)))] [71] ?_
    refine cRc 72 (iq (IntKind.i64.wrap ((k : Int) + 1))) (iq ((k + 1 : Nat) : Int)) rfl (by rw [show (((k + 1 : Nat) : Int)) = (k : Int) + 1 by omega]; exact wrapI (by omega) (by omega)) ?_
    refine bD [0] 3 0 [(15, iq ((k + 1 : Nat) : Int))] [] ?_
    refine cDn <| tNo <| cont_rowEqR 0 (ownL (fun x => keepF (docK how) xs xs' x (YS.getD i 0)) (YS.getD i 0) (YS.getD (i + 1) 0) XS k) (ownL (fun x => keepF (docK how) xs xs' x (YS.getD i 0)) (YS.getD i 0) (YS.getD (i + 1) 0) XS (k + 1)) rfl (ownL_skip (f := (fun x => keepF (docK how) xs xs' x (YS.getD i 0))) hkeep_) ?_
    refine cont_again (k + 1, kw, Aw, gw, cw) (show (k + 1) ≤ XS.length - 1 ∧ (kw) ≤ (k + 1) from ⟨by omega, by omega⟩) (show XS.length - 1 - (k + 1) < XS.length - 1 - k from by omega) (by kernel_rfl) (by kernel_rfl)
   replace c40_ : (docK how (hasL xs (XS.getD k 0) (YS.getD i 0)) (hasL xs' (XS.getD k 0) (YS.getD i 0))) = true := by simpa using c40_
   have hkeep_ : docK how (hasL xs (XS.getD k 0) (YS.getD i 0)) (hasL xs' (XS.getD k 0) (YS.getD i 0)) = true := c40_
   refine cFa rfl <| cont_skip <| tNo <| cSq ?_
   refine cont_fact (F := (0 < kw → (Aw : Option Addr) = pB gw) ∧ (ownL (fun x => keepF (docK how) xs xs' x (YS.getD i 0)) (YS.getD i 0) (YS.getD (i + 1) 0) XS k).length = kw ∧ kw ≤ cw ∧ cw ≤ maxLen) (fun w hT => Row.factsR (hT.ok 0 _ rfl)) (fun hr41_ => ?_)
   obtain ⟨hr41_a, hr41_l, hr41_c, hr41_m⟩ := hr41_
   unfold maxLen at hr41_m
   refine drawn_enter 18 [] rfl (by kernel_rfl) ?_
   refine tD 0 [] [(0, 0), (1, 0), (2, 0), (3, 0)] 14 [3, 2, 1, 0] [(100, .bool (decide ((kw : Int) > 0)))] [97, 98, 99] ?_
   refine cSp 100 (decide ((kw : Int) > 0)) rfl (fun c42_ => ?_) (fun c42_ => ?_)
   ·
    replace c42_ := of_decide_eq_true c42_
    refine tD 0 [] [(4, 0), (5, 0), (12, 0), (13, 0), (6, 0)] 9 [6, 13, 12, 5, 4, 3, 2, 1, 0] [(101, .slice Aw kw cw), (102, .slice Aw kw cw), (103, iq (kw : Int)), (109, .slice Ax kx cx), (110, iq (k : Int))] [] ?_
    refine tK 0 [] [(7, 0)] 8 [7, 6, 13, 12, 5, 4, 3, 2, 1, 0] [(0, .slice A n cap), (1, .slice A' n' cap'), (2, iq how), (7, .slice Ax kx cx), (8, .slice Ay ky cy), (11, .slice Aq kq cq), (12, .slice Ar kr cr), (13, iq (i : Int)), (14, .slice Aw kw cw), (15, iq (k : Int)), (100, .bool true), (101, .slice Aw kw cw), (102, .slice Aw kw cw), (103, iq (kw : Int)), (104, iq (IntKind.i64.wrap ((kw : Int) - 1))), (109, .slice Ax kx cx), (110, iq (k : Int))] ?_
    refine cRc 104 (iq (IntKind.i64.wrap ((kw : Int) - 1))) (iq ((kw : Int) - 1)) rfl (wrapI (by omega) (by omega)) ?_
    refine tK 0 [] [(8, 0)] 7 [8, 7, 6, 13, 12, 5, 4, 3, 2, 1, 0] [(0, .slice A n cap), (1, .slice A' n' cap'), (2, iq how), (7, .slice Ax kx cx), (8, .slice Ay ky cy), (11, .slice Aq kq cq), (12, .slice Ar kr cr), (13, iq (i : Int)), (14, .slice Aw kw cw), (15, iq (k : Int)), (100, .bool true), (101, .slice Aw kw cw), (102, .slice Aw kw cw), (103, iq (kw : Int)), (104, iq ((kw : Int) - 1)), (105, iq (mx ((kw : Int) - 1) 0)), (109, .slice Ax kx cx), (110, iq (k : Int))] ?_
    refine cRc 105 (iq (mx ((kw : Int) - 1) 0)) (iq ((kw - 1 : Nat) : Int)) rfl (congrArg (Value.int .i64) (by unfold mx; omega)) ?_
    refine cRc 101 (.slice Aw kw cw) (.slice (pB gw) kw cw) rfl (by rw [hr41_a (by omega)]) ?_
    refine sT 0 [] 9 6 106 (Instr.indexAt 23 (.slice (pB gw) kw cw) (iq ((kw - 1 : Nat) : Int))) (.pointer (some ⟨gw, (kw - 1 : Nat) * 4, none⟩)) (fun w hT => run_indexAt (e := 32) (sz := 4) _ (by kernel_rfl) (by kernel_rfl) (by omega) (by omega) (by omega) w) ?_
    refine tK 0 [] [(10, 0)] 5 [10, 9, 8, 7, 6, 13, 12, 5, 4, 3, 2, 1, 0] [(0, .slice A n cap), (1, .slice A' n' cap'), (2, iq how), (7, .slice Ax kx cx), (8, .slice Ay ky cy), (11, .slice Aq kq cq), (12, .slice Ar kr cr), (13, iq (i : Int)), (14, .slice Aw kw cw), (15, iq (k : Int)), (100, .bool true), (101, .slice (pB gw) kw cw), (102, .slice Aw kw cw), (103, iq (kw : Int)), (104, iq ((kw : Int) - 1)), (105, iq ((kw - 1 : Nat) : Int)), (106, .pointer (some ⟨gw, (kw - 1 : Nat) * 4, none⟩)), (107, .pointer (some ⟨gw, (kw - 1 : Nat) * 4 + 2, none⟩)), (109, .slice Ax kx cx), (110, iq (k : Int))] ?_
    refine sT 0 [] 11 4 108 (Instr.loadAt 3 (.pointer (some ⟨gw, (kw - 1 : Nat) * 4 + 2, none⟩))) (iq ((rget (ownL (fun x => keepF (docK how) xs xs' x (YS.getD i 0)) (YS.getD i 0) (YS.getD (i + 1) 0) XS k) (kw - 1 : Nat)).x1)) (fun w hT => run_load1 (by kernel_rfl) (Rd.cellF0 (Row.rd (hT 0 _ rfl)) (kw - 1 : Nat) 2 _ (by omega) rfl)) ?_
    refine cRc 109 (.slice Ax kx cx) (.slice (pB gx_) kx cx) rfl (by rw [hr29_a (by omega)]) ?_
    refine sT 0 [] 14 3 111 (Instr.indexAt 72 (.slice (pB gx_) kx cx) (iq (k : Int))) (.pointer (some ⟨gx_, k, none⟩)) (fun w hT => run_indexAt (e := 3) (sz := 1) _ (by kernel_rfl) (by kernel_rfl) (by omega) (by omega) (by omega) w) ?_
    refine sT 0 [] 15 2 112 (Instr.loadAt 3 (.pointer (some ⟨gx_, k, none⟩))) (iq (XS.getD k 0)) (fun w hT => run_load1 (by kernel_rfl) (Row.cell (hT 4 _ rfl) (k) _ (ivals_get (by omega)))) ?_
    refine tK 0 [] [(16, 0), (17, 0)] 0 [17, 16, 15, 14, 11, 10, 9, 8, 7, 6, 13, 12, 5, 4, 3, 2, 1, 0] [(0, .slice A n cap), (1, .slice A' n' cap'), (2, iq how), (7, .slice Ax kx cx), (8, .slice Ay ky cy), (11, .slice Aq kq cq), (12, .slice Ar kr cr), (13, iq (i : Int)), (14, .slice Aw kw cw), (15, iq (k : Int)), (101, .slice (pB gw) kw cw), (102, .slice Aw kw cw), (103, iq (kw : Int)), (104, iq ((kw : Int) - 1)), (105, iq ((kw - 1 : Nat) : Int)), (106, .pointer (some ⟨gw, (kw - 1 : Nat) * 4, none⟩)), (107, .pointer (some ⟨gw, (kw - 1 : Nat) * 4 + 2, none⟩)), (108, iq ((rget (ownL (fun x => keepF (docK how) xs xs' x (YS.getD i 0)) (YS.getD i 0) (YS.getD (i + 1) 0) XS k) (kw - 1 : Nat)).x1)), (109, .slice (pB gx_) kx cx), (110, iq (k : Int)), (111, .pointer (some ⟨gx_, k, none⟩)), (112, iq (XS.getD k 0)), (113, .bool (((rget (ownL (fun x => keepF (docK how) xs xs' x (YS.getD i 0)) (YS.getD i 0) (YS.getD (i + 1) 0) XS k) (kw - 1 : Nat)).x1) == (XS.getD k 0))), (114, .bool (((rget (ownL (fun x => keepF (docK how) xs xs' x (YS.getD i 0)) (YS.getD i 0) (YS.getD (i + 1) 0) XS k) (kw - 1 : Nat)).x1) == (XS.getD k 0)))] ?_
    refine drawn_done (by kernel_rfl) ?_
    refine tNo ?_
    refine cSp 114 (((rget (ownL (fun x => keepF (docK how) xs xs' x (YS.getD i 0)) (YS.getD i 0) (YS.getD (i + 1) 0) XS k) (kw - 1 : Nat)).x1) == (XS.getD k 0)) rfl (fun c43_ => ?_) (fun c43_ => ?_)
    ·
     refine cRc 113 (.bool (((rget (ownL (fun x => keepF (docK how) xs xs' x (YS.getD i 0)) (YS.getD i 0) (YS.getD (i + 1) 0) XS k) (kw - 1 : Nat)).x1) == (XS.getD k 0))) (.bool true) rfl (congrArg Value.bool c43_) ?_
     replace c43_ := eq_of_beqt c43_
     refine cTr rfl <| cRg 12 rfl <| bS [0, 0, 0, 0] 4 8 [(0, .slice A n cap), (1, .slice A' n' cap'), (2, iq how), (7, .slice Ax kx cx), (8, .slice Ay ky cy), (11, .slice Aq kq cq), (12, .slice Ar kr cr), (13, iq (i : Int)), (14, .slice Aw kw cw), (15, iq (k : Int)), (101, .slice (pB gw) kw cw), (102, .slice Aw kw cw), (103, iq (kw : Int)), (104, iq ((kw : Int) - 1)), (105, iq ((kw - 1 : Nat) : Int)), (106, .pointer (some ⟨gw, (kw - 1 : Nat) * 4, none⟩)), (107, .pointer (some ⟨gw, (kw - 1 : Nat) * 4 + 2, none⟩)), (108, iq ((rget (ownL (fun x => keepF (docK how) xs xs' x (YS.getD i 0)) (YS.getD i 0) (YS.getD (i + 1) 0) XS k) (kw - 1 : Nat)).x1)), (109, .slice (pB gx_) kx cx), (110, iq (k : Int)), (111, .pointer (some ⟨gx_, k, none⟩)), (112, iq (XS.getD k 0)), (113, .bool true), (115, .slice Aw kw cw), (118, iq (IntKind.i64.wrap ((kw : Int) - 1)))] ?_
     refine cRc 118 (iq (IntKind.i64.wrap ((kw : Int) - 1))) (iq ((kw - 1 : Nat) : Int)) rfl (by rw [show (((kw - 1 : Nat) : Int)) = (kw : Int) - 1 by omega]; exact wrapI (by omega) (by omega)) ?_
     refine bD [0, 0, 0] 7 5 [(119, .slice Ax kx cx), (121, iq (IntKind.i64.wrap ((k : Int) + 1)))] [120] ?_
     refine cRc 121 (iq (IntKind.i64.wrap ((k : Int) + 1))) (iq ((k + 1 : Nat) : Int)) rfl (by rw [show (((k + 1 : Nat) : Int)) = (k : Int) + 1 by omega]; exact wrapI (by omega) (by omega)) ?_
     refine pSt 8 4 rfl rfl <| cRc 119 (.slice Ax kx cx) (.slice (pB gx_) kx cx) rfl (by rw [hr29_a (by omega)]) ?_
     refine sem_step 122 (Instr.indexAt 72 (.slice (pB gx_) kx cx) (iq ((k + 1 : Nat) : Int))) (.pointer (some ⟨gx_, (k + 1 : Nat), none⟩)) (by kernel_rfl) (fun w hT => run_indexAt (e := 3) (sz := 1) _ (by kernel_rfl) (by kernel_rfl) (by omega) (by omega) (by omega) w) ?_
     refine pSt 9 3 rfl rfl <| sem_step 123 (Instr.loadAt 3 (.pointer (some ⟨gx_, (k + 1 : Nat), none⟩))) (iq (XS.getD (k + 1 : Nat) 0)) (by kernel_rfl) (fun w hT => run_load1 (by kernel_rfl) (Row.cell (hT.ok 4 _ rfl) ((k + 1 : Nat)) _ (ivals_get (by omega)))) ?_
     refine pSt 10 2 rfl rfl <| cRc 115 (.slice Aw kw cw) (.slice (pB gw) kw cw) rfl (by rw [hr41_a (by omega)]) ?_
     refine sem_step 124 (Instr.indexAt 23 (.slice (pB gw) kw cw) (iq ((kw - 1 : Nat) : Int))) (.pointer (some ⟨gw, (kw - 1 : Nat) * 4, none⟩)) (by kernel_rfl) (fun w hT => run_indexAt (e := 32) (sz := 4) _ (by kernel_rfl) (by kernel_rfl) (by omega) (by omega) (by omega) w) ?_
     refine bD [0] 11 1 [(125, .pointer (some ⟨gw, (kw - 1 : Nat) * 4 + 2, none⟩))] [] ?_
     refine pSt 12 0 rfl rfl ?_
     refine sem_stepU (Instr.storeAt 3 (.pointer (some ⟨gw, (kw - 1 : Nat) * 4 + 2, none⟩)) (iq (XS.getD (k + 1 : Nat) 0))) (fun _ => [.gen (rowE (Aw) gw kw cw 32 4 (rvals ((ownL (fun x => keepF (docK how) xs xs' x (YS.getD i 0)) (YS.getD i 0) (YS.getD (i + 1) 0) XS k).set (kw - 1 : Nat) { rget (ownL (fun x => keepF (docK how) xs xs' x (YS.getD i 0)) (YS.getD i 0) (YS.getD (i + 1) 0) XS k) (kw - 1 : Nat) with x1 := XS.getD (k + 1 : Nat) 0 })) true), .gen (rowE (Aq) gq kq cq 32 4 (rvals ((mgG touchL (ownD how xs xs' XS) YS i).1)) true), .gen (rowE (Ar) gr kr cr 32 4 (rvals ((mgG touchL (ownD how xs xs' XS) YS i).2)) true), .gen (rowE (Ay) gy_ ky cy 3 1 (iV YS) true), .gen (rowE (Ax) gx_ kx cx 3 1 (iV XS) true), rD (A) g o n 4 (rvals xs), rD (A') g' o' n' 4 (rvals xs')]) (fun _ => True) (by kernel_rfl) (fun w hT => store_fieldR hT (i := 0) (J := (kw - 1 : Nat)) (k := 2) { rget (ownL (fun x => keepF (docK how) xs xs' x (YS.getD i 0)) (YS.getD i 0) (YS.getD (i + 1) 0) XS k) (kw - 1 : Nat) with x1 := XS.getD (k + 1 : Nat) 0 } rfl (by kernel_rfl) (by omega) (by decide) (by omega) rfl) (fun _ _ => ?_)
     refine cDn <| blk_normal <| tNo <| cRg 3 rfl <| bS [0, 0] 2 1 [(0, .slice A n cap), (1, .slice A' n' cap'), (2, iq how), (7, .slice Ax kx cx), (8, .slice Ay ky cy), (11, .slice Aq kq cq), (12, .slice Ar kr cr), (13, iq (i : Int)), (14, .slice Aw kw cw), (72, iq (IntKind.i64.wrap ((k : Int) + 1))), (101, .slice (pB gw) kw cw), (102, .slice Aw kw cw), (103, iq (kw : Int)), (104, iq ((kw : Int) - 1)), (105, iq ((kw - 1 : Nat) : Int)), (106, .pointer (some ⟨gw, (kw - 1 : Nat) * 4, none⟩)), (107, .pointer (some ⟨gw, (kw - 1 : Nat) * 4 + 2, none⟩)), (108, iq ((rget (ownL (fun x => keepF (docK how) xs xs' x (YS.getD i 0)) (YS.getD i 0) (YS.getD (i + 1) 0) XS k) (kw - 1 : Nat)).x1)), (109, .slice (pB gx_) kx cx), (110, iq (k : Int)), (111, .pointer (some ⟨gx_, k, none⟩)), (112, iq (XS.getD k 0)), (113, .bool true)] ?_
     refine cRc 72 (iq (IntKind.i64.wrap ((k : Int) + 1))) (iq ((k + 1 : Nat) : Int)) rfl (by rw [show (((k + 1 : Nat) : Int)) = (k : Int) + 1 by omega]; exact wrapI (by omega) (by omega)) ?_
     refine bD [0] 3 0 [(15, iq ((k + 1 : Nat) : Int))] [] ?_
     refine cDn <| tNo <| cont_rowEqR 0 ((ownL (fun x => keepF (docK how) xs xs' x (YS.getD i 0)) (YS.getD i 0) (YS.getD (i + 1) 0) XS k).set (kw - 1 : Nat) { rget (ownL (fun x => keepF (docK how) xs xs' x (YS.getD i 0)) (YS.getD i 0) (YS.getD (i + 1) 0) XS k) (kw - 1 : Nat) with x1 := XS.getD (k + 1 : Nat) 0 }) (ownL (fun x => keepF (docK how) xs xs' x (YS.getD i 0)) (YS.getD i 0) (YS.getD (i + 1) 0) XS (k + 1)) rfl (ownL_put (f := (fun x => keepF (docK how) xs xs' x (YS.getD i 0))) hkeep_ (by omega) c43_) ?_
     refine cont_again (k + 1, kw, Aw, gw, cw) (show (k + 1) ≤ XS.length - 1 ∧ (kw) ≤ (k + 1) from ⟨by omega, by omega⟩) (show XS.length - 1 - (k + 1) < XS.length - 1 - k from by omega) (by kernel_rfl) (by kernel_rfl)
    refine cRc 113 (.bool (((rget (ownL (fun x => keepF (docK how) xs xs' x (YS.getD i 0)) (YS.getD i 0) (YS.getD (i + 1) 0) XS k) (kw - 1 : Nat)).x1) == (XS.getD k 0))) (.bool false) rfl (congrArg Value.bool c43_) ?_
    replace c43_ := ne_of_beqf c43_
    refine cFa rfl <| drawn_enter 23 [0] rfl (by kernel_rfl) ?_
    refine tK 0 [0] [(0, 0), (1, 0), (2, 0), (5, 0), (6, 0), (9, 0), (10, 0), (14, 0), (15, 0)] 14 [15, 14, 10, 9, 6, 5, 2, 1, 0] [(0, .slice A n cap), (1, .slice A' n' cap'), (2, iq how), (7, .slice Ax kx cx), (8, .slice Ay ky cy), (11, .slice Aq kq cq), (12, .slice Ar kr cr), (13, iq (i : Int)), (14, .slice Aw kw cw), (15, iq (k : Int)), (101, .slice (pB gw) kw cw), (102, .slice Aw kw cw), (103, iq (kw : Int)), (104, iq ((kw : Int) - 1)), (105, iq ((kw - 1 : Nat) : Int)), (106, .pointer (some ⟨gw, (kw - 1 : Nat) * 4, none⟩)), (107, .pointer (some ⟨gw, (kw - 1 : Nat) * 4 + 2, none⟩)), (108, iq ((rget (ownL (fun x => keepF (docK how) xs xs' x (YS.getD i 0)) (YS.getD i 0) (YS.getD (i + 1) 0) XS k) (kw - 1 : Nat)).x1)), (109, .slice (pB gx_) kx cx), (110, iq (k : Int)), (111, .pointer (some ⟨gx_, k, none⟩)), (112, iq (XS.getD k 0)), (113, .bool false), (126, .slice Aw kw cw), (127, .slice Ax kx cx), (128, iq (k : Int)), (131, .slice Ay ky cy), (132, iq (i : Int)), (135, .slice Ax kx cx), (136, iq (k : Int)), (140, .slice Ay ky cy), (141, iq (i : Int))] ?_
    refine cRc 127 (.slice Ax kx cx) (.slice (pB gx_) kx cx) rfl (by rw [hr29_a (by omega)]) ?_
    refine sT 0 [0] 3 13 129 (Instr.indexAt 72 (.slice (pB gx_) kx cx) (iq (k : Int))) (.pointer (some ⟨gx_, k, none⟩)) (fun w hT => run_indexAt (e := 3) (sz := 1) _ (by kernel_rfl) (by kernel_rfl) (by omega) (by omega) (by omega) w) ?_
    refine sT 0 [0] 4 12 130 (Instr.loadAt 3 (.pointer (some ⟨gx_, k, none⟩))) (iq (XS.getD k 0)) (fun w hT => run_load1 (by kernel_rfl) (Row.cell (hT 4 _ rfl) (k) _ (ivals_get (by omega)))) ?_
    refine cRc 131 (.slice Ay ky cy) (.slice (pB gy_) ky cy) rfl (by rw [hr30_a (by omega)]) ?_
    refine sT 0 [0] 7 11 133 (Instr.indexAt 72 (.slice (pB gy_) ky cy) (iq (i : Int))) (.pointer (some ⟨gy_, i, none⟩)) (fun w hT => run_indexAt (e := 3) (sz := 1) _ (by kernel_rfl) (by kernel_rfl) (by omega) (by omega) (by omega) w) ?_
    refine sT 0 [0] 8 10 134 (Instr.loadAt 3 (.pointer (some ⟨gy_, i, none⟩))) (iq (YS.getD i 0)) (fun w hT => run_load1 (by kernel_rfl) (Row.cell (hT 3 _ rfl) (i) _ (ivals_get (by omega)))) ?_
    refine tK 0 [0] [(11, 0)] 9 [11, 8, 7, 4, 3, 15, 14, 10, 9, 6, 5, 2, 1, 0] [(0, .slice A n cap), (1, .slice A' n' cap'), (2, iq how), (7, .slice Ax kx cx), (8, .slice Ay ky cy), (11, .slice Aq kq cq), (12, .slice Ar kr cr), (13, iq (i : Int)), (14, .slice Aw kw cw), (15, iq (k : Int)), (101, .slice (pB gw) kw cw), (102, .slice Aw kw cw), (103, iq (kw : Int)), (104, iq ((kw : Int) - 1)), (105, iq ((kw - 1 : Nat) : Int)), (106, .pointer (some ⟨gw, (kw - 1 : Nat) * 4, none⟩)), (107, .pointer (some ⟨gw, (kw - 1 : Nat) * 4 + 2, none⟩)), (108, iq ((rget (ownL (fun x => keepF (docK how) xs xs' x (YS.getD i 0)) (YS.getD i 0) (YS.getD (i + 1) 0) XS k) (kw - 1 : Nat)).x1)), (109, .slice (pB gx_) kx cx), (110, iq (k : Int)), (111, .pointer (some ⟨gx_, k, none⟩)), (112, iq (XS.getD k 0)), (113, .bool false), (126, .slice Aw kw cw), (130, iq (XS.getD k 0)), (134, iq (YS.getD i 0)), (135, .slice Ax kx cx), (137, iq (IntKind.i64.wrap ((k : Int) + 1))), (140, .slice Ay ky cy), (141, iq (i : Int))] ?_
    refine cRc 137 (iq (IntKind.i64.wrap ((k : Int) + 1))) (iq ((k + 1 : Nat) : Int)) rfl (by rw [show (((k + 1 : Nat) : Int)) = (k : Int) + 1 by omega]; exact wrapI (by omega) (by omega)) ?_
    refine cRc 135 (.slice Ax kx cx) (.slice (pB gx_) kx cx) rfl (by rw [hr29_a (by omega)]) ?_
    refine sT 0 [0] 12 8 138 (Instr.indexAt 72 (.slice (pB gx_) kx cx) (iq ((k + 1 : Nat) : Int))) (.pointer (some ⟨gx_, (k + 1 : Nat), none⟩)) (fun w hT => run_indexAt (e := 3) (sz := 1) _ (by kernel_rfl) (by kernel_rfl) (by omega) (by omega) (by omega) w) ?_
    refine sT 0 [0] 13 7 139 (Instr.loadAt 3 (.pointer (some ⟨gx_, (k + 1 : Nat), none⟩))) (iq (XS.getD (k + 1 : Nat) 0)) (fun w hT => run_load1 (by kernel_rfl) (Row.cell (hT 4 _ rfl) ((k + 1 : Nat)) _ (ivals_get (by omega)))) ?_
    refine tK 0 [0] [(16, 0)] 6 [16, 13, 12, 11, 8, 7, 4, 3, 15, 14, 10, 9, 6, 5, 2, 1, 0] [(0, .slice A n cap), (1, .slice A' n' cap'), (2, iq how), (7, .slice Ax kx cx), (8, .slice Ay ky cy), (11, .slice Aq kq cq), (12, .slice Ar kr cr), (13, iq (i : Int)), (14, .slice Aw kw cw), (15, iq (k : Int)), (101, .slice (pB gw) kw cw), (102, .slice Aw kw cw), (103, iq (kw : Int)), (104, iq ((kw : Int) - 1)), (105, iq ((kw - 1 : Nat) : Int)), (106, .pointer (some ⟨gw, (kw - 1 : Nat) * 4, none⟩)), (107, .pointer (some ⟨gw, (kw - 1 : Nat) * 4 + 2, none⟩)), (108, iq ((rget (ownL (fun x => keepF (docK how) xs xs' x (YS.getD i 0)) (YS.getD i 0) (YS.getD (i + 1) 0) XS k) (kw - 1 : Nat)).x1)), (109, .slice (pB gx_) kx cx), (110, iq (k : Int)), (111, .pointer (some ⟨gx_, k, none⟩)), (112, iq (XS.getD k 0)), (113, .bool false), (126, .slice Aw kw cw), (130, iq (XS.getD k 0)), (134, iq (YS.getD i 0)), (139, iq (XS.getD (k + 1 : Nat) 0)), (140, .slice Ay ky cy), (142, iq (IntKind.i64.wrap ((i : Int) + 1)))] ?_
    refine cRc 142 (iq (IntKind.i64.wrap ((i : Int) + 1))) (iq ((i + 1 : Nat) : Int)) rfl (by rw [show (((i + 1 : Nat) : Int)) = (i : Int) + 1 by omega]; exact wrapI (by omega) (by omega)) ?_
    refine cRc 140 (.slice Ay ky cy) (.slice (pB gy_) ky cy) rfl (by rw [hr30_a (by omega)]) ?_
    refine sT 0 [0] 17 5 143 (Instr.indexAt 72 (.slice (pB gy_) ky cy) (iq ((i + 1 : Nat) : Int))) (.pointer (some ⟨gy_, (i + 1 : Nat), none⟩)) (fun w hT => run_indexAt (e := 3) (sz := 1) _ (by kernel_rfl) (by kernel_rfl) (by omega) (by omega) (by omega) w) ?_
    refine sT 0 [0] 18 4 144 (Instr.loadAt 3 (.pointer (some ⟨gy_, (i + 1 : Nat), none⟩))) (iq (YS.getD (i + 1 : Nat) 0)) (fun w hT => run_load1 (by kernel_rfl) (Row.cell (hT 3 _ rfl) ((i + 1 : Nat)) _ (ivals_get (by omega)))) ?_
    refine tK 0 [0] [(19, 0)] 3 [19, 18, 17, 16, 13, 12, 11, 8, 7, 4, 3, 15, 14, 10, 9, 6, 5, 2, 1, 0] [(0, .slice A n cap), (1, .slice A' n' cap'), (2, iq how), (7, .slice Ax kx cx), (8, .slice Ay ky cy), (11, .slice Aq kq cq), (12, .slice Ar kr cr), (13, iq (i : Int)), (14, .slice Aw kw cw), (15, iq (k : Int)), (101, .slice (pB gw) kw cw), (102, .slice Aw kw cw), (103, iq (kw : Int)), (104, iq ((kw : Int) - 1)), (105, iq ((kw - 1 : Nat) : Int)), (106, .pointer (some ⟨gw, (kw - 1 : Nat) * 4, none⟩)), (107, .pointer (some ⟨gw, (kw - 1 : Nat) * 4 + 2, none⟩)), (108, iq ((rget (ownL (fun x => keepF (docK how) xs xs' x (YS.getD i 0)) (YS.getD i 0) (YS.getD (i + 1) 0) XS k) (kw - 1 : Nat)).x1)), (109, .slice (pB gx_) kx cx), (110, iq (k : Int)), (111, .pointer (some ⟨gx_, k, none⟩)), (112, iq (XS.getD k 0)), (113, .bool false), (126, .slice Aw kw cw), (145, .agg #[iq (XS.getD k 0), iq (YS.getD i 0), iq (XS.getD (k + 1 : Nat) 0), iq (YS.getD (i + 1 : Nat) 0)])] ?_
    refine dOn 20 2 rfl (by kernel_rfl) ?_
    refine one_step1 0 (fun b44 => [(0, .slice A n cap), (1, .slice A' n' cap'), (2, iq how), (7, .slice Ax kx cx), (8, .slice Ay ky cy), (11, .slice Aq kq cq), (12, .slice Ar kr cr), (13, iq (i : Int)), (14, .slice Aw kw cw), (15, iq (k : Int)), (101, .slice (pB gw) kw cw), (102, .slice Aw kw cw), (103, iq (kw : Int)), (104, iq ((kw : Int) - 1)), (105, iq ((kw - 1 : Nat) : Int)), (106, .pointer (some ⟨gw, (kw - 1 : Nat) * 4, none⟩)), (107, .pointer (some ⟨gw, (kw - 1 : Nat) * 4 + 2, none⟩)), (108, iq ((rget (ownL (fun x => keepF (docK how) xs xs' x (YS.getD i 0)) (YS.getD i 0) (YS.getD (i + 1) 0) XS k) (kw - 1 : Nat)).x1)), (109, .slice (pB gx_) kx cx), (110, iq (k : Int)), (111, .pointer (some ⟨gx_, k, none⟩)), (112, iq (XS.getD k 0)), (113, .bool false), (126, .slice Aw kw cw), (146, .slice (pB b44) 1 1)]) (fun b44 => [.cells b44 [iq (XS.getD k 0), iq (YS.getD i 0), iq (XS.getD (k + 1 : Nat) 0), iq (YS.getD (i + 1 : Nat) 0)] 32 true, .gen (rowE (Aw) gw kw cw 32 4 (rvals (ownL (fun x => keepF (docK how) xs xs' x (YS.getD i 0)) (YS.getD i 0) (YS.getD (i + 1) 0) XS k)) true), .gen (rowE (Aq) gq kq cq 32 4 (rvals ((mgG touchL (ownD how xs xs' XS) YS i).1)) true), .gen (rowE (Ar) gr kr cr 32 4 (rvals ((mgG touchL (ownD how xs xs' XS) YS i).2)) true), .gen (rowE (Ay) gy_ ky cy 3 1 (iV YS) true), .gen (rowE (Ax) gx_ kx cx 3 1 (iV XS) true), rD (A) g o n 4 (rvals xs), rD (A') g' o' n' 4 (rvals xs')]) (fun b44 => by kernel_rfl) (fun b44 => by kernel_rfl) (fun b44 => ?_)
    refine dNx 1 [0] (by kernel_rfl) ?_
    refine dOn 21 1 rfl (by kernel_rfl) ?_
    refine sSW (α := Option Addr × Nat × Nat) 147 (Builtin.append_ #[23, 23] 23 #[.slice Aw kw cw, .slice (pB b44) 1 1]) (fun x_ => .slice x_.1 (kw + 1) x_.2.2) (fun x_ => [.cells b44 [iq (XS.getD k 0), iq (YS.getD i 0), iq (XS.getD (k + 1 : Nat) 0), iq (YS.getD (i + 1 : Nat) 0)] 32 true, .gen (rowE (x_.1) x_.2.1 (kw + 1) x_.2.2 32 4 (rvals ((ownL (fun x => keepF (docK how) xs xs' x (YS.getD i 0)) (YS.getD i 0) (YS.getD (i + 1) 0) XS k) ++ [(⟨XS.getD k 0, YS.getD i 0, XS.getD (k + 1 : Nat) 0, YS.getD (i + 1 : Nat) 0⟩ : Rect)])) true), .gen (rowE (Aq) gq kq cq 32 4 (rvals ((mgG touchL (ownD how xs xs' XS) YS i).1)) true), .gen (rowE (Ar) gr kr cr 32 4 (rvals ((mgG touchL (ownD how xs xs' XS) YS i).2)) true), .gen (rowE (Ay) gy_ ky cy 3 1 (iV YS) true), .gen (rowE (Ax) gx_ kx cx 3 1 (iV XS) true), rD (A) g o n 4 (rvals xs), rD (A') g' o' n' 4 (rvals xs')]) (fun _ => True) (by kernel_rfl) (fun w hT => append_own (n' := (kw + 1)) (z := .agg #[iq 0, iq 0, iq 0, iq 0]) hT (i := 1) (bytes := 32) rfl (by kernel_rfl) (by kernel_rfl) rfl (by decide) (by decide) (Rd.ofCells (vals := rvals [(⟨XS.getD k 0, YS.getD i 0, XS.getD (k + 1 : Nat) 0, YS.getD (i + 1 : Nat) 0⟩ : Rect)]) (hT.ok 0 _ rfl) rfl rfl) (rvals_one [(⟨XS.getD k 0, YS.getD i 0, XS.getD (k + 1 : Nat) 0, YS.getD (i + 1 : Nat) 0⟩ : Rect)]) (by omega) (rvals_append (ownL (fun x => keepF (docK how) xs xs' x (YS.getD i 0)) (YS.getD i 0) (YS.getD (i + 1) 0) XS k) [(⟨XS.getD k 0, YS.getD i 0, XS.getD (k + 1 : Nat) 0, YS.getD (i + 1 : Nat) 0⟩ : Rect)]) rfl) ?_
    rintro ⟨A45, g45, cp45⟩ -
    refine cont_norm [(0, .slice A n cap), (1, .slice A' n' cap'), (2, iq how), (7, .slice Ax kx cx), (8, .slice Ay ky cy), (11, .slice Aq kq cq), (12, .slice Ar kr cr), (13, iq (i : Int)), (14, .slice Aw kw cw), (15, iq (k : Int)), (101, .slice (pB gw) kw cw), (102, .slice Aw kw cw), (103, iq (kw : Int)), (104, iq ((kw : Int) - 1)), (105, iq ((kw - 1 : Nat) : Int)), (106, .pointer (some ⟨gw, (kw - 1 : Nat) * 4, none⟩)), (107, .pointer (some ⟨gw, (kw - 1 : Nat) * 4 + 2, none⟩)), (108, iq ((rget (ownL (fun x => keepF (docK how) xs xs' x (YS.getD i 0)) (YS.getD i 0) (YS.getD (i + 1) 0) XS k) (kw - 1 : Nat)).x1)), (109, .slice (pB gx_) kx cx), (110, iq (k : Int)), (111, .pointer (some ⟨gx_, k, none⟩)), (112, iq (XS.getD k 0)), (113, .bool false), (126, .slice Aw kw cw), (146, .slice (pB b44) 1 1), (147, .slice A45 (kw + 1) cp45)] [.cells b44 [iq (XS.getD k 0), iq (YS.getD i 0), iq (XS.getD (k + 1 : Nat) 0), iq (YS.getD (i + 1 : Nat) 0)] 32 true, .gen (rowE (A45) g45 (kw + 1) cp45 32 4 (rvals ((ownL (fun x => keepF (docK how) xs xs' x (YS.getD i 0)) (YS.getD i 0) (YS.getD (i + 1) 0) XS k) ++ [(⟨XS.getD k 0, YS.getD i 0, XS.getD (k + 1 : Nat) 0, YS.getD (i + 1 : Nat) 0⟩ : Rect)])) true), .gen (rowE (Aq) gq kq cq 32 4 (rvals ((mgG touchL (ownD how xs xs' XS) YS i).1)) true), .gen (rowE (Ar) gr kr cr 32 4 (rvals ((mgG touchL (ownD how xs xs' XS) YS i).2)) true), .gen (rowE (Ay) gy_ ky cy 3 1 (iV YS) true), .gen (rowE (Ax) gx_ kx cx 3 1 (iV XS) true), rD (A) g o n 4 (rvals xs), rD (A') g' o' n' 4 (rvals xs')] (by kernel_rfl) rfl ?_
    refine cont_fact (F := (0 < (kw + 1) → (A45 : Option Addr) = pB g45) ∧ ((ownL (fun x => keepF (docK how) xs xs' x (YS.getD i 0)) (YS.getD i 0) (YS.getD (i + 1) 0) XS k) ++ [(⟨XS.getD k 0, YS.getD i 0, XS.getD (k + 1 : Nat) 0, YS.getD (i + 1 : Nat) 0⟩ : Rect)]).length = (kw + 1) ∧ (kw + 1) ≤ cp45 ∧ cp45 ≤ maxLen) (fun w hT => Row.factsR (hT.ok 1 _ rfl)) (fun hr46_ => ?_)
    obtain ⟨hr46_a, hr46_l, hr46_c, hr46_m⟩ := hr46_
    unfold maxLen at hr46_m
    refine dNx 1 [0] (by kernel_rfl) ?_
    refine tD 1 [0] [(22, 0)] 0 [22, 21, 20, 19, 18, 17, 16, 13, 12, 11, 8, 7, 4, 3, 15, 14, 10, 9, 6, 5, 2, 1, 0] [(14, .slice A45 (kw + 1) cp45)] [] ?_
    refine drawn_done (by kernel_rfl) ?_
    refine blk_normal <| tNo <| cRg 3 rfl <| bD [0, 0] 2 1 [(72, iq (IntKind.i64.wrap ((k : Int) + 1)))] [71] ?_
    refine cRc 72 (iq (IntKind.i64.wrap ((k : Int) + 1))) (iq ((k + 1 : Nat) : Int)) rfl (by rw [show (((k + 1 : Nat) : Int)) = (k : Int) + 1 by omega]; exact wrapI (by omega) (by omega)) ?_
    refine cFg 0 rfl <| bS [0] 3 0 [(0, .slice A n cap), (1, .slice A' n' cap'), (2, iq how), (7, .slice Ax kx cx), (8, .slice Ay ky cy), (11, .slice Aq kq cq), (12, .slice Ar kr cr), (13, iq (i : Int)), (14, .slice A45 (kw + 1) cp45), (15, iq ((k + 1 : Nat) : Int)), (101, .slice (pB gw) kw cw), (102, .slice Aw kw cw), (103, iq (kw : Int)), (104, iq ((kw : Int) - 1)), (105, iq ((kw - 1 : Nat) : Int)), (106, .pointer (some ⟨gw, (kw - 1 : Nat) * 4, none⟩)), (107, .pointer (some ⟨gw, (kw - 1 : Nat) * 4 + 2, none⟩)), (108, iq ((rget (ownL (fun x => keepF (docK how) xs xs' x (YS.getD i 0)) (YS.getD i 0) (YS.getD (i + 1) 0) XS k) (kw - 1 : Nat)).x1)), (109, .slice (pB gx_) kx cx), (110, iq (k : Int)), (111, .pointer (some ⟨gx_, k, none⟩)), (112, iq (XS.getD k 0)), (113, .bool false)] ?_
    refine cDn <| tNo <| cont_rowEqR 0 ((ownL (fun x => keepF (docK how) xs xs' x (YS.getD i 0)) (YS.getD i 0) (YS.getD (i + 1) 0) XS k) ++ [(⟨XS.getD k 0, YS.getD i 0, XS.getD (k + 1 : Nat) 0, YS.getD (i + 1 : Nat) 0⟩ : Rect)]) (ownL (fun x => keepF (docK how) xs xs' x (YS.getD i 0)) (YS.getD i 0) (YS.getD (i + 1) 0) XS (k + 1)) rfl (ownL_new (f := (fun x => keepF (docK how) xs xs' x (YS.getD i 0))) hkeep_ (fun J hJ he_ => by have hJ2 : J = (kw - 1 : Nat) := (by omega); subst hJ2; exact c43_ he_)) ?_
    refine cont_again (k + 1, (kw + 1), A45, g45, cp45) (show (k + 1) ≤ XS.length - 1 ∧ ((kw + 1)) ≤ (k + 1) from ⟨by omega, by omega⟩) (show XS.length - 1 - (k + 1) < XS.length - 1 - k from by omega) (by kernel_rfl) (by kernel_rfl)
   replace c42_ := of_decide_eq_false c42_
   refine tD 0 [] [(4, 0), (5, 0), (12, 0), (13, 0), (6, 0), (14, 0), (7, 0), (15, 0), (8, 0), (9, 0), (10, 0), (11, 0), (16, 0), (17, 0)] 0 [17, 16, 11, 10, 9, 8, 15, 7, 14, 6, 13, 12, 5, 4, 3, 2, 1, 0] [(101, undef), (102, undef), (103, undef), (104, undef), (105, undef), (106, undef), (107, undef), (108, undef), (109, undef), (110, undef), (111, undef), (112, undef), (113, undef), (114, .bool false)] [] ?_
   refine drawn_done (by kernel_rfl) ?_
   refine tNo <| cFa rfl <| drawn_enter 23 [0] rfl (by kernel_rfl) ?_
   refine tK 0 [0] [(0, 0), (1, 0), (2, 0), (5, 0), (6, 0), (9, 0), (10, 0), (14, 0), (15, 0)] 14 [15, 14, 10, 9, 6, 5, 2, 1, 0] [(0, .slice A n cap), (1, .slice A' n' cap'), (2, iq how), (7, .slice Ax kx cx), (8, .slice Ay ky cy), (11, .slice Aq kq cq), (12, .slice Ar kr cr), (13, iq (i : Int)), (14, .slice Aw kw cw), (15, iq (k : Int)), (101, undef), (102, undef), (103, undef), (104, undef), (105, undef), (106, undef), (107, undef), (108, undef), (109, undef), (110, undef), (111, undef), (112, undef), (113, undef), (126, .slice Aw kw cw), (127, .slice Ax kx cx), (128, iq (k : Int)), (131, .slice Ay ky cy), (132, iq (i : Int)), (135, .slice Ax kx cx), (136, iq (k : Int)), (140, .slice Ay ky cy), (141, iq (i : Int))] ?_
   refine cRc 127 (.slice Ax kx cx) (.slice (pB gx_) kx cx) rfl (by rw [hr29_a (by omega)]) ?_
   refine sT 0 [0] 3 13 129 (Instr.indexAt 72 (.slice (pB gx_) kx cx) (iq (k : Int))) (.pointer (some ⟨gx_, k, none⟩)) (fun w hT => run_indexAt (e := 3) (sz := 1) _ (by kernel_rfl) (by kernel_rfl) (by omega) (by omega) (by omega) w) ?_
   refine sT 0 [0] 4 12 130 (Instr.loadAt 3 (.pointer (some ⟨gx_, k, none⟩))) (iq (XS.getD k 0)) (fun w hT => run_load1 (by kernel_rfl) (Row.cell (hT 4 _ rfl) (k) _ (ivals_get (by omega)))) ?_
   refine cRc 131 (.slice Ay ky cy) (.slice (pB gy_) ky cy) rfl (by rw [hr30_a (by omega)]) ?_
   refine sT 0 [0] 7 11 133 (Instr.indexAt 72 (.slice (pB gy_) ky cy) (iq (i : Int))) (.pointer (some ⟨gy_, i, none⟩)) (fun w hT => run_indexAt (e := 3) (sz := 1) _ (by kernel_rfl) (by kernel_rfl) (by omega) (by omega) (by omega) w) ?_
   refine sT 0 [0] 8 10 134 (Instr.loadAt 3 (.pointer (some ⟨gy_, i, none⟩))) (iq (YS.getD i 0)) (fun w hT => run_load1 (by kernel_rfl) (Row.cell (hT 3 _ rfl) (i) _ (ivals_get (by omega)))) ?_
   refine tK 0 [0] [(11, 0)] 9 [11, 8, 7, 4, 3, 15, 14, 10, 9, 6, 5, 2, 1, 0] [(0, .slice A n cap), (1, .slice A' n' cap'), (2, iq how), (7, .slice Ax kx cx), (8, .slice Ay ky cy), (11, .slice Aq kq cq), (12, .slice Ar kr cr), (13, iq (i : Int)), (14, .slice Aw kw cw), (15, iq (k : Int)), (101, undef), (102, undef), (103, undef), (104, undef), (105, undef), (106, undef), (107, undef), (108, undef), (109, undef), (110, undef), (111, undef), (112, undef), (113, undef), (126, .slice Aw kw cw), (130, iq (XS.getD k 0)), (134, iq (YS.getD i 0)), (135, .slice Ax kx cx), (137, iq (IntKind.i64.wrap ((k : Int) + 1))), (140, .slice Ay ky cy), (141, iq (i : Int))] ?_
   refine cRc 137 (iq (IntKind.i64.wrap ((k : Int) + 1))) (iq ((k + 1 : Nat) : Int)) rfl (by rw [show (((k + 1 : Nat) : Int)) = (k : Int) + 1 by omega]; exact wrapI (by omega) (by omega)) ?_
   refine cRc 135 (.slice Ax kx cx) (.slice (pB gx_) kx cx) rfl (by rw [hr29_a (by omega)]) ?_
   refine sT 0 [0] 12 8 138 (Instr.indexAt 72 (.slice (pB gx_) kx cx) (iq ((k + 1 : Nat) : Int))) (.pointer (some ⟨gx_, (k + 1 : Nat), none⟩)) (fun w hT => run_indexAt (e := 3) (sz := 1) _ (by kernel_rfl) (by kernel_rfl) (by omega) (by omega) (by omega) w) ?_
   refine sT 0 [0] 13 7 139 (Instr.loadAt 3 (.pointer (some ⟨gx_, (k + 1 : Nat), none⟩))) (iq (XS.getD (k + 1 : Nat) 0)) (fun w hT => run_load1 (by kernel_rfl) (Row.cell (hT 4 _ rfl) ((k + 1 : Nat)) _ (ivals_get (by omega)))) ?_
   refine tK 0 [0] [(16, 0)] 6 [16, 13, 12, 11, 8, 7, 4, 3, 15, 14, 10, 9, 6, 5, 2, 1, 0] [(0, .slice A n cap), (1, .slice A' n' cap'), (2, iq how), (7, .slice Ax kx cx), (8, .slice Ay ky cy), (11, .slice Aq kq cq), (12, .slice Ar kr cr), (13, iq (i : Int)), (14, .slice Aw kw cw), (15, iq (k : Int)), (101, undef), (102, undef), (103, undef), (104, undef), (105, undef), (106, undef), (107, undef), (108, undef), (109, undef), (110, undef), (111, undef), (112, undef), (113, undef), (126, .slice Aw kw cw), (130, iq (XS.getD k 0)), (134, iq (YS.getD i 0)), (139, iq (XS.getD (k + 1 : Nat) 0)), (140, .slice Ay ky cy), (142, iq (IntKind.i64.wrap ((i : Int) + 1)))] ?_
   refine cRc 142 (iq (IntKind.i64.wrap ((i : Int) + 1))) (iq ((i + 1 : Nat) : Int)) rfl (by rw [show (((i + 1 : Nat) : Int)) = (i : Int) + 1 by omega]; exact wrapI (by omega) (by omega)) ?_
   refine cRc 140 (.slice Ay ky cy) (.slice (pB gy_) ky cy) rfl (by rw [hr30_a (by omega)]) ?_
   refine sT 0 [0] 17 5 143 (Instr.indexAt 72 (.slice (pB gy_) ky cy) (iq ((i + 1 : Nat) : Int))) (.pointer (some ⟨gy_, (i + 1 : Nat), none⟩)) (fun w hT => run_indexAt (e := 3) (sz := 1) _ (by kernel_rfl) (by kernel_rfl) (by omega) (by omega) (by omega) w) ?_
   refine sT 0 [0] 18 4 144 (Instr.loadAt 3 (.pointer (some ⟨gy_, (i + 1 : Nat), none⟩))) (iq (YS.getD (i + 1 : Nat) 0)) (fun w hT => run_load1 (by kernel_rfl) (Row.cell (hT 3 _ rfl) ((i + 1 : Nat)) _ (ivals_get (by omega)))) ?_
   refine tK 0 [0] [(19, 0)] 3 [19, 18, 17, 16, 13, 12, 11, 8, 7, 4, 3, 15, 14, 10, 9, 6, 5, 2, 1, 0] [(0, .slice A n cap), (1, .slice A' n' cap'), (2, iq how), (7, .slice Ax kx cx), (8, .slice Ay ky cy), (11, .slice Aq kq cq), (12, .slice Ar kr cr), (13, iq (i : Int)), (14, .slice Aw kw cw), (15, iq (k : Int)), (101, undef), (102, undef), (103, undef), (104, undef), (105, undef), (106, undef), (107, undef), (108, undef), (109, undef), (110, undef), (111, undef), (112, undef), (113, undef), (126, .slice Aw kw cw), (145, .agg #[iq (XS.getD k 0), iq (YS.getD i 0), iq (XS.getD (k + 1 : Nat) 0), iq (YS.getD (i + 1 : Nat) 0)])] ?_
   refine dOn 20 2 rfl (by kernel_rfl) ?_
   refine one_step1 0 (fun b47 => [(0, .slice A n cap), (1, .slice A' n' cap'), (2, iq how), (7, .slice Ax kx cx), (8, .slice Ay ky cy), (11, .slice Aq kq cq), (12, .slice Ar kr cr), (13, iq (i : Int)), (14, .slice Aw kw cw), (15, iq (k : Int)), (101, undef), (102, undef), (103, undef), (104, undef), (105, undef), (106, undef), (107, undef), (108, undef), (109, undef), (110, undef), (111, undef), (112, undef), (113, undef), (126, .slice Aw kw cw), (146, .slice (pB b47) 1 1)]) (fun b47 => [.cells b47 [iq (XS.getD k 0), iq (YS.getD i 0), iq (XS.getD (k + 1 : Nat) 0), iq (YS.getD (i + 1 : Nat) 0)] 32 true, .gen (rowE (Aw) gw kw cw 32 4 (rvals (ownL (fun x => keepF (docK how) xs xs' x (YS.getD i 0)) (YS.getD i 0) (YS.getD (i + 1) 0) XS k)) true), .gen (rowE (Aq) gq kq cq 32 4 (rvals ((mgG touchL (ownD how xs xs' XS) YS i).1)) true), .gen (rowE (Ar) gr kr cr 32 4 (rvals ((mgG touchL (ownD how xs xs' XS) YS i).2)) true), .gen (rowE (Ay) gy_ ky cy 3 1 (iV YS) true), .gen (rowE (Ax) gx_ kx cx 3 1 (iV XS) true), rD (A) g o n 4 (rvals xs), rD (A') g' o' n' 4 (rvals xs')]) (fun b47 => by kernel_rfl) (fun b47 => by kernel_rfl) (fun b47 => ?_)
   refine dNx 1 [0] (by kernel_rfl) ?_
   refine dOn 21 1 rfl (by kernel_rfl) ?_
   refine sSW (α := Option Addr × Nat × Nat) 147 (Builtin.append_ #[23, 23] 23 #[.slice Aw kw cw, .slice (pB b47) 1 1]) (fun x_ => .slice x_.1 (kw + 1) x_.2.2) (fun x_ => [.cells b47 [iq (XS.getD k 0), iq (YS.getD i 0), iq (XS.getD (k + 1 : Nat) 0), iq (YS.getD (i + 1 : Nat) 0)] 32 true, .gen (rowE (x_.1) x_.2.1 (kw + 1) x_.2.2 32 4 (rvals ((ownL (fun x => keepF (docK how) xs xs' x (YS.getD i 0)) (YS.getD i 0) (YS.getD (i + 1) 0) XS k) ++ [(⟨XS.getD k 0, YS.getD i 0, XS.getD (k + 1 : Nat) 0, YS.getD (i + 1 : Nat) 0⟩ : Rect)])) true), .gen (rowE (Aq) gq kq cq 32 4 (rvals ((mgG touchL (ownD how xs xs' XS) YS i).1)) true), .gen (rowE (Ar) gr kr cr 32 4 (rvals ((mgG touchL (ownD how xs xs' XS) YS i).2)) true), .gen (rowE (Ay) gy_ ky cy 3 1 (iV YS) true), .gen (rowE (Ax) gx_ kx cx 3 1 (iV XS) true), rD (A) g o n 4 (rvals xs), rD (A') g' o' n' 4 (rvals xs')]) (fun _ => True) (by kernel_rfl) (fun w hT => append_own (n' := (kw + 1)) (z := .agg #[iq 0, iq 0, iq 0, iq 0]) hT (i := 1) (bytes := 32) rfl (by kernel_rfl) (by kernel_rfl) rfl (by decide) (by decide) (Rd.ofCells (vals := rvals [(⟨XS.getD k 0, YS.getD i 0, XS.getD (k + 1 : Nat) 0, YS.getD (i + 1 : Nat) 0⟩ : Rect)]) (hT.ok 0 _ rfl) rfl rfl) (rvals_one [(⟨XS.getD k 0, YS.getD i 0, XS.getD (k + 1 : Nat) 0, YS.getD (i + 1 : Nat) 0⟩ : Rect)]) (by omega) (rvals_append (ownL (fun x => keepF (docK how) xs xs' x (YS.getD i 0)) (YS.getD i 0) (YS.getD (i + 1) 0) XS k) [(⟨XS.getD k 0, YS.getD i 0, XS.getD (k + 1 : Nat) 0, YS.getD (i + 1 : Nat) 0⟩ : Rect)]) rfl) ?_
   rintro ⟨A48, g48, cp48⟩ -
   refine cont_norm [(0, .slice A n cap), (1, .slice A' n' cap'), (2, iq how), (7, .slice Ax kx cx), (8, .slice Ay ky cy), (11, .slice Aq kq cq), (12, .slice Ar kr cr), (13, iq (i : Int)), (14, .slice Aw kw cw), (15, iq (k : Int)), (101, undef), (102, undef), (103, undef), (104, undef), (105, undef), (106, undef), (107, undef), (108, undef), (109, undef), (110, undef), (111, undef), (112, undef), (113, undef), (126, .slice Aw kw cw), (146, .slice (pB b47) 1 1), (147, .slice A48 (kw + 1) cp48)] [.cells b47 [iq (XS.getD k 0), iq (YS.getD i 0), iq (XS.getD (k + 1 : Nat) 0), iq (YS.getD (i + 1 : Nat) 0)] 32 true, .gen (rowE (A48) g48 (kw + 1) cp48 32 4 (rvals ((ownL (fun x => keepF (docK how) xs xs' x (YS.getD i 0)) (YS.getD i 0) (YS.getD (i + 1) 0) XS k) ++ [(⟨XS.getD k 0, YS.getD i 0, XS.getD (k + 1 : Nat) 0, YS.getD (i + 1 : Nat) 0⟩ : Rect)])) true), .gen (rowE (Aq) gq kq cq 32 4 (rvals ((mgG touchL (ownD how xs xs' XS) YS i).1)) true), .gen (rowE (Ar) gr kr cr 32 4 (rvals ((mgG touchL (ownD how xs xs' XS) YS i).2)) true), .gen (rowE (Ay) gy_ ky cy 3 1 (iV YS) true), .gen (rowE (Ax) gx_ kx cx 3 1 (iV XS) true), rD (A) g o n 4 (rvals xs), rD (A') g' o' n' 4 (rvals xs')] (by kernel_rfl) rfl ?_
   refine cont_fact (F := (0 < (kw + 1) → (A48 : Option Addr) = pB g48) ∧ ((ownL (fun x => keepF (docK how) xs xs' x (YS.getD i 0)) (YS.getD i 0) (YS.getD (i + 1) 0) XS k) ++ [(⟨XS.getD k 0, YS.getD i 0, XS.getD (k + 1 : Nat) 0, YS.getD (i + 1 : Nat) 0⟩ : Rect)]).length = (kw + 1) ∧ (kw + 1) ≤ cp48 ∧ cp48 ≤ maxLen) (fun w hT => Row.factsR (hT.ok 1 _ rfl)) (fun hr49_ => ?_)
   obtain ⟨hr49_a, hr49_l, hr49_c, hr49_m⟩ := hr49_
   unfold maxLen at hr49_m
   refine dNx 1 [0] (by kernel_rfl) ?_
   refine tD 1 [0] [(22, 0)] 0 [22, 21, 20, 19, 18, 17, 16, 13, 12, 11, 8, 7, 4, 3, 15, 14, 10, 9, 6, 5, 2, 1, 0] [(14, .slice A48 (kw + 1) cp48)] [] ?_
   refine drawn_done (by kernel_rfl) ?_
   refine blk_normal <| tNo <| cRg 3 rfl <| bD [0, 0] 2 1 [(72, iq (IntKind.i64.wrap ((k : Int) + 1)))] [71] ?_
   refine cRc 72 (iq (IntKind.i64.wrap ((k : Int) + 1))) (iq ((k + 1 : Nat) : Int)) rfl (by rw [show (((k + 1 : Nat) : Int)) = (k : Int) + 1 by omega]; exact wrapI (by omega) (by omega)) ?_
   refine cFg 0 rfl <| bS [0] 3 0 [(0, .slice A n cap), (1, .slice A' n' cap'), (2, iq how), (7, .slice Ax kx cx), (8, .slice Ay ky cy), (11, .slice Aq kq cq), (12, .slice Ar kr cr), (13, iq (i : Int)), (14, .slice A48 (kw + 1) cp48), (15, iq ((k + 1 : Nat) : Int)), (101, undef), (102, undef), (103, undef), (104, undef), (105, undef), (106, undef), (107, undef), (108, undef), (109, undef), (110, undef), (111, undef), (112, undef), (113, undef)] ?_
   refine cDn <| tNo <| cont_rowEqR 0 ((ownL (fun x => keepF (docK how) xs xs' x (YS.getD i 0)) (YS.getD i 0) (YS.getD (i + 1) 0) XS k) ++ [(⟨XS.getD k 0, YS.getD i 0, XS.getD (k + 1 : Nat) 0, YS.getD (i + 1 : Nat) 0⟩ : Rect)]) (ownL (fun x => keepF (docK how) xs xs' x (YS.getD i 0)) (YS.getD i 0) (YS.getD (i + 1) 0) XS (k + 1)) rfl (ownL_new (f := (fun x => keepF (docK how) xs xs' x (YS.getD i 0))) hkeep_ (fun J hJ he_ => by omega)) ?_
   refine cont_again (k + 1, (kw + 1), A48, g48, cp48) (show (k + 1) ≤ XS.length - 1 ∧ ((kw + 1)) ≤ (k + 1) from ⟨by omega, by omega⟩) (show XS.length - 1 - (k + 1) < XS.length - 1 - k from by omega) (by kernel_rfl) (by kernel_rfl)
  replace c39_ := of_decide_eq_false c39_
  refine cFa rfl <| cont_exit <| then_exit <| then_exit <| blk_exit <| tNo <| cSq <| cont_rowEqR 0 (ownL (fun x => keepF (docK how) xs xs' x (YS.getD i 0)) (YS.getD i 0) (YS.getD (i + 1) 0) XS k) (ownD how xs xs' XS (YS.getD i 0) (YS.getD (i + 1) 0)) rfl (by unfold ownD; rw [show k = XS.length - 1 by omega]) ?_
  refine cont_fact (F := (0 < kw → (Aw : Option Addr) = pB gw) ∧ (ownD how xs xs' XS (YS.getD i 0) (YS.getD (i + 1) 0)).length = kw ∧ kw ≤ cw ∧ cw ≤ maxLen) (fun w hT => Row.factsR (hT.ok 0 _ rfl)) (fun hr50_ => ?_)
  obtain ⟨hr50_a, hr50_l, hr50_c, hr50_m⟩ := hr50_
  unfold maxLen at hr50_m
  refine drawn_enter 20 [] rfl (by kernel_rfl) ?_
  refine tD 0 [] [(0, 0), (1, 0), (2, 0), (3, 0)] 16 [3, 2, 1, 0] [(151, .bool (decide ((kr : Int) > 0)))] [148, 149, 150] ?_
  refine cSp 151 (decide ((kr : Int) > 0)) rfl (fun c51_ => ?_) (fun c51_ => ?_)
  ·
   replace c51_ := of_decide_eq_true c51_
   refine tD 0 [] [(4, 0), (5, 0), (13, 0), (14, 0), (6, 0)] 11 [6, 14, 13, 5, 4, 3, 2, 1, 0] [(152, .slice Ar kr cr), (153, .slice Ar kr cr), (154, iq (kr : Int)), (161, .slice Ay ky cy), (162, iq (i : Int))] [] ?_
   refine tK 0 [] [(7, 0)] 10 [7, 6, 14, 13, 5, 4, 3, 2, 1, 0] [(0, .slice A n cap), (1, .slice A' n' cap'), (2, iq how), (7, .slice Ax kx cx), (8, .slice Ay ky cy), (11, .slice Aq kq cq), (12, .slice Ar kr cr), (13, iq (i : Int)), (14, .slice Aw kw cw), (151, .bool true), (152, .slice Ar kr cr), (153, .slice Ar kr cr), (154, iq (kr : Int)), (155, iq (IntKind.i64.wrap ((kr : Int) - 1))), (161, .slice Ay ky cy), (162, iq (i : Int))] ?_
   refine cRc 155 (iq (IntKind.i64.wrap ((kr : Int) - 1))) (iq ((kr : Int) - 1)) rfl (wrapI (by omega) (by omega)) ?_
   refine tK 0 [] [(8, 0)] 9 [8, 7, 6, 14, 13, 5, 4, 3, 2, 1, 0] [(0, .slice A n cap), (1, .slice A' n' cap'), (2, iq how), (7, .slice Ax kx cx), (8, .slice Ay ky cy), (11, .slice Aq kq cq), (12, .slice Ar kr cr), (13, iq (i : Int)), (14, .slice Aw kw cw), (151, .bool true), (152, .slice Ar kr cr), (153, .slice Ar kr cr), (154, iq (kr : Int)), (155, iq ((kr : Int) - 1)), (156, iq (mn 0 ((kr : Int) - 1))), (161, .slice Ay ky cy), (162, iq (i : Int))] ?_
   refine tK 0 [] [(9, 0)] 8 [9, 8, 7, 6, 14, 13, 5, 4, 3, 2, 1, 0] [(0, .slice A n cap), (1, .slice A' n' cap'), (2, iq how), (7, .slice Ax kx cx), (8, .slice Ay ky cy), (11, .slice Aq kq cq), (12, .slice Ar kr cr), (13, iq (i : Int)), (14, .slice Aw kw cw), (151, .bool true), (152, .slice Ar kr cr), (153, .slice Ar kr cr), (154, iq (kr : Int)), (155, iq ((kr : Int) - 1)), (156, iq (mn 0 ((kr : Int) - 1))), (157, iq (mx (mn 0 ((kr : Int) - 1)) 0)), (161, .slice Ay ky cy), (162, iq (i : Int))] ?_
   refine cRc 157 (iq (mx (mn 0 ((kr : Int) - 1)) 0)) (iq 0) rfl (congrArg (Value.int .i64) (by unfold mx mn; omega)) ?_
   refine cRc 152 (.slice Ar kr cr) (.slice (pB gr) kr cr) rfl (by rw [hr36_a (by omega)]) ?_
   refine sT 0 [] 10 7 158 (Instr.indexAt 23 (.slice (pB gr) kr cr) (iq 0)) (.pointer (some ⟨gr, 0 * 4, none⟩)) (fun w hT => run_indexAt (e := 32) (sz := 4) _ (by kernel_rfl) (by kernel_rfl) (by omega) (by omega) (by omega) w) ?_
   refine tK 0 [] [(11, 0)] 6 [11, 10, 9, 8, 7, 6, 14, 13, 5, 4, 3, 2, 1, 0] [(0, .slice A n cap), (1, .slice A' n' cap'), (2, iq how), (7, .slice Ax kx cx), (8, .slice Ay ky cy), (11, .slice Aq kq cq), (12, .slice Ar kr cr), (13, iq (i : Int)), (14, .slice Aw kw cw), (151, .bool true), (152, .slice (pB gr) kr cr), (153, .slice Ar kr cr), (154, iq (kr : Int)), (155, iq ((kr : Int) - 1)), (156, iq (mn 0 ((kr : Int) - 1))), (157, iq 0), (158, .pointer (some ⟨gr, 0 * 4, none⟩)), (159, .pointer (some ⟨gr, 0 * 4 + 3, none⟩)), (161, .slice Ay ky cy), (162, iq (i : Int))] ?_
   refine sT 0 [] 12 5 160 (Instr.loadAt 3 (.pointer (some ⟨gr, 0 * 4 + 3, none⟩))) (iq ((rget ((mgG touchL (ownD how xs xs' XS) YS i).2) 0).y1)) (fun w hT => run_load1 (by kernel_rfl) (Rd.cellF0 (Row.rd (hT 2 _ rfl)) 0 3 _ (by omega) rfl)) ?_
   refine cRc 161 (.slice Ay ky cy) (.slice (pB gy_) ky cy) rfl (by rw [hr30_a (by omega)]) ?_
   refine sT 0 [] 15 4 163 (Instr.indexAt 72 (.slice (pB gy_) ky cy) (iq (i : Int))) (.pointer (some ⟨gy_, i, none⟩)) (fun w hT => run_indexAt (e := 3) (sz := 1) _ (by kernel_rfl) (by kernel_rfl) (by omega) (by omega) (by omega) w) ?_
   refine sT 0 [] 16 3 164 (Instr.loadAt 3 (.pointer (some ⟨gy_, i, none⟩))) (iq (YS.getD i 0)) (fun w hT => run_load1 (by kernel_rfl) (Row.cell (hT 3 _ rfl) (i) _ (ivals_get (by omega)))) ?_
   refine tK 0 [] [(17, 0), (18, 0), (19, 0)] 0 [19, 18, 17, 16, 15, 12, 11, 10, 9, 8, 7, 6, 14, 13, 5, 4, 3, 2, 1, 0] [(0, .slice A n cap), (1, .slice A' n' cap'), (2, iq how), (7, .slice Ax kx cx), (8, .slice Ay ky cy), (11, .slice Aq kq cq), (12, .slice Ar kr cr), (13, iq (i : Int)), (14, .slice Aw kw cw), (17, .bool (((rget ((mgG touchL (ownD how xs xs' XS) YS i).2) 0).y1) == (YS.getD i 0))), (152, .slice (pB gr) kr cr), (153, .slice Ar kr cr), (154, iq (kr : Int)), (155, iq ((kr : Int) - 1)), (156, iq (mn 0 ((kr : Int) - 1))), (157, iq 0), (158, .pointer (some ⟨gr, 0 * 4, none⟩)), (159, .pointer (some ⟨gr, 0 * 4 + 3, none⟩)), (160, iq ((rget ((mgG touchL (ownD how xs xs' XS) YS i).2) 0).y1)), (161, .slice (pB gy_) ky cy), (162, iq (i : Int)), (163, .pointer (some ⟨gy_, i, none⟩)), (164, iq (YS.getD i 0)), (165, .bool (((rget ((mgG touchL (ownD how xs xs' XS) YS i).2) 0).y1) == (YS.getD i 0)))] ?_
   refine drawn_done (by kernel_rfl) ?_
   refine tNo <| cSq <| cSq <| cRg 6 rfl <| bS [0, 0] 2 4 [(0, .slice A n cap), (1, .slice A' n' cap'), (2, iq how), (7, .slice Ax kx cx), (8, .slice Ay ky cy), (11, .slice Aq kq cq), (12, .slice Ar kr cr), (13, iq (i : Int)), (14, .slice Aw kw cw), (152, .slice (pB gr) kr cr), (153, .slice Ar kr cr), (154, iq (kr : Int)), (155, iq ((kr : Int) - 1)), (156, iq (mn 0 ((kr : Int) - 1))), (157, iq 0), (158, .pointer (some ⟨gr, 0 * 4, none⟩)), (159, .pointer (some ⟨gr, 0 * 4 + 3, none⟩)), (160, iq ((rget ((mgG touchL (ownD how xs xs' XS) YS i).2) 0).y1)), (161, .slice (pB gy_) ky cy), (162, iq (i : Int)), (163, .pointer (some ⟨gy_, i, none⟩)), (164, iq (YS.getD i 0)), (165, .bool (((rget ((mgG touchL (ownD how xs xs' XS) YS i).2) 0).y1) == (YS.getD i 0))), (168, .bool (((rget ((mgG touchL (ownD how xs xs' XS) YS i).2) 0).y1) == (YS.getD i 0)))] ?_
   refine cSp 168 (((rget ((mgG touchL (ownD how xs xs' XS) YS i).2) 0).y1) == (YS.getD i 0)) rfl (fun c52_ => ?_) (fun c52_ => ?_)
   ·
    refine cRc 165 (.bool (((rget ((mgG touchL (ownD how xs xs' XS) YS i).2) 0).y1) == (YS.getD i 0))) (.bool true) rfl (congrArg Value.bool c52_) ?_
    replace c52_ := eq_of_beqt c52_
    refine bD [0, 0] 4 2 [(169, .slice Ar kr cr), (170, .slice Aw kw cw)] [] ?_
    refine pSt 5 1 rfl rfl <| call_pure (d := 171) (.bool (eqF span1 ((mgG touchL (ownD how xs xs' XS) YS i).2) (ownD how xs xs' XS (YS.getD i 0) (YS.getD (i + 1) 0)))) (by kernel_rfl) (fun w hT => refSpans Ar gr 0 kr cr ((mgG touchL (ownD how xs xs' XS) YS i).2) Aw gw 0 kw cw (ownD how xs xs' XS (YS.getD i 0) (YS.getD (i + 1) 0)) w (hT.viewRo (.cons (i := 2) rfl Vw.rowRd (.cons (i := 0) rfl Vw.rowRd .nil)) rfl) (by omega)) ?_
    refine bD [0] 6 0 [(172, .bool (eqF span1 ((mgG touchL (ownD how xs xs' XS) YS i).2) (ownD how xs xs' XS (YS.getD i 0) (YS.getD (i + 1) 0))))] [] ?_
    refine cDn <| tNo ?_
    refine cSp 172 (eqF span1 ((mgG touchL (ownD how xs xs' XS) YS i).2) (ownD how xs xs' XS (YS.getD i 0) (YS.getD (i + 1) 0))) rfl (fun c53_ => ?_) (fun c53_ => ?_)
    ·
     refine cRc 171 (.bool (eqF span1 ((mgG touchL (ownD how xs xs' XS) YS i).2) (ownD how xs xs' XS (YS.getD i 0) (YS.getD (i + 1) 0)))) (.bool true) rfl (congrArg Value.bool c53_) ?_
     refine cTr rfl <| cSq <| cSq <| cRg 1 rfl ?_
     have hal_ : touchL (mgG touchL (ownD how xs xs' XS) YS i).2 (ownD how xs xs' XS (YS.getD i 0) (YS.getD (i + 1) 0)) (YS.getD i 0) = true := touchL_true (by omega) ‹_› ‹_›
     refine bS [0] 1 0 [(0, .slice A n cap), (1, .slice A' n' cap'), (2, iq how), (7, .slice Ax kx cx), (8, .slice Ay ky cy), (11, .slice Aq kq cq), (12, .slice Ar kr cr), (13, iq (i : Int)), (18, iq 0), (152, .slice (pB gr) kr cr), (153, .slice Ar kr cr), (154, iq (kr : Int)), (155, iq ((kr : Int) - 1)), (156, iq (mn 0 ((kr : Int) - 1))), (157, iq 0), (158, .pointer (some ⟨gr, 0 * 4, none⟩)), (159, .pointer (some ⟨gr, 0 * 4 + 3, none⟩)), (160, iq ((rget ((mgG touchL (ownD how xs xs' XS) YS i).2) 0).y1)), (161, .slice (pB gy_) ky cy), (162, iq (i : Int)), (163, .pointer (some ⟨gy_, i, none⟩)), (164, iq (YS.getD i 0)), (165, .bool true), (169, .slice Ar kr cr), (170, .slice Aw kw cw), (171, .bool true)] ?_
     refine cDn <| tNo <| cont_block <| cont_rowEqR 2 ((mgG touchL (ownD how xs xs' XS) YS i).2) (setY1 (YS.getD (i + 1) 0) ((mgG touchL (ownD how xs xs' XS) YS i).2.take 0) ++ (mgG touchL (ownD how xs xs' XS) YS i).2.drop 0) rfl setY1_zero ?_
     refine cont_loop (α := Nat) (fun x_ : Nat => x_ ≤ kr) (fun x_ : Nat => [(0, .slice A n cap), (1, .slice A' n' cap'), (2, iq how), (7, .slice Ax kx cx), (8, .slice Ay ky cy), (11, .slice Aq kq cq), (12, .slice Ar kr cr), (13, iq (i : Int)), (18, iq (x_ : Int)), (152, .slice (pB gr) kr cr), (153, .slice Ar kr cr), (154, iq (kr : Int)), (155, iq ((kr : Int) - 1)), (156, iq (mn 0 ((kr : Int) - 1))), (157, iq 0), (158, .pointer (some ⟨gr, 0 * 4, none⟩)), (159, .pointer (some ⟨gr, 0 * 4 + 3, none⟩)), (160, iq ((rget ((mgG touchL (ownD how xs xs' XS) YS i).2) 0).y1)), (161, .slice (pB gy_) ky cy), (162, iq (i : Int)), (163, .pointer (some ⟨gy_, i, none⟩)), (164, iq (YS.getD i 0)), (165, .bool true), (169, .slice Ar kr cr), (170, .slice Aw kw cw), (171, .bool true)]) (fun x_ : Nat => [.gen (rowE (Aw) gw kw cw 32 4 (rvals (ownD how xs xs' XS (YS.getD i 0) (YS.getD (i + 1) 0))) true), .gen (rowE (Aq) gq kq cq 32 4 (rvals ((mgG touchL (ownD how xs xs' XS) YS i).1)) true), .gen (rowE (Ar) gr kr cr 32 4 (rvals (setY1 (YS.getD (i + 1) 0) ((mgG touchL (ownD how xs xs' XS) YS i).2.take x_) ++ (mgG touchL (ownD how xs xs' XS) YS i).2.drop x_)) true), .gen (rowE (Ay) gy_ ky cy 3 1 (iV YS) true), .gen (rowE (Ax) gx_ kx cx 3 1 (iV XS) true), rD (A) g o n 4 (rvals xs), rD (A') g' o' n' 4 (rvals xs')]) (fun x_ : Nat => kr - x_) 0 (by omega) (by kernel_rfl) (by kernel_rfl) ?_
     rintro j hinv54_
     replace hinv54_ : j ≤ kr := hinv54_
     refine cN [.gen (rowE (Aw) gw kw cw 32 4 (rvals (ownD how xs xs' XS (YS.getD i 0) (YS.getD (i + 1) 0))) true), .gen (rowE (Aq) gq kq cq 32 4 (rvals ((mgG touchL (ownD how xs xs' XS) YS i).1)) true), .gen (rowE (Ar) gr kr cr 32 4 (rvals (setY1 (YS.getD (i + 1) 0) ((mgG touchL (ownD how xs xs' XS) YS i).2.take j) ++ (mgG touchL (ownD how xs xs' XS) YS i).2.drop j)) true), .gen (rowE (Ay) gy_ ky cy 3 1 (iV YS) true), .gen (rowE (Ax) gx_ kx cx 3 1 (iV XS) true), rD (A) g o n 4 (rvals xs), rD (A') g' o' n' 4 (rvals xs')] ?_
     have hj := hinv54_
     refine cSq <| cSq <| cRg 4 rfl <| bD [0, 0, 0, 0] 4 0 [(176, .bool (decide ((j : Int) < (kr : Int))))] [173, 174, 175] ?_
     refine cDn <| tNo ?_
     refine cSp 176 (decide ((j : Int) < (kr : Int))) rfl (fun c55_ => ?_) (fun c55_ => ?_)
     ·
      replace c55_ := of_decide_eq_true c55_
      refine cTr rfl <| cont_skip <| tNo <| cSq <| cont_block <| cRg 10 rfl ?_
      refine cont_fact (F := (0 < kr → (Ar : Option Addr) = pB gr) ∧ (setY1 (YS.getD (i + 1) 0) ((mgG touchL (ownD how xs xs' XS) YS i).2.take j) ++ (mgG touchL (ownD how xs xs' XS) YS i).2.drop j).length = kr ∧ kr ≤ cr ∧ cr ≤ maxLen) (fun w hT => Row.factsR (hT.ok 2 _ rfl)) (fun hr56_ => ?_)
      obtain ⟨hr56_a, hr56_l, hr56_c, hr56_m⟩ := hr56_
      unfold maxLen at hr56_m
      refine bS [0, 0, 0, 0, 0] 5 5 [(0, .slice A n cap), (1, .slice A' n' cap'), (2, iq how), (7, .slice Ax kx cx), (8, .slice Ay ky cy), (11, .slice Aq kq cq), (12, .slice Ar kr cr), (13, iq (i : Int)), (18, iq (j : Int)), (152, .slice (pB gr) kr cr), (153, .slice Ar kr cr), (154, iq (kr : Int)), (155, iq ((kr : Int) - 1)), (156, iq (mn 0 ((kr : Int) - 1))), (157, iq 0), (158, .pointer (some ⟨gr, 0 * 4, none⟩)), (159, .pointer (some ⟨gr, 0 * 4 + 3, none⟩)), (160, iq ((rget ((mgG touchL (ownD how xs xs' XS) YS i).2) 0).y1)), (161, .slice (pB gy_) ky cy), (162, iq (i : Int)), (163, .pointer (some ⟨gy_, i, none⟩)), (164, iq (YS.getD i 0)), (165, .bool true), (169, .slice Ar kr cr), (170, .slice Aw kw cw), (171, .bool true), (179, .slice Ar kr cr), (180, iq (j : Int)), (181, .slice Ay ky cy), (183, iq (IntKind.i64.wrap ((i : Int) + 1)))] ?_
      refine cRc 183 (iq (IntKind.i64.wrap ((i : Int) + 1))) (iq ((i + 1 : Nat) : Int)) rfl (by rw [show (((i + 1 : Nat) : Int)) = (i : Int) + 1 by omega]; exact wrapI (by omega) (by omega)) ?_
      refine pSt 6 4 rfl rfl <| cRc 181 (.slice Ay ky cy) (.slice (pB gy_) ky cy) rfl (by rw [hr30_a (by omega)]) ?_
      refine sem_step 184 (Instr.indexAt 72 (.slice (pB gy_) ky cy) (iq ((i + 1 : Nat) : Int))) (.pointer (some ⟨gy_, (i + 1 : Nat), none⟩)) (by kernel_rfl) (fun w hT => run_indexAt (e := 3) (sz := 1) _ (by kernel_rfl) (by kernel_rfl) (by omega) (by omega) (by omega) w) ?_
      refine pSt 7 3 rfl rfl <| sem_step 185 (Instr.loadAt 3 (.pointer (some ⟨gy_, (i + 1 : Nat), none⟩))) (iq (YS.getD (i + 1 : Nat) 0)) (by kernel_rfl) (fun w hT => run_load1 (by kernel_rfl) (Row.cell (hT.ok 3 _ rfl) ((i + 1 : Nat)) _ (ivals_get (by omega)))) ?_
      refine pSt 8 2 rfl rfl <| cRc 179 (.slice Ar kr cr) (.slice (pB gr) kr cr) rfl (by rw [hr56_a (by omega)]) ?_
      refine sem_step 186 (Instr.indexAt 23 (.slice (pB gr) kr cr) (iq (j : Int))) (.pointer (some ⟨gr, j * 4, none⟩)) (by kernel_rfl) (fun w hT => run_indexAt (e := 32) (sz := 4) _ (by kernel_rfl) (by kernel_rfl) (by omega) (by omega) (by omega) w) ?_
      refine bD [0] 9 1 [(187, .pointer (some ⟨gr, j * 4 + 3, none⟩))] [] ?_
      refine pSt 10 0 rfl rfl ?_
      refine sem_stepU (Instr.storeAt 3 (.pointer (some ⟨gr, j * 4 + 3, none⟩)) (iq (YS.getD (i + 1 : Nat) 0))) (fun _ => [.gen (rowE (Aw) gw kw cw 32 4 (rvals (ownD how xs xs' XS (YS.getD i 0) (YS.getD (i + 1) 0))) true), .gen (rowE (Aq) gq kq cq 32 4 (rvals ((mgG touchL (ownD how xs xs' XS) YS i).1)) true), .gen (rowE (Ar) gr kr cr 32 4 (rvals ((setY1 (YS.getD (i + 1) 0) ((mgG touchL (ownD how xs xs' XS) YS i).2.take j) ++ (mgG touchL (ownD how xs xs' XS) YS i).2.drop j).set j { rget (setY1 (YS.getD (i + 1) 0) ((mgG touchL (ownD how xs xs' XS) YS i).2.take j) ++ (mgG touchL (ownD how xs xs' XS) YS i).2.drop j) j with y1 := YS.getD (i + 1 : Nat) 0 })) true), .gen (rowE (Ay) gy_ ky cy 3 1 (iV YS) true), .gen (rowE (Ax) gx_ kx cx 3 1 (iV XS) true), rD (A) g o n 4 (rvals xs), rD (A') g' o' n' 4 (rvals xs')]) (fun _ => True) (by kernel_rfl) (fun w hT => store_fieldR hT (i := 2) (J := j) (k := 3) { rget (setY1 (YS.getD (i + 1) 0) ((mgG touchL (ownD how xs xs' XS) YS i).2.take j) ++ (mgG touchL (ownD how xs xs' XS) YS i).2.drop j) j with y1 := YS.getD (i + 1 : Nat) 0 } rfl (by kernel_rfl) (by omega) (by decide) (by omega) rfl) (fun _ _ => ?_)
      refine cDn <| blk_normal <| tNo <| cRg 3 rfl <| bD [0, 0] 2 1 [(178, iq (IntKind.i64.wrap ((j : Int) + 1)))] [177] ?_
      refine cRc 178 (iq (IntKind.i64.wrap ((j : Int) + 1))) (iq ((j : Int) + 1)) rfl (wrapI (by omega) (by omega)) ?_
      refine bS [0] 3 0 [(0, .slice A n cap), (1, .slice A' n' cap'), (2, iq how), (7, .slice Ax kx cx), (8, .slice Ay ky cy), (11, .slice Aq kq cq), (12, .slice Ar kr cr), (13, iq (i : Int)), (18, iq ((j : Int) + 1)), (152, .slice (pB gr) kr cr), (153, .slice Ar kr cr), (154, iq (kr : Int)), (155, iq ((kr : Int) - 1)), (156, iq (mn 0 ((kr : Int) - 1))), (157, iq 0), (158, .pointer (some ⟨gr, 0 * 4, none⟩)), (159, .pointer (some ⟨gr, 0 * 4 + 3, none⟩)), (160, iq ((rget ((mgG touchL (ownD how xs xs' XS) YS i).2) 0).y1)), (161, .slice (pB gy_) ky cy), (162, iq (i : Int)), (163, .pointer (some ⟨gy_, i, none⟩)), (164, iq (YS.getD i 0)), (165, .bool true), (169, .slice Ar kr cr), (170, .slice Aw kw cw), (171, .bool true)] ?_
      refine cDn <| tNo <| cont_rowEqR 2 ((setY1 (YS.getD (i + 1) 0) ((mgG touchL (ownD how xs xs' XS) YS i).2.take j) ++ (mgG touchL (ownD how xs xs' XS) YS i).2.drop j).set j { rget (setY1 (YS.getD (i + 1) 0) ((mgG touchL (ownD how xs xs' XS) YS i).2.take j) ++ (mgG touchL (ownD how xs xs' XS) YS i).2.drop j) j with y1 := YS.getD (i + 1 : Nat) 0 }) (setY1 (YS.getD (i + 1) 0) ((mgG touchL (ownD how xs xs' XS) YS i).2.take (j + 1)) ++ (mgG touchL (ownD how xs xs' XS) YS i).2.drop (j + 1)) rfl (setY1_step (by omega)) ?_
      refine cont_again (j + 1) (show (j + 1) ≤ kr from (by omega)) (show kr - (j + 1) < kr - j from by omega) (by kernel_rfl) (by kernel_rfl)
     replace c55_ := of_decide_eq_false c55_
     refine cFa rfl <| cont_exit <| then_exit <| then_exit <| blk_exit <| tNo <| cont_exit <| then_exit <| blk_exit <| tNo <| cRg 3 rfl <| cont_rowEqR 2 (setY1 (YS.getD (i + 1) 0) ((mgG touchL (ownD how xs xs' XS) YS i).2.take j) ++ (mgG touchL (ownD how xs xs' XS) YS i).2.drop j) (setY1 (YS.getD (i + 1) 0) (mgG touchL (ownD how xs xs' XS) YS i).2) rfl (setY1_done (by omega)) ?_
     refine cont_pick [1, 2, 3, 4, 5, 6] [.gen (rowE (Aq) gq kq cq 32 4 (rvals ((mgG touchL (ownD how xs xs' XS) YS i).1)) true), .gen (rowE (Ar) gr kr cr 32 4 (rvals (setY1 (YS.getD (i + 1) 0) (mgG touchL (ownD how xs xs' XS) YS i).2)) true), .gen (rowE (Ay) gy_ ky cy 3 1 (iV YS) true), .gen (rowE (Ax) gx_ kx cx 3 1 (iV XS) true), rD (A) g o n 4 (rvals xs), rD (A') g' o' n' 4 (rvals xs')] (by decide) rfl rfl ?_
     refine bS [0, 0] 2 1 [(0, .slice A n cap), (1, .slice A' n' cap'), (2, iq how), (7, .slice Ax kx cx), (8, .slice Ay ky cy), (11, .slice Aq kq cq), (12, .slice Ar kr cr), (65, iq (IntKind.i64.wrap ((i : Int) + 1))), (152, .slice (pB gr) kr cr), (153, .slice Ar kr cr), (154, iq (kr : Int)), (155, iq ((kr : Int) - 1)), (156, iq (mn 0 ((kr : Int) - 1))), (157, iq 0), (158, .pointer (some ⟨gr, 0 * 4, none⟩)), (159, .pointer (some ⟨gr, 0 * 4 + 3, none⟩)), (160, iq ((rget ((mgG touchL (ownD how xs xs' XS) YS i).2) 0).y1)), (161, .slice (pB gy_) ky cy), (162, iq (i : Int)), (163, .pointer (some ⟨gy_, i, none⟩)), (164, iq (YS.getD i 0)), (165, .bool true), (169, .slice Ar kr cr), (170, .slice Aw kw cw), (171, .bool true)] ?_
     refine cRc 65 (iq (IntKind.i64.wrap ((i : Int) + 1))) (iq ((i + 1 : Nat) : Int)) rfl (by rw [show (((i + 1 : Nat) : Int)) = (i : Int) + 1 by omega]; exact wrapI (by omega) (by omega)) ?_
     refine bD [0] 3 0 [(13, iq ((i + 1 : Nat) : Int))] [] ?_
     refine cDn <| tNo ?_
     have hst_ := mgG_on (al := touchL) (own := (ownD how xs xs' XS)) (ys := YS) (i := i) hal_
     refine cont_rowEqR 0 ((mgG touchL (ownD how xs xs' XS) YS i).1) ((mgG touchL (ownD how xs xs' XS) YS (i + 1)).1) rfl hst_.1 ?_
     refine cont_rowEqR 1 (setY1 (YS.getD (i + 1) 0) (mgG touchL (ownD how xs xs' XS) YS i).2) ((mgG touchL (ownD how xs xs' XS) YS (i + 1)).2) rfl hst_.2 ?_
     refine cont_again (i + 1, kq, Aq, gq, cq, kr, Ar, gr, cr) (show (i + 1) ≤ YS.length - 1 from (by omega)) (show YS.length - 1 - (i + 1) < YS.length - 1 - i from by omega) (by kernel_rfl) (by kernel_rfl)
    refine cRc 171 (.bool (eqF span1 ((mgG touchL (ownD how xs xs' XS) YS i).2) (ownD how xs xs' XS (YS.getD i 0) (YS.getD (i + 1) 0)))) (.bool false) rfl (congrArg Value.bool c53_) ?_
    refine cFa rfl <| cont_skip <| tNo <| cSq <| cRg 4 rfl ?_
    have hal_ : touchL (mgG touchL (ownD how xs xs' XS) YS i).2 (ownD how xs xs' XS (YS.getD i 0) (YS.getD (i + 1) 0)) (YS.getD i 0) = false := by first | exact touchL_no0 (by omega) | exact touchL_no1 ‹_› | exact touchL_no2 ‹_›
    refine bS [0, 0] 2 2 [(0, .slice A n cap), (1, .slice A' n' cap'), (2, iq how), (7, .slice Ax kx cx), (8, .slice Ay ky cy), (13, iq (i : Int)), (14, .slice Aw kw cw), (152, .slice (pB gr) kr cr), (153, .slice Ar kr cr), (154, iq (kr : Int)), (155, iq ((kr : Int) - 1)), (156, iq (mn 0 ((kr : Int) - 1))), (157, iq 0), (158, .pointer (some ⟨gr, 0 * 4, none⟩)), (159, .pointer (some ⟨gr, 0 * 4 + 3, none⟩)), (160, iq ((rget ((mgG touchL (ownD how xs xs' XS) YS i).2) 0).y1)), (161, .slice (pB gy_) ky cy), (162, iq (i : Int)), (163, .pointer (some ⟨gy_, i, none⟩)), (164, iq (YS.getD i 0)), (165, .bool true), (169, .slice Ar kr cr), (170, .slice Aw kw cw), (171, .bool false), (188, .slice Aq kq cq), (189, .slice Ar kr cr)] ?_
    refine pSt 3 1 rfl rfl <| sSW (α := Option Addr × Nat × Nat) 190 (Builtin.append_ #[23, 23] 23 #[.slice Aq kq cq, .slice Ar kr cr]) (fun x_ => .slice x_.1 (kq + kr) x_.2.2) (fun x_ => [.gen (rowE (Aw) gw kw cw 32 4 (rvals (ownD how xs xs' XS (YS.getD i 0) (YS.getD (i + 1) 0))) true), .gen (rowE (x_.1) x_.2.1 (kq + kr) x_.2.2 32 4 (rvals (((mgG touchL (ownD how xs xs' XS) YS i).1) ++ ((mgG touchL (ownD how xs xs' XS) YS i).2))) true), .gen (rowE (Ar) gr kr cr 32 4 (rvals ((mgG touchL (ownD how xs xs' XS) YS i).2)) true), .gen (rowE (Ay) gy_ ky cy 3 1 (iV YS) true), .gen (rowE (Ax) gx_ kx cx 3 1 (iV XS) true), rD (A) g o n 4 (rvals xs), rD (A') g' o' n' 4 (rvals xs')]) (fun _ => True) (by kernel_rfl) (fun w hT => append_own (n' := (kq + kr)) (z := .agg #[iq 0, iq 0, iq 0, iq 0]) hT (i := 1) (bytes := 32) rfl (by kernel_rfl) (by kernel_rfl) rfl (by decide) (by decide) (Row.rd (hT.ok 2 _ rfl)) (rvals_one ((mgG touchL (ownD how xs xs' XS) YS i).2)) (by omega) (rvals_append ((mgG touchL (ownD how xs xs' XS) YS i).1) ((mgG touchL (ownD how xs xs' XS) YS i).2)) rfl) ?_
    rintro ⟨A57, g57, cp57⟩ -
    refine cN [.gen (rowE (Aw) gw kw cw 32 4 (rvals (ownD how xs xs' XS (YS.getD i 0) (YS.getD (i + 1) 0))) true), .gen (rowE (A57) g57 (kq + kr) cp57 32 4 (rvals (((mgG touchL (ownD how xs xs' XS) YS i).1) ++ ((mgG touchL (ownD how xs xs' XS) YS i).2))) true), .gen (rowE (Ar) gr kr cr 32 4 (rvals ((mgG touchL (ownD how xs xs' XS) YS i).2)) true), .gen (rowE (Ay) gy_ ky cy 3 1 (iV YS) true), .gen (rowE (Ax) gx_ kx cx 3 1 (iV XS) true), rD (A) g o n 4 (rvals xs), rD (A') g' o' n' 4 (rvals xs')] ?_
    refine cont_fact (F := (0 < (kq + kr) → (A57 : Option Addr) = pB g57) ∧ (((mgG touchL (ownD how xs xs' XS) YS i).1) ++ ((mgG touchL (ownD how xs xs' XS) YS i).2)).length = (kq + kr) ∧ (kq + kr) ≤ cp57 ∧ cp57 ≤ maxLen) (fun w hT => Row.factsR (hT.ok 1 _ rfl)) (fun hr58_ => ?_)
    obtain ⟨hr58_a, hr58_l, hr58_c, hr58_m⟩ := hr58_
    unfold maxLen at hr58_m
    refine bD [0] 4 0 [(11, .slice A57 (kq + kr) cp57)] [] ?_
    refine cDn <| tNo <| cRg 2 rfl <| bS [0, 0] 2 0 [(0, .slice A n cap), (1, .slice A' n' cap'), (2, iq how), (7, .slice Ax kx cx), (8, .slice Ay ky cy), (11, .slice A57 (kq + kr) cp57), (12, .slice Aw kw cw), (13, iq (i : Int)), (152, .slice (pB gr) kr cr), (153, .slice Ar kr cr), (154, iq (kr : Int)), (155, iq ((kr : Int) - 1)), (156, iq (mn 0 ((kr : Int) - 1))), (157, iq 0), (158, .pointer (some ⟨gr, 0 * 4, none⟩)), (159, .pointer (some ⟨gr, 0 * 4 + 3, none⟩)), (160, iq ((rget ((mgG touchL (ownD how xs xs' XS) YS i).2) 0).y1)), (161, .slice (pB gy_) ky cy), (162, iq (i : Int)), (163, .pointer (some ⟨gy_, i, none⟩)), (164, iq (YS.getD i 0)), (165, .bool true), (169, .slice Ar kr cr), (170, .slice Aw kw cw), (171, .bool false)] ?_
    refine cDn <| blk_normal <| tNo <| cRg 3 rfl <| cont_pick [1, 0, 3, 4, 5, 6] [.gen (rowE (A57) g57 (kq + kr) cp57 32 4 (rvals (((mgG touchL (ownD how xs xs' XS) YS i).1) ++ ((mgG touchL (ownD how xs xs' XS) YS i).2))) true), .gen (rowE (Aw) gw kw cw 32 4 (rvals (ownD how xs xs' XS (YS.getD i 0) (YS.getD (i + 1) 0))) true), .gen (rowE (Ay) gy_ ky cy 3 1 (iV YS) true), .gen (rowE (Ax) gx_ kx cx 3 1 (iV XS) true), rD (A) g o n 4 (rvals xs), rD (A') g' o' n' 4 (rvals xs')] (by decide) rfl rfl ?_
    refine bD [0, 0] 2 1 [(65, iq (IntKind.i64.wrap ((i : Int) + 1)))] [64] ?_
    refine cRc 65 (iq (IntKind.i64.wrap ((i : Int) + 1))) (iq ((i + 1 : Nat) : Int)) rfl (by rw [show (((i + 1 : Nat) : Int)) = (i : Int) + 1 by omega]; exact wrapI (by omega) (by omega)) ?_
    refine bD [0] 3 0 [(13, iq ((i + 1 : Nat) : Int))] [] ?_
    refine cDn <| tNo ?_
    have hst_ := mgG_off (al := touchL) (own := (ownD how xs xs' XS)) (ys := YS) (i := i) hal_
    refine cont_rowEqR 0 (((mgG touchL (ownD how xs xs' XS) YS i).1) ++ ((mgG touchL (ownD how xs xs' XS) YS i).2)) ((mgG touchL (ownD how xs xs' XS) YS (i + 1)).1) rfl hst_.1 ?_
    refine cont_rowEqR 1 (ownD how xs xs' XS (YS.getD i 0) (YS.getD (i + 1) 0)) ((mgG touchL (ownD how xs xs' XS) YS (i + 1)).2) rfl hst_.2 ?_
    refine cont_again (i + 1, (kq + kr), A57, g57, cp57, kw, Aw, gw, cw) (show (i + 1) ≤ YS.length - 1 from (by omega)) (show YS.length - 1 - (i + 1) < YS.length - 1 - i from by omega) (by kernel_rfl) (by kernel_rfl)
   refine cRc 165 (.bool (((rget ((mgG touchL (ownD how xs xs' XS) YS i).2) 0).y1) == (YS.getD i 0))) (.bool false) rfl (congrArg Value.bool c52_) ?_
   replace c52_ := ne_of_beqf c52_
   refine bD [0, 0, 0, 0] 6 0 [(169, undef), (170, undef), (171, undef), (172, .bool false)] [] ?_
   refine cDn <| tNo <| cFa rfl <| cont_skip <| tNo <| cSq <| cRg 4 rfl ?_
   have hal_ : touchL (mgG touchL (ownD how xs xs' XS) YS i).2 (ownD how xs xs' XS (YS.getD i 0) (YS.getD (i + 1) 0)) (YS.getD i 0) = false := by first | exact touchL_no0 (by omega) | exact touchL_no1 ‹_› | exact touchL_no2 ‹_›
   refine bD [0, 0] 2 2 [(188, .slice Aq kq cq), (189, .slice Ar kr cr)] [] ?_
   refine pSt 3 1 rfl rfl <| sSW (α := Option Addr × Nat × Nat) 190 (Builtin.append_ #[23, 23] 23 #[.slice Aq kq cq, .slice Ar kr cr]) (fun x_ => .slice x_.1 (kq + kr) x_.2.2) (fun x_ => [.gen (rowE (Aw) gw kw cw 32 4 (rvals (ownD how xs xs' XS (YS.getD i 0) (YS.getD (i + 1) 0))) true), .gen (rowE (x_.1) x_.2.1 (kq + kr) x_.2.2 32 4 (rvals (((mgG touchL (ownD how xs xs' XS) YS i).1) ++ ((mgG touchL (ownD how xs xs' XS) YS i).2))) true), .gen (rowE (Ar) gr kr cr 32 4 (rvals ((mgG touchL (ownD how xs xs' XS) YS i).2)) true), .gen (rowE (Ay) gy_ ky cy 3 1 (iV YS) true), .gen (rowE (Ax) gx_ kx cx 3 1 (iV XS) true), rD (A) g o n 4 (rvals xs), rD (A') g' o' n' 4 (rvals xs')]) (fun _ => True) (by kernel_rfl) (fun w hT => append_own (n' := (kq + kr)) (z := .agg #[iq 0, iq 0, iq 0, iq 0]) hT (i := 1) (bytes := 32) rfl (by kernel_rfl) (by kernel_rfl) rfl (by decide) (by decide) (Row.rd (hT.ok 2 _ rfl)) (rvals_one ((mgG touchL (ownD how xs xs' XS) YS i).2)) (by omega) (rvals_append ((mgG touchL (ownD how xs xs' XS) YS i).1) ((mgG touchL (ownD how xs xs' XS) YS i).2)) rfl) ?_
   rintro ⟨A59, g59, cp59⟩ -
   refine cont_norm [(0, .slice A n cap), (1, .slice A' n' cap'), (2, iq how), (7, .slice Ax kx cx), (8, .slice Ay ky cy), (13, iq (i : Int)), (14, .slice Aw kw cw), (152, .slice (pB gr) kr cr), (153, .slice Ar kr cr), (154, iq (kr : Int)), (155, iq ((kr : Int) - 1)), (156, iq (mn 0 ((kr : Int) - 1))), (157, iq 0), (158, .pointer (some ⟨gr, 0 * 4, none⟩)), (159, .pointer (some ⟨gr, 0 * 4 + 3, none⟩)), (160, iq ((rget ((mgG touchL (ownD how xs xs' XS) YS i).2) 0).y1)), (161, .slice (pB gy_) ky cy), (162, iq (i : Int)), (163, .pointer (some ⟨gy_, i, none⟩)), (164, iq (YS.getD i 0)), (165, .bool false), (169, undef), (170, undef), (171, undef), (188, .slice Aq kq cq), (189, .slice Ar kr cr), (190, .slice A59 (kq + kr) cp59)] [.gen (rowE (Aw) gw kw cw 32 4 (rvals (ownD how xs xs' XS (YS.getD i 0) (YS.getD (i + 1) 0))) true), .gen (rowE (A59) g59 (kq + kr) cp59 32 4 (rvals (((mgG touchL (ownD how xs xs' XS) YS i).1) ++ ((mgG touchL (ownD how xs xs' XS) YS i).2))) true), .gen (rowE (Ar) gr kr cr 32 4 (rvals ((mgG touchL (ownD how xs xs' XS) YS i).2)) true), .gen (rowE (Ay) gy_ ky cy 3 1 (iV YS) true), .gen (rowE (Ax) gx_ kx cx 3 1 (iV XS) true), rD (A) g o n 4 (rvals xs), rD (A') g' o' n' 4 (rvals xs')] (by kernel_rfl) rfl ?_
   refine cont_fact (F := (0 < (kq + kr) → (A59 : Option Addr) = pB g59) ∧ (((mgG touchL (ownD how xs xs' XS) YS i).1) ++ ((mgG touchL (ownD how xs xs' XS) YS i).2)).length = (kq + kr) ∧ (kq + kr) ≤ cp59 ∧ cp59 ≤ maxLen) (fun w hT => Row.factsR (hT.ok 1 _ rfl)) (fun hr60_ => ?_)
   obtain ⟨hr60_a, hr60_l, hr60_c, hr60_m⟩ := hr60_
   unfold maxLen at hr60_m
   refine bD [0] 4 0 [(11, .slice A59 (kq + kr) cp59)] [] ?_
   refine cDn <| tNo <| cRg 2 rfl <| bD [0, 0] 2 0 [(12, .slice Aw kw cw)] [191] ?_
   refine cDn <| blk_normal <| tNo <| cRg 3 rfl <| cont_pick [1, 0, 3, 4, 5, 6] [.gen (rowE (A59) g59 (kq + kr) cp59 32 4 (rvals (((mgG touchL (ownD how xs xs' XS) YS i).1) ++ ((mgG touchL (ownD how xs xs' XS) YS i).2))) true), .gen (rowE (Aw) gw kw cw 32 4 (rvals (ownD how xs xs' XS (YS.getD i 0) (YS.getD (i + 1) 0))) true), .gen (rowE (Ay) gy_ ky cy 3 1 (iV YS) true), .gen (rowE (Ax) gx_ kx cx 3 1 (iV XS) true), rD (A) g o n 4 (rvals xs), rD (A') g' o' n' 4 (rvals xs')] (by decide) rfl rfl ?_
   refine bS [0, 0] 2 1 [(0, .slice A n cap), (1, .slice A' n' cap'), (2, iq how), (7, .slice Ax kx cx), (8, .slice Ay ky cy), (11, .slice A59 (kq + kr) cp59), (12, .slice Aw kw cw), (65, iq (IntKind.i64.wrap ((i : Int) + 1))), (152, .slice (pB gr) kr cr), (153, .slice Ar kr cr), (154, iq (kr : Int)), (155, iq ((kr : Int) - 1)), (156, iq (mn 0 ((kr : Int) - 1))), (157, iq 0), (158, .pointer (some ⟨gr, 0 * 4, none⟩)), (159, .pointer (some ⟨gr, 0 * 4 + 3, none⟩)), (160, iq ((rget ((mgG touchL (ownD how xs xs' XS) YS i).2) 0).y1)), (161, .slice (pB gy_) ky cy), (162, iq (i : Int)), (163, .pointer (some ⟨gy_, i, none⟩)), (164, iq (YS.getD i 0)), (165, .bool false), (169, undef), (170, undef), (171, undef)] ?_
   refine cRc 65 (iq (IntKind.i64.wrap ((i : Int) + 1))) (iq ((i + 1 : Nat) : Int)) rfl (by rw [show (((i + 1 : Nat) : Int)) = (i : Int) + 1 by omega]; exact wrapI (by omega) (by omega)) ?_
   refine bD [0] 3 0 [(13, iq ((i + 1 : Nat) : Int))] [] ?_
   refine cDn <| tNo ?_
   have hst_ := mgG_off (al := touchL) (own := (ownD how xs xs' XS)) (ys := YS) (i := i) hal_
   refine cont_rowEqR 0 (((mgG touchL (ownD how xs xs' XS) YS i).1) ++ ((mgG touchL (ownD how xs xs' XS) YS i).2)) ((mgG touchL (ownD how xs xs' XS) YS (i + 1)).1) rfl hst_.1 ?_
   refine cont_rowEqR 1 (ownD how xs xs' XS (YS.getD i 0) (YS.getD (i + 1) 0)) ((mgG touchL (ownD how xs xs' XS) YS (i + 1)).2) rfl hst_.2 ?_
   refine cont_again (i + 1, (kq + kr), A59, g59, cp59, kw, Aw, gw, cw) (show (i + 1) ≤ YS.length - 1 from (by omega)) (show YS.length - 1 - (i + 1) < YS.length - 1 - i from by omega) (by kernel_rfl) (by kernel_rfl)
  replace c51_ := of_decide_eq_false c51_
  refine tD 0 [] [(4, 0), (5, 0), (13, 0), (14, 0), (6, 0), (15, 0), (7, 0), (16, 0), (8, 0), (9, 0), (10, 0), (11, 0), (12, 0), (17, 0), (18, 0), (19, 0)] 0 [19, 18, 17, 12, 11, 10, 9, 8, 16, 7, 15, 6, 14, 13, 5, 4, 3, 2, 1, 0] [(17, .bool false), (152, undef), (153, undef), (154, undef), (155, undef), (156, undef), (157, undef), (158, undef), (159, undef), (160, undef), (161, undef), (162, undef), (163, undef), (164, undef), (165, undef)] [166] ?_
  refine drawn_done (by kernel_rfl) ?_
  refine tNo <| cSq <| cSq <| cRg 6 rfl <| bS [0, 0, 0, 0, 0, 0] 6 0 [(0, .slice A n cap), (1, .slice A' n' cap'), (2, iq how), (7, .slice Ax kx cx), (8, .slice Ay ky cy), (11, .slice Aq kq cq), (12, .slice Ar kr cr), (13, iq (i : Int)), (14, .slice Aw kw cw), (152, undef), (153, undef), (154, undef), (155, undef), (156, undef), (157, undef), (158, undef), (159, undef), (160, undef), (161, undef), (162, undef), (163, undef), (164, undef), (165, undef), (169, undef), (170, undef), (171, undef), (172, .bool false)] ?_
  refine cDn <| tNo <| cFa rfl <| cont_skip <| tNo <| cSq <| cRg 4 rfl ?_
  have hal_ : touchL (mgG touchL (ownD how xs xs' XS) YS i).2 (ownD how xs xs' XS (YS.getD i 0) (YS.getD (i + 1) 0)) (YS.getD i 0) = false := by first | exact touchL_no0 (by omega) | exact touchL_no1 ‹_› | exact touchL_no2 ‹_›
  refine bD [0, 0] 2 2 [(188, .slice Aq kq cq), (189, .slice Ar kr cr)] [] ?_
  refine pSt 3 1 rfl rfl <| sSW (α := Option Addr × Nat × Nat) 190 (Builtin.append_ #[23, 23] 23 #[.slice Aq kq cq, .slice Ar kr cr]) (fun x_ => .slice x_.1 (kq + kr) x_.2.2) (fun x_ => [.gen (rowE (Aw) gw kw cw 32 4 (rvals (ownD how xs xs' XS (YS.getD i 0) (YS.getD (i + 1) 0))) true), .gen (rowE (x_.1) x_.2.1 (kq + kr) x_.2.2 32 4 (rvals (((mgG touchL (ownD how xs xs' XS) YS i).1) ++ ((mgG touchL (ownD how xs xs' XS) YS i).2))) true), .gen (rowE (Ar) gr kr cr 32 4 (rvals ((mgG touchL (ownD how xs xs' XS) YS i).2)) true), .gen (rowE (Ay) gy_ ky cy 3 1 (iV YS) true), .gen (rowE (Ax) gx_ kx cx 3 1 (iV XS) true), rD (A) g o n 4 (rvals xs), rD (A') g' o' n' 4 (rvals xs')]) (fun _ => True) (by kernel_rfl) (fun w hT => append_own (n' := (kq + kr)) (z := .agg #[iq 0, iq 0, iq 0, iq 0]) hT (i := 1) (bytes := 32) rfl (by kernel_rfl) (by kernel_rfl) rfl (by decide) (by decide) (Row.rd (hT.ok 2 _ rfl)) (rvals_one ((mgG touchL (ownD how xs xs' XS) YS i).2)) (by omega) (rvals_append ((mgG touchL (ownD how xs xs' XS) YS i).1) ((mgG touchL (ownD how xs xs' XS) YS i).2)) rfl) ?_
  rintro ⟨A61, g61, cp61⟩ -
  refine cN [.gen (rowE (Aw) gw kw cw 32 4 (rvals (ownD how xs xs' XS (YS.getD i 0) (YS.getD (i + 1) 0))) true), .gen (rowE (A61) g61 (kq + kr) cp61 32 4 (rvals (((mgG touchL (ownD how xs xs' XS) YS i).1) ++ ((mgG touchL (ownD how xs xs' XS) YS i).2))) true), .gen (rowE (Ar) gr kr cr 32 4 (rvals ((mgG touchL (ownD how xs xs' XS) YS i).2)) true), .gen (rowE (Ay) gy_ ky cy 3 1 (iV YS) true), .gen (rowE (Ax) gx_ kx cx 3 1 (iV XS) true), rD (A) g o n 4 (rvals xs), rD (A') g' o' n' 4 (rvals xs')] ?_
  refine cont_fact (F := (0 < (kq + kr) → (A61 : Option Addr) = pB g61) ∧ (((mgG touchL (ownD how xs xs' XS) YS i).1) ++ ((mgG touchL (ownD how xs xs' XS) YS i).2)).length = (kq + kr) ∧ (kq + kr) ≤ cp61 ∧ cp61 ≤ maxLen) (fun w hT => Row.factsR (hT.ok 1 _ rfl)) (fun hr62_ => ?_)
  obtain ⟨hr62_a, hr62_l, hr62_c, hr62_m⟩ := hr62_
  unfold maxLen at hr62_m
  refine bS [0] 4 0 [(0, .slice A n cap), (1, .slice A' n' cap'), (2, iq how), (7, .slice Ax kx cx), (8, .slice Ay ky cy), (11, .slice A61 (kq + kr) cp61), (13, iq (i : Int)), (14, .slice Aw kw cw), (152, undef), (153, undef), (154, undef), (155, undef), (156, undef), (157, undef), (158, undef), (159, undef), (160, undef), (161, undef), (162, undef), (163, undef), (164, undef), (165, undef), (169, undef), (170, undef), (171, undef)] ?_
  refine cDn <| tNo <| cRg 2 rfl <| bD [0, 0] 2 0 [(12, .slice Aw kw cw)] [191] ?_
  refine cDn <| blk_normal <| tNo <| cRg 3 rfl <| cont_pick [1, 0, 3, 4, 5, 6] [.gen (rowE (A61) g61 (kq + kr) cp61 32 4 (rvals (((mgG touchL (ownD how xs xs' XS) YS i).1) ++ ((mgG touchL (ownD how xs xs' XS) YS i).2))) true), .gen (rowE (Aw) gw kw cw 32 4 (rvals (ownD how xs xs' XS (YS.getD i 0) (YS.getD (i + 1) 0))) true), .gen (rowE (Ay) gy_ ky cy 3 1 (iV YS) true), .gen (rowE (Ax) gx_ kx cx 3 1 (iV XS) true), rD (A) g o n 4 (rvals xs), rD (A') g' o' n' 4 (rvals xs')] (by decide) rfl rfl ?_
  refine bD [0, 0] 2 1 [(65, iq (IntKind.i64.wrap ((i : Int) + 1)))] [64] ?_
  refine cRc 65 (iq (IntKind.i64.wrap ((i : Int) + 1))) (iq ((i + 1 : Nat) : Int)) rfl (by rw [show (((i + 1 : Nat) : Int)) = (i : Int) + 1 by omega]; exact wrapI (by omega) (by omega)) ?_
  refine bS [0] 3 0 [(0, .slice A n cap), (1, .slice A' n' cap'), (2, iq how), (7, .slice Ax kx cx), (8, .slice Ay ky cy), (11, .slice A61 (kq + kr) cp61), (12, .slice Aw kw cw), (13, iq ((i + 1 : Nat) : Int)), (152, undef), (153, undef), (154, undef), (155, undef), (156, undef), (157, undef), (158, undef), (159, undef), (160, undef), (161, undef), (162, undef), (163, undef), (164, undef), (165, undef), (169, undef), (170, undef), (171, undef)] ?_
  refine cDn <| tNo ?_
  have hst_ := mgG_off (al := touchL) (own := (ownD how xs xs' XS)) (ys := YS) (i := i) hal_
  refine cont_rowEqR 0 (((mgG touchL (ownD how xs xs' XS) YS i).1) ++ ((mgG touchL (ownD how xs xs' XS) YS i).2)) ((mgG touchL (ownD how xs xs' XS) YS (i + 1)).1) rfl hst_.1 ?_
  refine cont_rowEqR 1 (ownD how xs xs' XS (YS.getD i 0) (YS.getD (i + 1) 0)) ((mgG touchL (ownD how xs xs' XS) YS (i + 1)).2) rfl hst_.2 ?_
  refine cont_again (i + 1, (kq + kr), A61, g61, cp61, kw, Aw, gw, cw) (show (i + 1) ≤ YS.length - 1 from (by omega)) (show YS.length - 1 - (i + 1) < YS.length - 1 - i from by omega) (by kernel_rfl) (by kernel_rfl)
 replace c34_ := of_decide_eq_false c34_
 refine cFa rfl <| cont_exit <| then_exit <| then_exit <| blk_exit <| tNo <| cSq <| cRg 4 rfl ?_
 refine cont_fact (F := (0 < kq → (Aq : Option Addr) = pB gq) ∧ ((mgG touchL (ownD how xs xs' XS) YS i).1).length = kq ∧ kq ≤ cq ∧ cq ≤ maxLen) (fun w hT => Row.factsR (hT.ok 0 _ rfl)) (fun hr63_ => ?_)
 obtain ⟨hr63_a, hr63_l, hr63_c, hr63_m⟩ := hr63_
 unfold maxLen at hr63_m
 refine cont_fact (F := (0 < kr → (Ar : Option Addr) = pB gr) ∧ ((mgG touchL (ownD how xs xs' XS) YS i).2).length = kr ∧ kr ≤ cr ∧ cr ≤ maxLen) (fun w hT => Row.factsR (hT.ok 1 _ rfl)) (fun hr64_ => ?_)
 obtain ⟨hr64_a, hr64_l, hr64_c, hr64_m⟩ := hr64_
 unfold maxLen at hr64_m
 refine bS [0, 0] 2 2 [(192, .slice Aq kq cq), (193, .slice Ar kr cr)] ?_
 refine pSt 3 1 rfl rfl <| sSW (α := Option Addr × Nat × Nat) 194 (Builtin.append_ #[23, 23] 23 #[.slice Aq kq cq, .slice Ar kr cr]) (fun x_ => .slice x_.1 (kq + kr) x_.2.2) (fun x_ => [.gen (rowE (x_.1) x_.2.1 (kq + kr) x_.2.2 32 4 (rvals (((mgG touchL (ownD how xs xs' XS) YS i).1) ++ ((mgG touchL (ownD how xs xs' XS) YS i).2))) true), .gen (rowE (Ar) gr kr cr 32 4 (rvals ((mgG touchL (ownD how xs xs' XS) YS i).2)) true), .gen (rowE (Ay) gy_ ky cy 3 1 (iV YS) true), .gen (rowE (Ax) gx_ kx cx 3 1 (iV XS) true), rD (A) g o n 4 (rvals xs), rD (A') g' o' n' 4 (rvals xs')]) (fun _ => True) (by kernel_rfl) (fun w hT => append_own (n' := (kq + kr)) (z := .agg #[iq 0, iq 0, iq 0, iq 0]) hT (i := 0) (bytes := 32) rfl (by kernel_rfl) (by kernel_rfl) rfl (by decide) (by decide) (Row.rd (hT.ok 1 _ rfl)) (rvals_one ((mgG touchL (ownD how xs xs' XS) YS i).2)) (by omega) (rvals_append ((mgG touchL (ownD how xs xs' XS) YS i).1) ((mgG touchL (ownD how xs xs' XS) YS i).2)) rfl) ?_
 rintro ⟨A65, g65, cp65⟩ -
 refine cN [.gen (rowE (A65) g65 (kq + kr) cp65 32 4 (rvals (((mgG touchL (ownD how xs xs' XS) YS i).1) ++ ((mgG touchL (ownD how xs xs' XS) YS i).2))) true), .gen (rowE (Ar) gr kr cr 32 4 (rvals ((mgG touchL (ownD how xs xs' XS) YS i).2)) true), .gen (rowE (Ay) gy_ ky cy 3 1 (iV YS) true), .gen (rowE (Ax) gx_ kx cx 3 1 (iV XS) true), rD (A) g o n 4 (rvals xs), rD (A') g' o' n' 4 (rvals xs')] ?_
 refine cont_fact (F := (0 < (kq + kr) → (A65 : Option Addr) = pB g65) ∧ (((mgG touchL (ownD how xs xs' XS) YS i).1) ++ ((mgG touchL (ownD how xs xs' XS) YS i).2)).length = (kq + kr) ∧ (kq + kr) ≤ cp65 ∧ cp65 ≤ maxLen) (fun w hT => Row.factsR (hT.ok 0 _ rfl)) (fun hr66_ => ?_)
 obtain ⟨hr66_a, hr66_l, hr66_c, hr66_m⟩ := hr66_
 unfold maxLen at hr66_m
 refine bS [0] 4 0 [(6, .slice A65 (kq + kr) cp65)] ?_
 refine cDn <| tNo <| cont_ret ?_
 refine ret_one (.inl rfl) rfl 0 (.slice A65 (kq + kr) cp65) (by kernel_rfl) (by kernel_rfl) (fun w hT => ?_)
 replace hT := hT.erase 5 (fun e h hw => by cases h; first | rfl | cases hw)
 replace hT := hT.erase 4 (fun e h hw => by cases h; first | rfl | cases hw)
 replace hT := hT.erase 3 (fun e h hw => by cases h; first | rfl | cases hw)
 replace hT := hT.erase 2 (fun e h hw => by cases h; first | rfl | cases hw)
 replace hT := hT.erase 1 (fun e h hw => by cases h; first | rfl | cases hw)
 rw [show i = YS.length - 1 by omega, regD_of how xs xs' XS YS hX hY] at hT
 exact ⟨_, _, _, _, rfl, hT⟩
theorem refOf (A : Option Addr) (g o n cap : Nat) (xs : List Rect) (w : World) (hT0 : Tab w w [rD (A) g o n 4 (rvals xs)]) (hn : n ≤ 262144) :
    Calls Tryz.prog 36 #[.slice A n cap] w fun e w' => ∃ (A_ : Option Addr) (g_ k_ cp_ : Nat), e = .returned (.slice A_ k_ cp_) ∧ Tab w w' [.gen (rowE (A_) g_ k_ cp_ 32 4 (rvals (canR xs)) true)] := by
 obtain ⟨hra, hrl⟩ := Rd.factsR (hT0.ok 0 _ rfl)
 refine enter 5 [(0, .slice A n cap)] [rD (A) g o n 4 (rvals xs)] Tryz.func36 rfl Tryz.ntmps36 rfl (by kernel_rfl) hT0 ?_
 refine cSq <| cRg 1 rfl <| bD [0] 1 0 [] [2] ?_
 refine cDn <| tNo <| cSq <| cRg 3 rfl <| bS [0] 1 2 [(3, .slice A n cap)] ?_
 refine pSt 2 1 rfl rfl <| cont_nilrow 32 4 ?_
 refine call_gen (d := 4) (α := Option Addr × Nat × Nat × Nat) (fun x_ => .slice x_.1 x_.2.2.1 x_.2.2.2) (fun x_ => [.gen (rowE (x_.1) x_.2.1 x_.2.2.1 x_.2.2.2 32 4 (rvals (regM (docK 0) xs [])) true), .gen (rowE (none) 0 0 0 32 4 (rvals []) true), rD (A) g o n 4 (rvals xs)]) (fun x_ => True) (by kernel_rfl) (fun w hT => (refMerge A g o n cap xs none 0 0 0 0 [] 0 w (hT.viewRo (.cons (i := 1) rfl Vw.rd (.cons (i := 0) rfl Vw.rowRd .nil)) rfl) (by omega)).mono fun e w' ⟨A2, g3, k4, cp5, he_, ht_⟩ => ⟨(A2, g3, k4, cp5), he_, trivial, hT.news ht_ rfl⟩) ?_
 rintro ⟨A2, g3, k4, cp5⟩ hf6_
 refine cont_fact (F := (0 < k4 → (A2 : Option Addr) = pB g3) ∧ (regM (docK 0) xs []).length = k4 ∧ k4 ≤ cp5 ∧ cp5 ≤ maxLen) (fun w hT => Row.factsR (hT.ok 0 _ rfl)) (fun hr7_ => ?_)
 obtain ⟨hr7_a, hr7_l, hr7_c, hr7_m⟩ := hr7_
 unfold maxLen at hr7_m
 refine bS [0] 3 0 [(2, .slice A2 k4 cp5)] ?_
 refine cDn <| tNo <| cont_ret ?_
 refine ret_one (.inl rfl) rfl 0 (.slice A2 k4 cp5) (by kernel_rfl) (by kernel_rfl) (fun w hT => ?_)
 replace hT := hT.erase 2 (fun e h hw => by cases h; first | rfl | cases hw)
 replace hT := hT.erase 1 (fun e h hw => by cases h; first | rfl | cases hw)
 exact ⟨_, _, _, _, rfl, hT⟩
theorem refCutL (A : Option Addr) (g o n cap : Nat) (xs : List Rect) (A' : Option Addr) (g' o' n' cap' : Nat) (xs' : List Rect) (w : World) (hT0 : Tab w w [rD (A) g o n 4 (rvals xs), rD (A') g' o' n' 4 (rvals xs')]) (hn : n + n' ≤ 262144) :
    Calls Tryz.prog 41 #[.slice A n cap, .slice A' n' cap'] w fun e w' => ∃ (A_ : Option Addr) (g_ k_ cp_ : Nat), e = .returned (.slice A_ k_ cp_) ∧ Tab w w' [.gen (rowE (A_) g_ k_ cp_ 32 4 (rvals (regM andB xs xs')) true)] := by
 obtain ⟨hra, hrl⟩ := Rd.factsR (hT0.ok 0 _ rfl)
 obtain ⟨hra', hrl'⟩ := Rd.factsR (hT0.ok 1 _ rfl)
 refine enter 8 [(0, .slice A n cap), (1, .slice A' n' cap')] [rD (A) g o n 4 (rvals xs), rD (A') g' o' n' 4 (rvals xs')] Tryz.func41 rfl Tryz.ntmps41 rfl (by kernel_rfl) hT0 ?_
 refine cSq <| cRg 1 rfl <| bD [0] 1 0 [] [4] ?_
 refine cDn <| tNo <| cSq <| cRg 4 rfl <| bS [0, 0] 2 2 [(5, .slice A n cap), (6, .slice A' n' cap')] ?_
 refine pSt 3 1 rfl rfl <| call_gen (d := 7) (α := Option Addr × Nat × Nat × Nat) (fun x_ => .slice x_.1 x_.2.2.1 x_.2.2.2) (fun x_ => [.gen (rowE (x_.1) x_.2.1 x_.2.2.1 x_.2.2.2 32 4 (rvals (regM (docK 1) xs xs')) true), rD (A) g o n 4 (rvals xs), rD (A') g' o' n' 4 (rvals xs')]) (fun x_ => True) (by kernel_rfl) (fun w hT => (refMerge A g o n cap xs A' g' o' n' cap' xs' 1 w (hT.viewRo (.cons (i := 0) rfl Vw.rd (.cons (i := 1) rfl Vw.rd .nil)) rfl) (by omega)).mono fun e w' ⟨A1, g2, k3, cp4, he_, ht_⟩ => ⟨(A1, g2, k3, cp4), he_, trivial, hT.news ht_ rfl⟩) ?_
 rintro ⟨A1, g2, k3, cp4⟩ hf5_
 refine cont_fact (F := (0 < k3 → (A1 : Option Addr) = pB g2) ∧ (regM (docK 1) xs xs').length = k3 ∧ k3 ≤ cp4 ∧ cp4 ≤ maxLen) (fun w hT => Row.factsR (hT.ok 0 _ rfl)) (fun hr6_ => ?_)
 obtain ⟨hr6_a, hr6_l, hr6_c, hr6_m⟩ := hr6_
 unfold maxLen at hr6_m
 refine bS [0] 4 0 [(4, .slice A1 k3 cp4)] ?_
 refine cDn <| tNo <| cont_ret ?_
 refine ret_one (.inl rfl) rfl 0 (.slice A1 k3 cp4) (by kernel_rfl) (by kernel_rfl) (fun w hT => ?_)
 replace hT := hT.erase 2 (fun e h hw => by cases h; first | rfl | cases hw)
 replace hT := hT.erase 1 (fun e h hw => by cases h; first | rfl | cases hw)
 exact ⟨_, _, _, _, rfl, hT⟩
theorem refLess (A : Option Addr) (g o n cap : Nat) (xs : List Rect) (A' : Option Addr) (g' o' n' cap' : Nat) (xs' : List Rect) (w : World) (hT0 : Tab w w [rD (A) g o n 4 (rvals xs), rD (A') g' o' n' 4 (rvals xs')]) (hn : n + n' ≤ 262144) :
    Calls Tryz.prog 49 #[.slice A n cap, .slice A' n' cap'] w fun e w' => ∃ (A_ : Option Addr) (g_ k_ cp_ : Nat), e = .returned (.slice A_ k_ cp_) ∧ Tab w w' [.gen (rowE (A_) g_ k_ cp_ 32 4 (rvals (regM lessB xs xs')) true)] := by
 obtain ⟨hra, hrl⟩ := Rd.factsR (hT0.ok 0 _ rfl)
 obtain ⟨hra', hrl'⟩ := Rd.factsR (hT0.ok 1 _ rfl)
 refine enter 8 [(0, .slice A n cap), (1, .slice A' n' cap')] [rD (A) g o n 4 (rvals xs), rD (A') g' o' n' 4 (rvals xs')] Tryz.func49 rfl Tryz.ntmps49 rfl (by kernel_rfl) hT0 ?_
 refine cSq <| cRg 1 rfl <| bD [0] 1 0 [] [4] ?_
 refine cDn <| tNo <| cSq <| cRg 4 rfl <| bS [0, 0] 2 2 [(5, .slice A n cap), (6, .slice A' n' cap')] ?_
 refine pSt 3 1 rfl rfl <| call_gen (d := 7) (α := Option Addr × Nat × Nat × Nat) (fun x_ => .slice x_.1 x_.2.2.1 x_.2.2.2) (fun x_ => [.gen (rowE (x_.1) x_.2.1 x_.2.2.1 x_.2.2.2 32 4 (rvals (regM (docK 2) xs xs')) true), rD (A) g o n 4 (rvals xs), rD (A') g' o' n' 4 (rvals xs')]) (fun x_ => True) (by kernel_rfl) (fun w hT => (refMerge A g o n cap xs A' g' o' n' cap' xs' 2 w (hT.viewRo (.cons (i := 0) rfl Vw.rd (.cons (i := 1) rfl Vw.rd .nil)) rfl) (by omega)).mono fun e w' ⟨A1, g2, k3, cp4, he_, ht_⟩ => ⟨(A1, g2, k3, cp4), he_, trivial, hT.news ht_ rfl⟩) ?_
 rintro ⟨A1, g2, k3, cp4⟩ hf5_
 refine cont_fact (F := (0 < k3 → (A1 : Option Addr) = pB g2) ∧ (regM (docK 2) xs xs').length = k3 ∧ k3 ≤ cp4 ∧ cp4 ≤ maxLen) (fun w hT => Row.factsR (hT.ok 0 _ rfl)) (fun hr6_ => ?_)
 obtain ⟨hr6_a, hr6_l, hr6_c, hr6_m⟩ := hr6_
 unfold maxLen at hr6_m
 refine bS [0] 4 0 [(4, .slice A1 k3 cp4)] ?_
 refine cDn <| tNo <| cont_ret ?_
 refine ret_one (.inl rfl) rfl 0 (.slice A1 k3 cp4) (by kernel_rfl) (by kernel_rfl) (fun w hT => ?_)
 replace hT := hT.erase 2 (fun e h hw => by cases h; first | rfl | cases hw)
 replace hT := hT.erase 1 (fun e h hw => by cases h; first | rfl | cases hw)
 exact ⟨_, _, _, _, rfl, hT⟩
theorem refSmallL (A : Option Addr) (g o n cap : Nat) (xs : List Rect) (m : Nat) (w : World) (hT0 : Tab w w [rD (A) g o n 4 (rvals xs)]) (hx : ∀ r ∈ xs, R64 r) (hm : m ≤ 1000) :
    Calls Tryz.prog 35 #[.slice A n cap, iQ (m : Int)] w fun e w' => ∃ (A_ : Option Addr) (g_ k_ cp_ : Nat), e = .returned (.slice A_ k_ cp_) ∧ Tab w w' [.gen (rowE (A_) g_ k_ cp_ 32 4 (rvals (smallL xs m)) true)] := by
 obtain ⟨hra, hrl⟩ := Rd.factsR (hT0.ok 0 _ rfl)
 refine enter 27 [(0, .slice A n cap), (1, iq (m : Int))] [rD (A) g o n 4 (rvals xs)] Tryz.func35 rfl Tryz.ntmps35 rfl (by kernel_rfl) hT0 ?_
 refine cSq <| cRg 1 rfl <| bD [0] 1 0 [] [4] ?_
 refine cDn <| tNo <| cSq <| cRg 1 rfl <| bD [0] 1 0 [(5, .slice none 0 0)] [] ?_
 refine cDn <| tNo <| cSq <| cSq <| cRg 1 rfl <| bD [0] 1 0 [(6, iq 0)] [] ?_
 refine cDn <| tNo <| cont_block <| cont_nilrow 32 4 ?_
 refine cont_rowEqR 0 ([]) (smallL xs 0) rfl rfl ?_
 refine cont_loop (α := Nat × Option Addr × Nat × Nat) (fun x_ : Nat × Option Addr × Nat × Nat => x_.1 ≤ n ∧ x_.1 ≤ m) (fun x_ : Nat × Option Addr × Nat × Nat => [(0, .slice A n cap), (1, iq (m : Int)), (5, .slice x_.2.1 x_.1 x_.2.2.2), (6, iq (x_.1 : Int))]) (fun x_ : Nat × Option Addr × Nat × Nat => [.gen (rowE (x_.2.1) x_.2.2.1 x_.1 x_.2.2.2 32 4 (rvals (smallL xs x_.1)) true), rD (A) g o n 4 (rvals xs)]) (fun x_ : Nat × Option Addr × Nat × Nat => n - x_.1) (0, none, 0, 0) (show (0) ≤ n ∧ (0) ≤ m from ⟨by omega, by omega⟩) (by kernel_rfl) (by kernel_rfl) ?_
 rintro ⟨i, Aq, gq, cq⟩ hinv2_
 replace hinv2_ : i ≤ n ∧ i ≤ m := hinv2_
 obtain ⟨hi, him⟩ := hinv2_
 have hri : i < n → R64 (rget xs i) := fun h_ => hx _ (rget_mem (by omega))
 refine cSq <| cSq <| cRg 9 rfl <| bD [0, 0, 0, 0, 0] 5 4 [(11, .bool (decide ((i : Int) < (n : Int))))] [7, 8, 9, 10] ?_
 refine cSp 11 (decide ((i : Int) < (n : Int))) rfl (fun c3_ => ?_) (fun c3_ => ?_)
 ·
  replace c3_ := of_decide_eq_true c3_
  refine bD [0, 0, 0, 0] 9 0 [(12, iq (i : Int)), (13, iq (m : Int)), (14, .bool (decide ((i : Int) < (m : Int)))), (15, .bool (decide ((i : Int) < (m : Int))))] [] ?_
  refine cDn <| tNo ?_
  refine cSp 15 (decide ((i : Int) < (m : Int))) rfl (fun c4_ => ?_) (fun c4_ => ?_)
  ·
   refine cRc 14 (.bool (decide ((i : Int) < (m : Int)))) (.bool true) rfl (congrArg Value.bool c4_) ?_
   replace c4_ := of_decide_eq_true c4_
   refine cTr rfl <| cont_skip <| tNo <| cSq <| cont_block <| cRg 9 rfl <| bD [0, 0, 0] 3 6 [(18, .slice Aq i cq), (19, .slice A n cap), (20, iq (i : Int))] [] ?_
   refine pSt 4 5 rfl rfl <| cRc 19 (.slice A n cap) (.slice (some ⟨g, o, none⟩) n cap) rfl (by rw [hra (by omega)]) ?_
   refine sem_step 21 (Instr.indexAt 23 (.slice (some ⟨g, o, none⟩) n cap) (iq (i : Int))) (.pointer (some ⟨g, o + i * 4, none⟩)) (by kernel_rfl) (fun w hT => run_indexAt (e := 32) (sz := 4) _ (by kernel_rfl) (by kernel_rfl) (by omega) (by omega) (by omega) w) ?_
   refine pSt 5 4 rfl rfl <| sem_step 22 (Instr.loadAt 32 (.pointer (some ⟨g, o + i * 4, none⟩))) (.agg #[iq ((rget xs i).x0), iq ((rget xs i).y0), iq ((rget xs i).x1), iq ((rget xs i).y1)]) (by kernel_rfl) (fun w hT => run_loadN (m := 4) (cs := rcells (rget xs i)) (by kernel_rfl) (by kernel_rfl) rfl (Rd.rect (hT.ok 1 _ rfl) (by omega))) ?_
   refine pSt 6 3 rfl rfl <| call_pure (d := 23) (.agg #[iq ((smallR (rget xs i)).x0), iq ((smallR (rget xs i)).y0), iq ((smallR (rget xs i)).x1), iq ((smallR (rget xs i)).y1)]) (by kernel_rfl) (fun w hT => refSmallQ (rget xs i) w (hri (by omega))) ?_
   refine batch1 [0] 7 2 (fun b5 => [(0, .slice A n cap), (1, iq (m : Int)), (6, iq (i : Int)), (12, iq (i : Int)), (13, iq (m : Int)), (14, .bool true), (18, .slice Aq i cq), (24, .slice (pB b5) 1 1)]) (fun b5 => [.cells b5 [iq ((smallR (rget xs i)).x0), iq ((smallR (rget xs i)).y0), iq ((smallR (rget xs i)).x1), iq ((smallR (rget xs i)).y1)] 32 true, .gen (rowE (Aq) gq i cq 32 4 (rvals (smallL xs i)) true), rD (A) g o n 4 (rvals xs)]) rfl rfl [0, 1, 6, 12, 13, 14, 18, 24] (fun _ => rfl) (fun b5 => by kernel_rfl) (fun b5 => by kernel_rfl) (fun b5 => ?_)
   refine pSt 8 1 rfl rfl <| sSW (α := Option Addr × Nat × Nat) 25 (Builtin.append_ #[23, 23] 23 #[.slice Aq i cq, .slice (pB b5) 1 1]) (fun x_ => .slice x_.1 (i + 1) x_.2.2) (fun x_ => [.cells b5 [iq ((smallR (rget xs i)).x0), iq ((smallR (rget xs i)).y0), iq ((smallR (rget xs i)).x1), iq ((smallR (rget xs i)).y1)] 32 true, .gen (rowE (x_.1) x_.2.1 (i + 1) x_.2.2 32 4 (rvals ((smallL xs i) ++ [(⟨(smallR (rget xs i)).x0, (smallR (rget xs i)).y0, (smallR (rget xs i)).x1, (smallR (rget xs i)).y1⟩ : Rect)])) true), rD (A) g o n 4 (rvals xs)]) (fun _ => True) (by kernel_rfl) (fun w hT => append_own (n' := (i + 1)) (z := .agg #[iq 0, iq 0, iq 0, iq 0]) hT (i := 1) (bytes := 32) rfl (by kernel_rfl) (by kernel_rfl) rfl (by decide) (by decide) (Rd.ofCells (vals := rvals [(⟨(smallR (rget xs i)).x0, (smallR (rget xs i)).y0, (smallR (rget xs i)).x1, (smallR (rget xs i)).y1⟩ : Rect)]) (hT.ok 0 _ rfl) rfl rfl) (rvals_one [(⟨(smallR (rget xs i)).x0, (smallR (rget xs i)).y0, (smallR (rget xs i)).x1, (smallR (rget xs i)).y1⟩ : Rect)]) (by omega) (rvals_append (smallL xs i) [(⟨(smallR (rget xs i)).x0, (smallR (rget xs i)).y0, (smallR (rget xs i)).x1, (smallR (rget xs i)).y1⟩ : Rect)]) rfl) ?_
   rintro ⟨A6, g6, cp6⟩ -
   refine cont_fact (F := (0 < (i + 1) → (A6 : Option Addr) = pB g6) ∧ ((smallL xs i) ++ [(⟨(smallR (rget xs i)).x0, (smallR (rget xs i)).y0, (smallR (rget xs i)).x1, (smallR (rget xs i)).y1⟩ : Rect)]).length = (i + 1) ∧ (i + 1) ≤ cp6 ∧ cp6 ≤ maxLen) (fun w hT => Row.factsR (hT.ok 1 _ rfl)) (fun hr7_ => ?_)
   obtain ⟨hr7_a, hr7_l, hr7_c, hr7_m⟩ := hr7_
   unfold maxLen at hr7_m
   refine bD [0] 9 0 [(5, .slice A6 (i + 1) cp6)] [] ?_
   refine cFg 0 rfl <| cDn <| blk_normal <| tNo <| cRg 3 rfl <| bD [0, 0] 2 1 [(17, iq (IntKind.i64.wrap ((i : Int) + 1)))] [16] ?_
   refine cRc 17 (iq (IntKind.i64.wrap ((i : Int) + 1))) (iq ((i : Int) + 1)) rfl (wrapI (by omega) (by omega)) ?_
   refine bD [0] 3 0 [(6, iq ((i : Int) + 1))] [] ?_
   refine cDn <| tNo <| cont_rowEqR 0 ((smallL xs i) ++ [(⟨(smallR (rget xs i)).x0, (smallR (rget xs i)).y0, (smallR (rget xs i)).x1, (smallR (rget xs i)).y1⟩ : Rect)]) (smallL xs (i + 1)) rfl (smallL_put (by omega)) ?_
   refine cont_again (i + 1, A6, g6, cp6) (show (i + 1) ≤ n ∧ (i + 1) ≤ m from ⟨by omega, by omega⟩) (show n - (i + 1) < n - i from by omega) (by kernel_rfl) (by kernel_rfl)
  refine cRc 14 (.bool (decide ((i : Int) < (m : Int)))) (.bool false) rfl (congrArg Value.bool c4_) ?_
  replace c4_ := of_decide_eq_false c4_
  refine cFa rfl <| cont_exit <| then_exit <| then_exit <| blk_exit <| tNo <| cSq <| cRg 2 rfl <| bS [0, 0] 2 0 [(4, .slice Aq i cq)] ?_
  refine cDn <| tNo <| cont_ret ?_
  refine ret_one (.inl rfl) rfl 0 (.slice Aq i cq) (by kernel_rfl) (by kernel_rfl) (fun w hT => ?_)
  replace hT := hT.erase 1 (fun e h hw => by cases h; first | rfl | cases hw)
  rw [smallL_end (m := m) (by omega) (by omega) (by omega)] at hT
  exact ⟨_, _, _, _, rfl, hT⟩
 replace c3_ := of_decide_eq_false c3_
 refine bD [0, 0, 0, 0] 9 0 [(12, undef), (13, undef), (14, undef), (15, .bool false)] [] ?_
 refine cDn <| tNo <| cFa rfl <| cont_exit <| then_exit <| then_exit <| blk_exit <| tNo <| cSq <| cRg 2 rfl <| bS [0, 0] 2 0 [(4, .slice Aq i cq)] ?_
 refine cDn <| tNo <| cont_ret ?_
 refine ret_one (.inl rfl) rfl 0 (.slice Aq i cq) (by kernel_rfl) (by kernel_rfl) (fun w hT => ?_)
 replace hT := hT.erase 1 (fun e h hw => by cases h; first | rfl | cases hw)
 rw [smallL_end (m := m) (by omega) (by omega) (by omega)] at hT
 exact ⟨_, _, _, _, rfl, hT⟩
end Go.Proofs.YtlfahohbkgdabaaGreat
