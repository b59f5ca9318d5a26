/- Texts of this proof's own, put together: what each holds is told ahead of it. -/
import Derived.Test.YtlfahohbkgdabaaGreatPeG1
import Derived.Test.YtlfahohbkgdabaaGreatProg
import Derived.Shelf.Sort.Plain
import Derived.Ground.Names2Prog
import Derived.Shelf.Slices.CompactI
import Derived.Shelf.Slices.In.SortNone
set_option linter.unusedSimpArgs false
set_option linter.unusedVariables false
namespace Go.Proofs.YtlfahohbkgdabaaGreat
open Go Go.RowKit
set_option maxRecDepth 100000
set_option maxHeartbeats 8000000
theorem rectMay (a b c d : Int) (w : World) :
    Calls Tryz.prog 131 #[.agg #[iQ a, iQ b, iQ c, iQ d]] w fun e w' => e = .returned (.bool (mayR a b c d)) ∧ Below w.heap.size w w' := by
 refine enter 39 [(0, .agg #[iq a, iq b, iq c, iq d])] [] Tryz.func131 rfl Tryz.ntmps131 rfl (by kernel_rfl) (Tab.start w) ?_
 refine cSq <| cRg 2 rfl ?_
 refine batch1 [0, 0] 2 0 (fun b1 => [(1, .pointer (pB b1))]) (fun b1 => [.cells b1 [iq a, iq b, iq c, iq d] 32 true]) rfl rfl [1] (fun _ => rfl) (fun b1 => by kernel_rfl) (fun b1 => by kernel_rfl) (fun b1 => ?_)
 refine cDn <| tNo <| cSq <| cRg 37 rfl <| bD [0, 0, 0, 0, 0, 0, 0, 0, 0, 0, 0] 11 26 [(13, .bool (decide ((mn (mn (mn a b) c) d) ≥ (-1048576))))] [3, 4, 5, 6, 7, 8, 9, 10, 11, 12] ?_
 refine cSp 13 (decide ((mn (mn (mn a b) c) d) ≥ (-1048576))) rfl (fun c2_ => ?_) (fun c2_ => ?_)
 ·
  replace c2_ := of_decide_eq_true c2_
  refine bS [0, 0, 0, 0, 0, 0, 0, 0, 0, 0, 0, 0] 23 14 [(1, .pointer (pB b1)), (25, .bool (decide ((mx (mx (mx a b) c) d) ≤ 1048576)))] ?_
  refine cSp 25 (decide ((mx (mx (mx a b) c) d) ≤ 1048576)) rfl (fun c3_ => ?_) (fun c3_ => ?_)
  ·
   replace c3_ := of_decide_eq_true c3_
   refine bD [0, 0, 0, 0, 0, 0, 0] 30 7 [(32, .bool (decide (a ≤ c)))] [26, 27, 28, 29, 30, 31] ?_
   refine cSp 32 (decide (a ≤ c)) rfl (fun c4_ => ?_) (fun c4_ => ?_)
   ·
    replace c4_ := of_decide_eq_true c4_
    refine bS [0, 0, 0, 0, 0, 0, 0] 37 0 [(2, .bool (decide (b ≤ d)))] ?_
    refine cFg 0 rfl <| cDn <| tNo <| cont_ret ?_
    refine ret_one (.inl rfl) rfl 0 (.bool (decide (b ≤ d))) (by kernel_rfl) (by kernel_rfl) (fun w hT => ?_)
    refine ⟨ret_bool ?_, hT.post rfl⟩
    rw [Bool.eq_iff_iff]
    simp only [mayR, decide_eq_true_eq, Bool.false_eq_true, true_iff, false_iff]
    try unfold mn at *
    try unfold mx at *
    omega
   replace c4_ := of_decide_eq_false c4_
   refine bS [0, 0, 0, 0, 0, 0, 0] 37 0 [(2, .bool false)] ?_
   refine cFg 0 rfl <| cDn <| tNo <| cont_ret ?_
   refine ret_one (.inl rfl) rfl 0 (.bool false) (by kernel_rfl) (by kernel_rfl) (fun w hT => ?_)
   refine ⟨ret_bool ?_, hT.post rfl⟩
   rw [Bool.eq_iff_iff]
   simp only [mayR, decide_eq_true_eq, Bool.false_eq_true, true_iff, false_iff]
   try unfold mn at *
   try unfold mx at *
   omega
  replace c3_ := of_decide_eq_false c3_
  refine bS [0, 0, 0, 0, 0, 0, 0, 0, 0, 0, 0, 0, 0, 0] 37 0 [(2, .bool false)] ?_
  refine cFg 0 rfl <| cDn <| tNo <| cont_ret ?_
  refine ret_one (.inl rfl) rfl 0 (.bool false) (by kernel_rfl) (by kernel_rfl) (fun w hT => ?_)
  refine ⟨ret_bool ?_, hT.post rfl⟩
  rw [Bool.eq_iff_iff]
  simp only [mayR, decide_eq_true_eq, Bool.false_eq_true, true_iff, false_iff]
  try unfold mn at *
  try unfold mx at *
  omega
 replace c2_ := of_decide_eq_false c2_
 refine bS [0, 0, 0, 0, 0, 0, 0, 0, 0, 0, 0, 0, 0, 0, 0, 0, 0, 0, 0, 0, 0, 0, 0, 0, 0, 0] 37 0 [(2, .bool false)] ?_
 refine cFg 0 rfl <| cDn <| tNo <| cont_ret ?_
 refine ret_one (.inl rfl) rfl 0 (.bool false) (by kernel_rfl) (by kernel_rfl) (fun w hT => ?_)
 refine ⟨ret_bool ?_, hT.post rfl⟩
 rw [Bool.eq_iff_iff]
 simp only [mayR, decide_eq_true_eq, Bool.false_eq_true, true_iff, false_iff]
 try unfold mn at *
 try unfold mx at *
 omega
theorem rectChk (a b c d : Int) (w : World) :
    Calls Tryz.prog 132 #[.agg #[iQ a, iQ b, iQ c, iQ d]] w fun e w' => e = .returned (.tuple #[.agg #[iQ ((chkR a b c d).x0), iQ ((chkR a b c d).y0), iQ ((chkR a b c d).x1), iQ ((chkR a b c d).y1)], iQ (chkE a b c d)]) ∧ Below w.heap.size w w' := by
 refine enter 9 [(0, .agg #[iq a, iq b, iq c, iq d])] [] Tryz.func132 rfl Tryz.ntmps132 rfl (by kernel_rfl) (Tab.start w) ?_
 refine cSq <| cRg 3 rfl ?_
 refine batch2 [0, 0, 0] 3 0 (fun b1 b2 => [(1, .pointer (pB b1)), (2, .pointer (pB b2))]) (fun b1 b2 => [.cells b2 [iq 0, iq 0, iq 0, iq 0] 32 true, .cells b1 [iq a, iq b, iq c, iq d] 32 true]) rfl rfl [1, 2] (fun _ _ => rfl) (fun b1 b2 => by kernel_rfl) (fun b1 b2 => by kernel_rfl) (fun b1 b2 => ?_)
 refine cDn <| tNo <| cSq <| cSq <| cRg 3 rfl <| bD [1] 1 2 [(4, .agg #[iq a, iq b, iq c, iq d])] [] ?_
 refine pSt 2 1 rfl rfl <| call_pure (d := 5) (.bool (mayR a b c d)) (by kernel_rfl) (fun w hT => rectMay a b c d w) ?_
 refine bD [0] 3 0 [(6, .bool (!(mayR a b c d)))] [] ?_
 refine cDn <| tNo ?_
 refine cSp 6 (!(mayR a b c d)) rfl (fun c3_ => ?_) (fun c3_ => ?_)
 ·
  replace c3_ : (mayR a b c d) = false := by simpa using c3_
  refine cTr rfl <| cSq <| cRg 3 rfl <| bD [0, 0, 0] 3 0 [(3, iq 4)] [7] ?_
  refine cFg 1 rfl <| cDn <| tNo <| cont_ret <| then_ret ?_
  refine ret_two (.inl rfl) rfl 0 0 (.agg #[iq 0, iq 0, iq 0, iq 0]) (iq 4) (by kernel_rfl) (by kernel_rfl) (by kernel_rfl) (by kernel_rfl) (fun w hT => ?_)
  exact ⟨by simp [chkR, chkE, *], hT.post rfl⟩
 replace c3_ : (mayR a b c d) = true := by simpa using c3_
 refine cFa rfl <| cont_skip <| tNo <| cSq <| cRg 3 rfl <| batch0 [1, 0, 0] 3 0 [(2, .pointer (pB b2)), (3, iq 0)] [.cells b2 [iq a, iq b, iq c, iq d] 32 true, .cells b1 [iq a, iq b, iq c, iq d] 32 true] rfl rfl (by kernel_rfl) (by kernel_rfl) ?_
 refine cFg 1 rfl <| cDn <| tNo <| cont_ret ?_
 refine ret_two (.inl rfl) rfl 0 0 (.agg #[iq a, iq b, iq c, iq d]) (iq 0) (by kernel_rfl) (by kernel_rfl) (by kernel_rfl) (by kernel_rfl) (fun w hT => ?_)
 exact ⟨by simp [chkR, chkE, *], hT.post rfl⟩
theorem rectScl (a b c d s : Int) (w : World) :
    Calls Tryz.prog 122 #[.agg #[iQ a, iQ b, iQ c, iQ d], iQ s] w fun e w' => e = .returned (.tuple #[.agg #[iQ ((sclR a b c d s).x0), iQ ((sclR a b c d s).y0), iQ ((sclR a b c d s).x1), iQ ((sclR a b c d s).y1)], iQ (sclE a b c d s)]) ∧ Below w.heap.size w w' := by
 refine enter 39 [(0, .agg #[iq a, iq b, iq c, iq d]), (1, iq s)] [] Tryz.func122 rfl Tryz.ntmps122 rfl (by kernel_rfl) (Tab.start w) ?_
 refine cSq <| cRg 3 rfl ?_
 refine batch2 [0, 0, 0] 3 0 (fun b1 b2 => [(1, iq s), (2, .pointer (pB b1)), (4, .pointer (pB b2))]) (fun b1 b2 => [.cells b2 [iq 0, iq 0, iq 0, iq 0] 32 true, .cells b1 [iq a, iq b, iq c, iq d] 32 true]) rfl rfl [1, 2, 4] (fun _ _ => rfl) (fun b1 b2 => by kernel_rfl) (fun b1 b2 => by kernel_rfl) (fun b1 b2 => ?_)
 refine cDn <| tNo <| cSq <| cont_block <| cSq <| cRg 7 rfl <| bD [0, 0, 0] 3 4 [(9, .bool (decide (s < 1)))] [7, 8] ?_
 refine cSp 9 (decide (s < 1)) rfl (fun c3_ => ?_) (fun c3_ => ?_)
 ·
  replace c3_ := of_decide_eq_true c3_
  refine bD [0, 0, 0, 0] 7 0 [(6, .bool true)] [10, 11, 12] ?_
  refine cDn <| tNo <| cTr rfl <| cSq <| cRg 3 rfl <| bD [0, 0, 0] 3 0 [(5, iq 1)] [13] ?_
  refine cFg 1 rfl <| cDn <| tNo <| cont_ret <| blk_ret <| then_ret ?_
  refine ret_two (.inl rfl) rfl 0 0 (.agg #[iq 0, iq 0, iq 0, iq 0]) (iq 1) (by kernel_rfl) (by kernel_rfl) (by kernel_rfl) (by kernel_rfl) (fun w hT => ?_)
  exact ⟨by simp [sclR, sclE, *] <;> omega, hT.post rfl⟩
 replace c3_ := of_decide_eq_false c3_
 refine bD [0, 0, 0, 0] 7 0 [(6, .bool (decide (s > 8)))] [10, 11, 12] ?_
 refine cDn <| tNo ?_
 refine cSp 6 (decide (s > 8)) rfl (fun c4_ => ?_) (fun c4_ => ?_)
 ·
  replace c4_ := of_decide_eq_true c4_
  refine cTr rfl <| cSq <| cRg 3 rfl <| bD [0, 0, 0] 3 0 [(5, iq 1)] [13] ?_
  refine cFg 1 rfl <| cDn <| tNo <| cont_ret <| blk_ret <| then_ret ?_
  refine ret_two (.inl rfl) rfl 0 0 (.agg #[iq 0, iq 0, iq 0, iq 0]) (iq 1) (by kernel_rfl) (by kernel_rfl) (by kernel_rfl) (by kernel_rfl) (fun w hT => ?_)
  exact ⟨by simp [sclR, sclE, *] <;> omega, hT.post rfl⟩
 replace c4_ := of_decide_eq_false c4_
 refine cFa rfl <| cSq <| cRg 4 rfl <| bD [1] 1 3 [(15, .agg #[iq a, iq b, iq c, iq d])] [] ?_
 refine pSt 2 2 rfl rfl <| call_pure (d := 16) (.bool (mayR a b c d)) (by kernel_rfl) (fun w hT => rectMay a b c d w) ?_
 refine bD [0, 0] 4 0 [(14, .bool (!(mayR a b c d)))] [17] ?_
 refine cDn <| tNo ?_
 refine cSp 14 (!(mayR a b c d)) rfl (fun c5_ => ?_) (fun c5_ => ?_)
 ·
  replace c5_ : (mayR a b c d) = false := by simpa using c5_
  refine cTr rfl <| cSq <| cRg 3 rfl <| bD [0, 0, 0] 3 0 [(5, iq 4)] [18] ?_
  refine cFg 1 rfl <| cDn <| tNo <| cont_ret <| blk_ret <| then_ret ?_
  refine ret_two (.inl rfl) rfl 0 0 (.agg #[iq 0, iq 0, iq 0, iq 0]) (iq 4) (by kernel_rfl) (by kernel_rfl) (by kernel_rfl) (by kernel_rfl) (fun w hT => ?_)
  exact ⟨by simp [sclR, sclE, *] <;> omega, hT.post rfl⟩
 replace c5_ : (mayR a b c d) = true := by simpa using c5_
 refine cFa rfl <| cont_skip <| blk_normal <| tNo <| cSq <| cRg 22 rfl ?_
 have hm_ := mayR_true.1 ‹_›
 have hsc : ∀ x : Int, -1048576 ≤ x → x ≤ 1048576 → -8388608 ≤ x * s ∧ x * s ≤ 8388608 := fun x h1 h2 => by
   have := Int.mul_le_mul_of_nonneg_right h1 (show 0 ≤ s by omega)
   have := Int.mul_le_mul_of_nonneg_right h2 (show 0 ≤ s by omega)
   omega
 have hs1 := hsc a (by omega) (by omega)
 have hs2 := hsc b (by omega) (by omega)
 have hs3 := hsc c (by omega) (by omega)
 have hs4 := hsc d (by omega) (by omega)
 refine bD [0, 1, 0, 0] 4 18 [(22, iq (IntKind.i64.wrap (a * s)))] [19, 20, 21] ?_
 refine cRc 22 (iq (IntKind.i64.wrap (a * s))) (iq (a * s)) rfl (wrapI (by omega) (by omega)) ?_
 refine bD [0, 1, 0, 0] 8 14 [(26, iq (IntKind.i64.wrap (b * s)))] [23, 24, 25] ?_
 refine cRc 26 (iq (IntKind.i64.wrap (b * s))) (iq (b * s)) rfl (wrapI (by omega) (by omega)) ?_
 refine bD [0, 1, 0, 0] 12 10 [(30, iq (IntKind.i64.wrap (c * s)))] [27, 28, 29] ?_
 refine cRc 30 (iq (IntKind.i64.wrap (c * s))) (iq (c * s)) rfl (wrapI (by omega) (by omega)) ?_
 refine bD [0, 1, 0, 0] 16 6 [(34, iq (IntKind.i64.wrap (d * s)))] [31, 32, 33] ?_
 refine cRc 34 (iq (IntKind.i64.wrap (d * s))) (iq (d * s)) rfl (wrapI (by omega) (by omega)) ?_
 refine cFg 1 rfl <| bD [0] 17 5 [(35, .agg #[iq (a * s), iq (b * s), iq (c * s), iq (d * s)])] [] ?_
 refine pSt 18 4 rfl rfl <| call_pure (d := 36) (.tuple #[.agg #[iq ((chkR (a * s) (b * s) (c * s) (d * s)).x0), iq ((chkR (a * s) (b * s) (c * s) (d * s)).y0), iq ((chkR (a * s) (b * s) (c * s) (d * s)).x1), iq ((chkR (a * s) (b * s) (c * s) (d * s)).y1)], iq (chkE (a * s) (b * s) (c * s) (d * s))]) (by kernel_rfl) (fun w hT => rectChk (a * s) (b * s) (c * s) (d * s) w) ?_
 refine batch0 [0, 0, 0, 0] 22 0 [(4, .pointer (pB b2)), (5, iq (chkE (a * s) (b * s) (c * s) (d * s)))] [.cells b2 [iq ((chkR (a * s) (b * s) (c * s) (d * s)).x0), iq ((chkR (a * s) (b * s) (c * s) (d * s)).y0), iq ((chkR (a * s) (b * s) (c * s) (d * s)).x1), iq ((chkR (a * s) (b * s) (c * s) (d * s)).y1)] 32 true] rfl rfl (by kernel_rfl) (by kernel_rfl) ?_
 refine cDn <| tNo <| cont_ret ?_
 refine ret_two (.inl rfl) rfl 0 0 (.agg #[iq ((chkR (a * s) (b * s) (c * s) (d * s)).x0), iq ((chkR (a * s) (b * s) (c * s) (d * s)).y0), iq ((chkR (a * s) (b * s) (c * s) (d * s)).x1), iq ((chkR (a * s) (b * s) (c * s) (d * s)).y1)]) (iq (chkE (a * s) (b * s) (c * s) (d * s))) (by kernel_rfl) (by kernel_rfl) (by kernel_rfl) (by kernel_rfl) (fun w hT => ?_)
 exact ⟨by simp [sclR, sclE, *] <;> omega, hT.post rfl⟩
theorem movFar (n : Int) (w : World) :
    Calls Tryz.prog 133 #[iQ n] w fun e w' => e = .returned (iQ (farM n)) ∧ Below w.heap.size w w' := by
 refine enter 6 [(0, iq n)] [] Tryz.func133 rfl Tryz.ntmps133 rfl (by kernel_rfl) (Tab.start w) ?_
 refine cSq <| cRg 1 rfl <| bD [0] 1 0 [] [2] ?_
 refine cDn <| tNo <| cSq <| cRg 4 rfl <| bS [0, 0, 0, 0] 4 0 [(2, iq (mn (mx n (-4194304)) 4194304))] ?_
 refine cDn <| tNo <| cont_ret ?_
 refine ret_one (.inl rfl) rfl 0 (iq (mn (mx n (-4194304)) 4194304)) (by kernel_rfl) (by kernel_rfl) (fun w hT => ?_)
 exact ⟨rfl, hT.post rfl⟩
theorem rectMov (a b c d x y : Int) (w : World) (ha : -2097152 ≤ a ∧ a ≤ 2097152) (hb : -2097152 ≤ b ∧ b ≤ 2097152) (hc : -2097152 ≤ c ∧ c ≤ 2097152) (hd : -2097152 ≤ d ∧ d ≤ 2097152) :
    Calls Tryz.prog 123 #[.agg #[iQ a, iQ b, iQ c, iQ d], iQ x, iQ y] w fun e w' => e = .returned (.tuple #[.agg #[iQ ((movR a b c d x y).x0), iQ ((movR a b c d x y).y0), iQ ((movR a b c d x y).x1), iQ ((movR a b c d x y).y1)], iQ (movE a b c d x y)]) ∧ Below w.heap.size w w' := by
 have hfx := farM_range x
 have hfy := farM_range y
 refine enter 35 [(0, .agg #[iq a, iq b, iq c, iq d]), (1, iq x), (2, iq y)] [] Tryz.func123 rfl Tryz.ntmps123 rfl (by kernel_rfl) (Tab.start w) ?_
 refine cSq <| cRg 3 rfl ?_
 refine batch2 [0, 0, 0] 3 0 (fun b1 b2 => [(1, iq x), (2, iq y), (3, .pointer (pB b1)), (6, .pointer (pB b2))]) (fun b1 b2 => [.cells b2 [iq 0, iq 0, iq 0, iq 0] 32 true, .cells b1 [iq a, iq b, iq c, iq d] 32 true]) rfl rfl [1, 2, 3, 6] (fun _ _ => rfl) (fun b1 b2 => by kernel_rfl) (fun b1 b2 => by kernel_rfl) (fun b1 b2 => ?_)
 refine cDn <| tNo <| cSq <| cRg 1 rfl <| bD [0] 1 0 [(8, .func (.func 133) #[] #[])] [] ?_
 refine cDn <| tNo <| cSq <| cRg 8 rfl <| bD [0, 0] 2 6 [(9, .func (.func 133) #[] #[]), (10, iq x)] [] ?_
 refine pSt 3 5 rfl rfl <| call_pure (d := 11) (iq (farM x)) (by kernel_rfl) (fun w hT => movFar x w) ?_
 refine bD [0, 0] 5 3 [(12, .func (.func 133) #[] #[]), (13, iq y)] [] ?_
 refine pSt 6 2 rfl rfl <| call_pure (d := 14) (iq (farM y)) (by kernel_rfl) (fun w hT => movFar y w) ?_
 refine bD [0, 0] 8 0 [(1, iq (farM x)), (2, iq (farM y))] [] ?_
 refine cDn <| tNo <| cSq <| cRg 22 rfl <| bD [0, 1, 0, 0] 4 18 [(18, iq (IntKind.i64.wrap (a + (farM x))))] [15, 16, 17] ?_
 refine cRc 18 (iq (IntKind.i64.wrap (a + (farM x)))) (iq (a + (farM x))) rfl (wrapI (by omega) (by omega)) ?_
 refine bD [0, 1, 0, 0] 8 14 [(22, iq (IntKind.i64.wrap (b + (farM y))))] [19, 20, 21] ?_
 refine cRc 22 (iq (IntKind.i64.wrap (b + (farM y)))) (iq (b + (farM y))) rfl (wrapI (by omega) (by omega)) ?_
 refine bD [0, 1, 0, 0] 12 10 [(26, iq (IntKind.i64.wrap (c + (farM x))))] [23, 24, 25] ?_
 refine cRc 26 (iq (IntKind.i64.wrap (c + (farM x)))) (iq (c + (farM x))) rfl (wrapI (by omega) (by omega)) ?_
 refine bD [0, 1, 0, 0] 16 6 [(30, iq (IntKind.i64.wrap (d + (farM y))))] [27, 28, 29] ?_
 refine cRc 30 (iq (IntKind.i64.wrap (d + (farM y)))) (iq (d + (farM y))) rfl (wrapI (by omega) (by omega)) ?_
 refine cFg 1 rfl <| bD [0] 17 5 [(31, .agg #[iq (a + (farM x)), iq (b + (farM y)), iq (c + (farM x)), iq (d + (farM y))])] [] ?_
 refine pSt 18 4 rfl rfl <| call_pure (d := 32) (.tuple #[.agg #[iq ((chkR (a + (farM x)) (b + (farM y)) (c + (farM x)) (d + (farM y))).x0), iq ((chkR (a + (farM x)) (b + (farM y)) (c + (farM x)) (d + (farM y))).y0), iq ((chkR (a + (farM x)) (b + (farM y)) (c + (farM x)) (d + (farM y))).x1), iq ((chkR (a + (farM x)) (b + (farM y)) (c + (farM x)) (d + (farM y))).y1)], iq (chkE (a + (farM x)) (b + (farM y)) (c + (farM x)) (d + (farM y)))]) (by kernel_rfl) (fun w hT => rectChk (a + (farM x)) (b + (farM y)) (c + (farM x)) (d + (farM y)) w) ?_
 refine batch0 [0, 0, 0, 0] 22 0 [(6, .pointer (pB b2)), (7, iq (chkE (a + (farM x)) (b + (farM y)) (c + (farM x)) (d + (farM y))))] [.cells b2 [iq ((chkR (a + (farM x)) (b + (farM y)) (c + (farM x)) (d + (farM y))).x0), iq ((chkR (a + (farM x)) (b + (farM y)) (c + (farM x)) (d + (farM y))).y0), iq ((chkR (a + (farM x)) (b + (farM y)) (c + (farM x)) (d + (farM y))).x1), iq ((chkR (a + (farM x)) (b + (farM y)) (c + (farM x)) (d + (farM y))).y1)] 32 true] rfl rfl (by kernel_rfl) (by kernel_rfl) ?_
 refine cDn <| tNo <| cont_ret ?_
 refine ret_two (.inl rfl) rfl 0 0 (.agg #[iq ((chkR (a + (farM x)) (b + (farM y)) (c + (farM x)) (d + (farM y))).x0), iq ((chkR (a + (farM x)) (b + (farM y)) (c + (farM x)) (d + (farM y))).y0), iq ((chkR (a + (farM x)) (b + (farM y)) (c + (farM x)) (d + (farM y))).x1), iq ((chkR (a + (farM x)) (b + (farM y)) (c + (farM x)) (d + (farM y))).y1)]) (iq (chkE (a + (farM x)) (b + (farM y)) (c + (farM x)) (d + (farM y)))) (by kernel_rfl) (by kernel_rfl) (by kernel_rfl) (by kernel_rfl) (fun w hT => ?_)
 exact ⟨rfl, hT.post rfl⟩
theorem layShown (m : Nat) (W H : Int) (r n cap : Nat) (px : List Int) (X Y s al ca cb cc cd : Int) (a b c d : Int) (w : World) (hI : ImgR 116 w m W H r n cap px) (hok : ImgOk W H n px) :
    Calls Tryz.prog 103 #[.agg #[pT m, iQ X, iQ Y, iQ s, iQ al, iQ ca, iQ cb, iQ cc, iQ cd], .agg #[iQ a, iQ b, iQ c, iQ d]] w fun e w' => e = .returned (.tuple #[.agg #[iQ ((shwR W H X Y s a b c d).x0), iQ ((shwR W H X Y s a b c d).y0), iQ ((shwR W H X Y s a b c d).x1), iQ ((shwR W H X Y s a b c d).y1)], .bool (shwB W H X Y s a b c d)]) ∧ Below w.heap.size w w' := by
 have hcap := hI.cap
 refine enter 39 [(0, .agg #[.pointer (pB m), iq X, iq Y, iq s, iq al, iq ca, iq cb, iq cc, iq cd]), (1, .agg #[iq a, iq b, iq c, iq d])] [.ro m [iq W, iq H, .slice (pB r) n cap] 116, rD (pB r) r 0 n 1 (cV px)] Tryz.func103 rfl Tryz.ntmps103 rfl (by kernel_rfl) hI.tab ?_
 refine cSq <| cRg 4 rfl ?_
 refine batch3 [0, 0, 0, 0] 4 0 (fun b1 b2 b3 => [(2, .pointer (pB b1)), (3, .pointer (pB b2)), (4, .pointer (pB b3))]) (fun b1 b2 b3 => [.cells b3 [iq 0, iq 0, iq 0, iq 0] 32 true, .cells b2 [iq a, iq b, iq c, iq d] 32 true, .cells b1 [.pointer (pB m), iq X, iq Y, iq s, iq al, iq ca, iq cb, iq cc, iq cd] 120 true, .ro m [iq W, iq H, .slice (pB r) n cap] 116, rD (pB r) r 0 n 1 (cV px)]) rfl rfl [2, 3, 4] (fun _ _ _ => rfl) (fun b1 b2 b3 => by kernel_rfl) (fun b1 b2 b3 => by kernel_rfl) (fun b1 b2 b3 => ?_)
 refine cDn <| tNo <| cSq <| drawn_enter 6 [1] rfl (by kernel_rfl) ?_
 refine tD 0 [1] [(1, 0), (2, 2)] 4 [2, 1] [(9, .pointer (pB m))] [8] ?_
 refine drawn_two 0 3 3 rfl (by kernel_rfl) ?_ ?_
 ·
  refine oS 1 [(2, .pointer (pB b1)), (3, .pointer (pB b2)), (4, .pointer (pB b3)), (7, .agg #[iq a, iq b, iq c, iq d]), (9, .pointer (pB m))] [.cells b3 [iq 0, iq 0, iq 0, iq 0] 32 true, .cells b2 [iq a, iq b, iq c, iq d] 32 true, .cells b1 [.pointer (pB m), iq X, iq Y, iq s, iq al, iq ca, iq cb, iq cc, iq cd] 120 true, .ro m [iq W, iq H, .slice (pB r) n cap] 116, rD (pB r) r 0 n 1 (cV px)] ?_
  refine dNx 0 [1] (by kernel_rfl) ?_
  refine dOn 3 2 rfl (by kernel_rfl) ?_
  refine call_pure (d := 10) (.agg #[iq 0, iq 0, iq W, iq H]) (by kernel_rfl) (fun w hT => imgBox m W H r n cap px  w ⟨hT.ok 3 _ rfl, hT.ok 4 _ rfl, by omega⟩ hok) ?_
  refine dNx 0 [1] (by kernel_rfl) ?_
  refine dOn 4 1 rfl (by kernel_rfl) ?_
  refine call_pure (d := 11) (.agg #[iq ((cutR a b c d 0 0 W H).x0), iq ((cutR a b c d 0 0 W H).y0), iq ((cutR a b c d 0 0 W H).x1), iq ((cutR a b c d 0 0 W H).y1)]) (by kernel_rfl) (fun w hT => rectCut a b c d 0 0 W H w) ?_
  refine dNx 0 [1] (by kernel_rfl) ?_
  refine dOn 5 0 rfl (by kernel_rfl) ?_
  refine oS 1 [(2, .pointer (pB b1)), (3, .pointer (pB b2)), (4, .pointer (pB b3))] [.cells b3 [iq 0, iq 0, iq 0, iq 0] 32 true, .cells b2 [iq ((cutR a b c d 0 0 W H).x0), iq ((cutR a b c d 0 0 W H).y0), iq ((cutR a b c d 0 0 W H).x1), iq ((cutR a b c d 0 0 W H).y1)] 32 true, .cells b1 [.pointer (pB m), iq X, iq Y, iq s, iq al, iq ca, iq cb, iq cc, iq cd] 120 true, .ro m [iq W, iq H, .slice (pB r) n cap] 116, rD (pB r) r 0 n 1 (cV px)] ?_
  refine dNx 0 [1] (by kernel_rfl) ?_
  refine drawn_done (by kernel_rfl) ?_
  refine tNo <| cSq <| cSq <| cRg 2 rfl <| bD [1] 1 1 [(12, .agg #[iq ((cutR a b c d 0 0 W H).x0), iq ((cutR a b c d 0 0 W H).y0), iq ((cutR a b c d 0 0 W H).x1), iq ((cutR a b c d 0 0 W H).y1)])] [] ?_
  refine pSt 2 0 rfl rfl <| call_pure (d := 13) (.bool (emptyB ((cutR a b c d 0 0 W H).x0) ((cutR a b c d 0 0 W H).y0) ((cutR a b c d 0 0 W H).x1) ((cutR a b c d 0 0 W H).y1))) (by kernel_rfl) (fun w hT => rectEmpty ((cutR a b c d 0 0 W H).x0) ((cutR a b c d 0 0 W H).y0) ((cutR a b c d 0 0 W H).x1) ((cutR a b c d 0 0 W H).y1) w) ?_
  refine cDn <| tNo ?_
  refine cSp 13 (emptyB ((cutR a b c d 0 0 W H).x0) ((cutR a b c d 0 0 W H).y0) ((cutR a b c d 0 0 W H).x1) ((cutR a b c d 0 0 W H).y1)) rfl (fun c4_ => ?_) (fun c4_ => ?_)
  ·
   refine cTr rfl <| cSq <| cRg 3 rfl <| bD [0, 0, 0] 3 0 [(5, .bool true)] [14] ?_
   refine cFg 1 rfl <| cFg 1 rfl <| cDn <| tNo <| cont_ret <| then_ret ?_
   refine ret_two (.inl rfl) rfl 0 0 (.agg #[iq 0, iq 0, iq 0, iq 0]) (.bool true) (by kernel_rfl) (by kernel_rfl) (by kernel_rfl) (by kernel_rfl) (fun w hT => ?_)
   exact ⟨by simp [shwR, shwB, *], hT.post rfl⟩
  refine cFa rfl <| cont_skip <| tNo <| cSq <| cRg 9 rfl <| bD [1, 0, 2] 3 6 [(16, .agg #[iq ((cutR a b c d 0 0 W H).x0), iq ((cutR a b c d 0 0 W H).y0), iq ((cutR a b c d 0 0 W H).x1), iq ((cutR a b c d 0 0 W H).y1)]), (18, iq s)] [17] ?_
  refine pSt 4 5 rfl rfl <| call_pure (d := 19) (.tuple #[.agg #[iq ((sclR ((cutR a b c d 0 0 W H).x0) ((cutR a b c d 0 0 W H).y0) ((cutR a b c d 0 0 W H).x1) ((cutR a b c d 0 0 W H).y1) s).x0), iq ((sclR ((cutR a b c d 0 0 W H).x0) ((cutR a b c d 0 0 W H).y0) ((cutR a b c d 0 0 W H).x1) ((cutR a b c d 0 0 W H).y1) s).y0), iq ((sclR ((cutR a b c d 0 0 W H).x0) ((cutR a b c d 0 0 W H).y0) ((cutR a b c d 0 0 W H).x1) ((cutR a b c d 0 0 W H).y1) s).x1), iq ((sclR ((cutR a b c d 0 0 W H).x0) ((cutR a b c d 0 0 W H).y0) ((cutR a b c d 0 0 W H).x1) ((cutR a b c d 0 0 W H).y1) s).y1)], iq (sclE ((cutR a b c d 0 0 W H).x0) ((cutR a b c d 0 0 W H).y0) ((cutR a b c d 0 0 W H).x1) ((cutR a b c d 0 0 W H).y1) s)]) (by kernel_rfl) (fun w hT => rectScl ((cutR a b c d 0 0 W H).x0) ((cutR a b c d 0 0 W H).y0) ((cutR a b c d 0 0 W H).x1) ((cutR a b c d 0 0 W H).y1) s w) ?_
  refine batch0 [0, 0, 0, 1, 0] 9 0 [(2, .pointer (pB b1)), (3, .pointer (pB b2)), (4, .pointer (pB b3)), (6, iq (sclE ((cutR a b c d 0 0 W H).x0) ((cutR a b c d 0 0 W H).y0) ((cutR a b c d 0 0 W H).x1) ((cutR a b c d 0 0 W H).y1) s))] [.cells b3 [iq 0, iq 0, iq 0, iq 0] 32 true, .cells b2 [iq ((sclR ((cutR a b c d 0 0 W H).x0) ((cutR a b c d 0 0 W H).y0) ((cutR a b c d 0 0 W H).x1) ((cutR a b c d 0 0 W H).y1) s).x0), iq ((sclR ((cutR a b c d 0 0 W H).x0) ((cutR a b c d 0 0 W H).y0) ((cutR a b c d 0 0 W H).x1) ((cutR a b c d 0 0 W H).y1) s).y0), iq ((sclR ((cutR a b c d 0 0 W H).x0) ((cutR a b c d 0 0 W H).y0) ((cutR a b c d 0 0 W H).x1) ((cutR a b c d 0 0 W H).y1) s).x1), iq ((sclR ((cutR a b c d 0 0 W H).x0) ((cutR a b c d 0 0 W H).y0) ((cutR a b c d 0 0 W H).x1) ((cutR a b c d 0 0 W H).y1) s).y1)] 32 true, .cells b1 [.pointer (pB m), iq X, iq Y, iq s, iq al, iq ca, iq cb, iq cc, iq cd] 120 true, .ro m [iq W, iq H, .slice (pB r) n cap] 116, rD (pB r) r 0 n 1 (cV px)] rfl rfl (by kernel_rfl) (by kernel_rfl) ?_
  refine cDn <| tNo <| cSq <| cSq <| cRg 2 rfl <| bD [0, 0] 2 0 [(23, .bool ((sclE ((cutR a b c d 0 0 W H).x0) ((cutR a b c d 0 0 W H).y0) ((cutR a b c d 0 0 W H).x1) ((cutR a b c d 0 0 W H).y1) s) != 0))] [22] ?_
  refine cDn <| tNo ?_
  refine cSp 23 ((sclE ((cutR a b c d 0 0 W H).x0) ((cutR a b c d 0 0 W H).y0) ((cutR a b c d 0 0 W H).x1) ((cutR a b c d 0 0 W H).y1) s) != 0) rfl (fun c5_ => ?_) (fun c5_ => ?_)
  ·
   replace c5_ := ne_of_bne c5_
   refine cTr rfl <| cSq <| cRg 3 rfl <| bD [0, 0, 0] 3 0 [(5, .bool false)] [24] ?_
   refine cFg 1 rfl <| cFg 1 rfl <| cDn <| tNo <| cont_ret <| then_ret ?_
   refine ret_two (.inl rfl) rfl 0 0 (.agg #[iq 0, iq 0, iq 0, iq 0]) (.bool false) (by kernel_rfl) (by kernel_rfl) (by kernel_rfl) (by kernel_rfl) (fun w hT => ?_)
   exact ⟨by simp [shwR, shwB, *], hT.post rfl⟩
  replace c5_ := eq_of_bne_false c5_
  refine cFa rfl <| cont_skip <| tNo <| cSq <| cRg 13 rfl ?_
  have hsr := sclR_range (cutR a b c d 0 0 W H).x0 (cutR a b c d 0 0 W H).y0 (cutR a b c d 0 0 W H).x1 (cutR a b c d 0 0 W H).y1 s
  refine bD [1, 0, 0, 2, 0, 0, 2] 7 6 [(26, .agg #[iq ((sclR ((cutR a b c d 0 0 W H).x0) ((cutR a b c d 0 0 W H).y0) ((cutR a b c d 0 0 W H).x1) ((cutR a b c d 0 0 W H).y1) s).x0), iq ((sclR ((cutR a b c d 0 0 W H).x0) ((cutR a b c d 0 0 W H).y0) ((cutR a b c d 0 0 W H).x1) ((cutR a b c d 0 0 W H).y1) s).y0), iq ((sclR ((cutR a b c d 0 0 W H).x0) ((cutR a b c d 0 0 W H).y0) ((cutR a b c d 0 0 W H).x1) ((cutR a b c d 0 0 W H).y1) s).x1), iq ((sclR ((cutR a b c d 0 0 W H).x0) ((cutR a b c d 0 0 W H).y0) ((cutR a b c d 0 0 W H).x1) ((cutR a b c d 0 0 W H).y1) s).y1)]), (29, iq X), (32, iq Y)] [27, 28, 30, 31] ?_
  refine cFg 2 rfl <| pSt 8 5 rfl rfl <| call_pure (d := 33) (.tuple #[.agg #[iq ((movR ((sclR ((cutR a b c d 0 0 W H).x0) ((cutR a b c d 0 0 W H).y0) ((cutR a b c d 0 0 W H).x1) ((cutR a b c d 0 0 W H).y1) s).x0) ((sclR ((cutR a b c d 0 0 W H).x0) ((cutR a b c d 0 0 W H).y0) ((cutR a b c d 0 0 W H).x1) ((cutR a b c d 0 0 W H).y1) s).y0) ((sclR ((cutR a b c d 0 0 W H).x0) ((cutR a b c d 0 0 W H).y0) ((cutR a b c d 0 0 W H).x1) ((cutR a b c d 0 0 W H).y1) s).x1) ((sclR ((cutR a b c d 0 0 W H).x0) ((cutR a b c d 0 0 W H).y0) ((cutR a b c d 0 0 W H).x1) ((cutR a b c d 0 0 W H).y1) s).y1) X Y).x0), iq ((movR ((sclR ((cutR a b c d 0 0 W H).x0) ((cutR a b c d 0 0 W H).y0) ((cutR a b c d 0 0 W H).x1) ((cutR a b c d 0 0 W H).y1) s).x0) ((sclR ((cutR a b c d 0 0 W H).x0) ((cutR a b c d 0 0 W H).y0) ((cutR a b c d 0 0 W H).x1) ((cutR a b c d 0 0 W H).y1) s).y0) ((sclR ((cutR a b c d 0 0 W H).x0) ((cutR a b c d 0 0 W H).y0) ((cutR a b c d 0 0 W H).x1) ((cutR a b c d 0 0 W H).y1) s).x1) ((sclR ((cutR a b c d 0 0 W H).x0) ((cutR a b c d 0 0 W H).y0) ((cutR a b c d 0 0 W H).x1) ((cutR a b c d 0 0 W H).y1) s).y1) X Y).y0), iq ((movR ((sclR ((cutR a b c d 0 0 W H).x0) ((cutR a b c d 0 0 W H).y0) ((cutR a b c d 0 0 W H).x1) ((cutR a b c d 0 0 W H).y1) s).x0) ((sclR ((cutR a b c d 0 0 W H).x0) ((cutR a b c d 0 0 W H).y0) ((cutR a b c d 0 0 W H).x1) ((cutR a b c d 0 0 W H).y1) s).y0) ((sclR ((cutR a b c d 0 0 W H).x0) ((cutR a b c d 0 0 W H).y0) ((cutR a b c d 0 0 W H).x1) ((cutR a b c d 0 0 W H).y1) s).x1) ((sclR ((cutR a b c d 0 0 W H).x0) ((cutR a b c d 0 0 W H).y0) ((cutR a b c d 0 0 W H).x1) ((cutR a b c d 0 0 W H).y1) s).y1) X Y).x1), iq ((movR ((sclR ((cutR a b c d 0 0 W H).x0) ((cutR a b c d 0 0 W H).y0) ((cutR a b c d 0 0 W H).x1) ((cutR a b c d 0 0 W H).y1) s).x0) ((sclR ((cutR a b c d 0 0 W H).x0) ((cutR a b c d 0 0 W H).y0) ((cutR a b c d 0 0 W H).x1) ((cutR a b c d 0 0 W H).y1) s).y0) ((sclR ((cutR a b c d 0 0 W H).x0) ((cutR a b c d 0 0 W H).y0) ((cutR a b c d 0 0 W H).x1) ((cutR a b c d 0 0 W H).y1) s).x1) ((sclR ((cutR a b c d 0 0 W H).x0) ((cutR a b c d 0 0 W H).y0) ((cutR a b c d 0 0 W H).x1) ((cutR a b c d 0 0 W H).y1) s).y1) X Y).y1)], iq (movE ((sclR ((cutR a b c d 0 0 W H).x0) ((cutR a b c d 0 0 W H).y0) ((cutR a b c d 0 0 W H).x1) ((cutR a b c d 0 0 W H).y1) s).x0) ((sclR ((cutR a b c d 0 0 W H).x0) ((cutR a b c d 0 0 W H).y0) ((cutR a b c d 0 0 W H).x1) ((cutR a b c d 0 0 W H).y1) s).y0) ((sclR ((cutR a b c d 0 0 W H).x0) ((cutR a b c d 0 0 W H).y0) ((cutR a b c d 0 0 W H).x1) ((cutR a b c d 0 0 W H).y1) s).x1) ((sclR ((cutR a b c d 0 0 W H).x0) ((cutR a b c d 0 0 W H).y0) ((cutR a b c d 0 0 W H).x1) ((cutR a b c d 0 0 W H).y1) s).y1) X Y)]) (by kernel_rfl) (fun w hT => rectMov ((sclR ((cutR a b c d 0 0 W H).x0) ((cutR a b c d 0 0 W H).y0) ((cutR a b c d 0 0 W H).x1) ((cutR a b c d 0 0 W H).y1) s).x0) ((sclR ((cutR a b c d 0 0 W H).x0) ((cutR a b c d 0 0 W H).y0) ((cutR a b c d 0 0 W H).x1) ((cutR a b c d 0 0 W H).y1) s).y0) ((sclR ((cutR a b c d 0 0 W H).x0) ((cutR a b c d 0 0 W H).y0) ((cutR a b c d 0 0 W H).x1) ((cutR a b c d 0 0 W H).y1) s).x1) ((sclR ((cutR a b c d 0 0 W H).x0) ((cutR a b c d 0 0 W H).y0) ((cutR a b c d 0 0 W H).x1) ((cutR a b c d 0 0 W H).y1) s).y1) X Y w (by omega) (by omega) (by omega) (by omega)) ?_
  refine batch0 [0, 0, 0, 1, 0] 13 0 [(3, .pointer (pB b2)), (4, .pointer (pB b3)), (6, iq (movE ((sclR ((cutR a b c d 0 0 W H).x0) ((cutR a b c d 0 0 W H).y0) ((cutR a b c d 0 0 W H).x1) ((cutR a b c d 0 0 W H).y1) s).x0) ((sclR ((cutR a b c d 0 0 W H).x0) ((cutR a b c d 0 0 W H).y0) ((cutR a b c d 0 0 W H).x1) ((cutR a b c d 0 0 W H).y1) s).y0) ((sclR ((cutR a b c d 0 0 W H).x0) ((cutR a b c d 0 0 W H).y0) ((cutR a b c d 0 0 W H).x1) ((cutR a b c d 0 0 W H).y1) s).x1) ((sclR ((cutR a b c d 0 0 W H).x0) ((cutR a b c d 0 0 W H).y0) ((cutR a b c d 0 0 W H).x1) ((cutR a b c d 0 0 W H).y1) s).y1) X Y))] [.cells b3 [iq 0, iq 0, iq 0, iq 0] 32 true, .cells b2 [iq ((movR ((sclR ((cutR a b c d 0 0 W H).x0) ((cutR a b c d 0 0 W H).y0) ((cutR a b c d 0 0 W H).x1) ((cutR a b c d 0 0 W H).y1) s).x0) ((sclR ((cutR a b c d 0 0 W H).x0) ((cutR a b c d 0 0 W H).y0) ((cutR a b c d 0 0 W H).x1) ((cutR a b c d 0 0 W H).y1) s).y0) ((sclR ((cutR a b c d 0 0 W H).x0) ((cutR a b c d 0 0 W H).y0) ((cutR a b c d 0 0 W H).x1) ((cutR a b c d 0 0 W H).y1) s).x1) ((sclR ((cutR a b c d 0 0 W H).x0) ((cutR a b c d 0 0 W H).y0) ((cutR a b c d 0 0 W H).x1) ((cutR a b c d 0 0 W H).y1) s).y1) X Y).x0), iq ((movR ((sclR ((cutR a b c d 0 0 W H).x0) ((cutR a b c d 0 0 W H).y0) ((cutR a b c d 0 0 W H).x1) ((cutR a b c d 0 0 W H).y1) s).x0) ((sclR ((cutR a b c d 0 0 W H).x0) ((cutR a b c d 0 0 W H).y0) ((cutR a b c d 0 0 W H).x1) ((cutR a b c d 0 0 W H).y1) s).y0) ((sclR ((cutR a b c d 0 0 W H).x0) ((cutR a b c d 0 0 W H).y0) ((cutR a b c d 0 0 W H).x1) ((cutR a b c d 0 0 W H).y1) s).x1) ((sclR ((cutR a b c d 0 0 W H).x0) ((cutR a b c d 0 0 W H).y0) ((cutR a b c d 0 0 W H).x1) ((cutR a b c d 0 0 W H).y1) s).y1) X Y).y0), iq ((movR ((sclR ((cutR a b c d 0 0 W H).x0) ((cutR a b c d 0 0 W H).y0) ((cutR a b c d 0 0 W H).x1) ((cutR a b c d 0 0 W H).y1) s).x0) ((sclR ((cutR a b c d 0 0 W H).x0) ((cutR a b c d 0 0 W H).y0) ((cutR a b c d 0 0 W H).x1) ((cutR a b c d 0 0 W H).y1) s).y0) ((sclR ((cutR a b c d 0 0 W H).x0) ((cutR a b c d 0 0 W H).y0) ((cutR a b c d 0 0 W H).x1) ((cutR a b c d 0 0 W H).y1) s).x1) ((sclR ((cutR a b c d 0 0 W H).x0) ((cutR a b c d 0 0 W H).y0) ((cutR a b c d 0 0 W H).x1) ((cutR a b c d 0 0 W H).y1) s).y1) X Y).x1), iq ((movR ((sclR ((cutR a b c d 0 0 W H).x0) ((cutR a b c d 0 0 W H).y0) ((cutR a b c d 0 0 W H).x1) ((cutR a b c d 0 0 W H).y1) s).x0) ((sclR ((cutR a b c d 0 0 W H).x0) ((cutR a b c d 0 0 W H).y0) ((cutR a b c d 0 0 W H).x1) ((cutR a b c d 0 0 W H).y1) s).y0) ((sclR ((cutR a b c d 0 0 W H).x0) ((cutR a b c d 0 0 W H).y0) ((cutR a b c d 0 0 W H).x1) ((cutR a b c d 0 0 W H).y1) s).x1) ((sclR ((cutR a b c d 0 0 W H).x0) ((cutR a b c d 0 0 W H).y0) ((cutR a b c d 0 0 W H).x1) ((cutR a b c d 0 0 W H).y1) s).y1) X Y).y1)] 32 true, .ro m [iq W, iq H, .slice (pB r) n cap] 116, rD (pB r) r 0 n 1 (cV px)] rfl rfl (by kernel_rfl) (by kernel_rfl) ?_
  refine cDn <| tNo <| cSq <| cRg 5 rfl <| batch0 [1, 0, 0, 0, 0] 5 0 [(4, .pointer (pB b3)), (5, .bool ((movE ((sclR ((cutR a b c d 0 0 W H).x0) ((cutR a b c d 0 0 W H).y0) ((cutR a b c d 0 0 W H).x1) ((cutR a b c d 0 0 W H).y1) s).x0) ((sclR ((cutR a b c d 0 0 W H).x0) ((cutR a b c d 0 0 W H).y0) ((cutR a b c d 0 0 W H).x1) ((cutR a b c d 0 0 W H).y1) s).y0) ((sclR ((cutR a b c d 0 0 W H).x0) ((cutR a b c d 0 0 W H).y0) ((cutR a b c d 0 0 W H).x1) ((cutR a b c d 0 0 W H).y1) s).x1) ((sclR ((cutR a b c d 0 0 W H).x0) ((cutR a b c d 0 0 W H).y0) ((cutR a b c d 0 0 W H).x1) ((cutR a b c d 0 0 W H).y1) s).y1) X Y) == 0))] [.cells b3 [iq ((movR ((sclR ((cutR a b c d 0 0 W H).x0) ((cutR a b c d 0 0 W H).y0) ((cutR a b c d 0 0 W H).x1) ((cutR a b c d 0 0 W H).y1) s).x0) ((sclR ((cutR a b c d 0 0 W H).x0) ((cutR a b c d 0 0 W H).y0) ((cutR a b c d 0 0 W H).x1) ((cutR a b c d 0 0 W H).y1) s).y0) ((sclR ((cutR a b c d 0 0 W H).x0) ((cutR a b c d 0 0 W H).y0) ((cutR a b c d 0 0 W H).x1) ((cutR a b c d 0 0 W H).y1) s).x1) ((sclR ((cutR a b c d 0 0 W H).x0) ((cutR a b c d 0 0 W H).y0) ((cutR a b c d 0 0 W H).x1) ((cutR a b c d 0 0 W H).y1) s).y1) X Y).x0), iq ((movR ((sclR ((cutR a b c d 0 0 W H).x0) ((cutR a b c d 0 0 W H).y0) ((cutR a b c d 0 0 W H).x1) ((cutR a b c d 0 0 W H).y1) s).x0) ((sclR ((cutR a b c d 0 0 W H).x0) ((cutR a b c d 0 0 W H).y0) ((cutR a b c d 0 0 W H).x1) ((cutR a b c d 0 0 W H).y1) s).y0) ((sclR ((cutR a b c d 0 0 W H).x0) ((cutR a b c d 0 0 W H).y0) ((cutR a b c d 0 0 W H).x1) ((cutR a b c d 0 0 W H).y1) s).x1) ((sclR ((cutR a b c d 0 0 W H).x0) ((cutR a b c d 0 0 W H).y0) ((cutR a b c d 0 0 W H).x1) ((cutR a b c d 0 0 W H).y1) s).y1) X Y).y0), iq ((movR ((sclR ((cutR a b c d 0 0 W H).x0) ((cutR a b c d 0 0 W H).y0) ((cutR a b c d 0 0 W H).x1) ((cutR a b c d 0 0 W H).y1) s).x0) ((sclR ((cutR a b c d 0 0 W H).x0) ((cutR a b c d 0 0 W H).y0) ((cutR a b c d 0 0 W H).x1) ((cutR a b c d 0 0 W H).y1) s).y0) ((sclR ((cutR a b c d 0 0 W H).x0) ((cutR a b c d 0 0 W H).y0) ((cutR a b c d 0 0 W H).x1) ((cutR a b c d 0 0 W H).y1) s).x1) ((sclR ((cutR a b c d 0 0 W H).x0) ((cutR a b c d 0 0 W H).y0) ((cutR a b c d 0 0 W H).x1) ((cutR a b c d 0 0 W H).y1) s).y1) X Y).x1), iq ((movR ((sclR ((cutR a b c d 0 0 W H).x0) ((cutR a b c d 0 0 W H).y0) ((cutR a b c d 0 0 W H).x1) ((cutR a b c d 0 0 W H).y1) s).x0) ((sclR ((cutR a b c d 0 0 W H).x0) ((cutR a b c d 0 0 W H).y0) ((cutR a b c d 0 0 W H).x1) ((cutR a b c d 0 0 W H).y1) s).y0) ((sclR ((cutR a b c d 0 0 W H).x0) ((cutR a b c d 0 0 W H).y0) ((cutR a b c d 0 0 W H).x1) ((cutR a b c d 0 0 W H).y1) s).x1) ((sclR ((cutR a b c d 0 0 W H).x0) ((cutR a b c d 0 0 W H).y0) ((cutR a b c d 0 0 W H).x1) ((cutR a b c d 0 0 W H).y1) s).y1) X Y).y1)] 32 true, .cells b2 [iq ((movR ((sclR ((cutR a b c d 0 0 W H).x0) ((cutR a b c d 0 0 W H).y0) ((cutR a b c d 0 0 W H).x1) ((cutR a b c d 0 0 W H).y1) s).x0) ((sclR ((cutR a b c d 0 0 W H).x0) ((cutR a b c d 0 0 W H).y0) ((cutR a b c d 0 0 W H).x1) ((cutR a b c d 0 0 W H).y1) s).y0) ((sclR ((cutR a b c d 0 0 W H).x0) ((cutR a b c d 0 0 W H).y0) ((cutR a b c d 0 0 W H).x1) ((cutR a b c d 0 0 W H).y1) s).x1) ((sclR ((cutR a b c d 0 0 W H).x0) ((cutR a b c d 0 0 W H).y0) ((cutR a b c d 0 0 W H).x1) ((cutR a b c d 0 0 W H).y1) s).y1) X Y).x0), iq ((movR ((sclR ((cutR a b c d 0 0 W H).x0) ((cutR a b c d 0 0 W H).y0) ((cutR a b c d 0 0 W H).x1) ((cutR a b c d 0 0 W H).y1) s).x0) ((sclR ((cutR a b c d 0 0 W H).x0) ((cutR a b c d 0 0 W H).y0) ((cutR a b c d 0 0 W H).x1) ((cutR a b c d 0 0 W H).y1) s).y0) ((sclR ((cutR a b c d 0 0 W H).x0) ((cutR a b c d 0 0 W H).y0) ((cutR a b c d 0 0 W H).x1) ((cutR a b c d 0 0 W H).y1) s).x1) ((sclR ((cutR a b c d 0 0 W H).x0) ((cutR a b c d 0 0 W H).y0) ((cutR a b c d 0 0 W H).x1) ((cutR a b c d 0 0 W H).y1) s).y1) X Y).y0), iq ((movR ((sclR ((cutR a b c d 0 0 W H).x0) ((cutR a b c d 0 0 W H).y0) ((cutR a b c d 0 0 W H).x1) ((cutR a b c d 0 0 W H).y1) s).x0) ((sclR ((cutR a b c d 0 0 W H).x0) ((cutR a b c d 0 0 W H).y0) ((cutR a b c d 0 0 W H).x1) ((cutR a b c d 0 0 W H).y1) s).y0) ((sclR ((cutR a b c d 0 0 W H).x0) ((cutR a b c d 0 0 W H).y0) ((cutR a b c d 0 0 W H).x1) ((cutR a b c d 0 0 W H).y1) s).x1) ((sclR ((cutR a b c d 0 0 W H).x0) ((cutR a b c d 0 0 W H).y0) ((cutR a b c d 0 0 W H).x1) ((cutR a b c d 0 0 W H).y1) s).y1) X Y).x1), iq ((movR ((sclR ((cutR a b c d 0 0 W H).x0) ((cutR a b c d 0 0 W H).y0) ((cutR a b c d 0 0 W H).x1) ((cutR a b c d 0 0 W H).y1) s).x0) ((sclR ((cutR a b c d 0 0 W H).x0) ((cutR a b c d 0 0 W H).y0) ((cutR a b c d 0 0 W H).x1) ((cutR a b c d 0 0 W H).y1) s).y0) ((sclR ((cutR a b c d 0 0 W H).x0) ((cutR a b c d 0 0 W H).y0) ((cutR a b c d 0 0 W H).x1) ((cutR a b c d 0 0 W H).y1) s).x1) ((sclR ((cutR a b c d 0 0 W H).x0) ((cutR a b c d 0 0 W H).y0) ((cutR a b c d 0 0 W H).x1) ((cutR a b c d 0 0 W H).y1) s).y1) X Y).y1)] 32 true, .ro m [iq W, iq H, .slice (pB r) n cap] 116, rD (pB r) r 0 n 1 (cV px)] rfl rfl (by kernel_rfl) (by kernel_rfl) ?_
  refine cFg 1 rfl <| cDn <| tNo <| cont_ret ?_
  refine ret_two (.inl rfl) rfl 0 0 (.agg #[iq ((movR ((sclR ((cutR a b c d 0 0 W H).x0) ((cutR a b c d 0 0 W H).y0) ((cutR a b c d 0 0 W H).x1) ((cutR a b c d 0 0 W H).y1) s).x0) ((sclR ((cutR a b c d 0 0 W H).x0) ((cutR a b c d 0 0 W H).y0) ((cutR a b c d 0 0 W H).x1) ((cutR a b c d 0 0 W H).y1) s).y0) ((sclR ((cutR a b c d 0 0 W H).x0) ((cutR a b c d 0 0 W H).y0) ((cutR a b c d 0 0 W H).x1) ((cutR a b c d 0 0 W H).y1) s).x1) ((sclR ((cutR a b c d 0 0 W H).x0) ((cutR a b c d 0 0 W H).y0) ((cutR a b c d 0 0 W H).x1) ((cutR a b c d 0 0 W H).y1) s).y1) X Y).x0), iq ((movR ((sclR ((cutR a b c d 0 0 W H).x0) ((cutR a b c d 0 0 W H).y0) ((cutR a b c d 0 0 W H).x1) ((cutR a b c d 0 0 W H).y1) s).x0) ((sclR ((cutR a b c d 0 0 W H).x0) ((cutR a b c d 0 0 W H).y0) ((cutR a b c d 0 0 W H).x1) ((cutR a b c d 0 0 W H).y1) s).y0) ((sclR ((cutR a b c d 0 0 W H).x0) ((cutR a b c d 0 0 W H).y0) ((cutR a b c d 0 0 W H).x1) ((cutR a b c d 0 0 W H).y1) s).x1) ((sclR ((cutR a b c d 0 0 W H).x0) ((cutR a b c d 0 0 W H).y0) ((cutR a b c d 0 0 W H).x1) ((cutR a b c d 0 0 W H).y1) s).y1) X Y).y0), iq ((movR ((sclR ((cutR a b c d 0 0 W H).x0) ((cutR a b c d 0 0 W H).y0) ((cutR a b c d 0 0 W H).x1) ((cutR a b c d 0 0 W H).y1) s).x0) ((sclR ((cutR a b c d 0 0 W H).x0) ((cutR a b c d 0 0 W H).y0) ((cutR a b c d 0 0 W H).x1) ((cutR a b c d 0 0 W H).y1) s).y0) ((sclR ((cutR a b c d 0 0 W H).x0) ((cutR a b c d 0 0 W H).y0) ((cutR a b c d 0 0 W H).x1) ((cutR a b c d 0 0 W H).y1) s).x1) ((sclR ((cutR a b c d 0 0 W H).x0) ((cutR a b c d 0 0 W H).y0) ((cutR a b c d 0 0 W H).x1) ((cutR a b c d 0 0 W H).y1) s).y1) X Y).x1), iq ((movR ((sclR ((cutR a b c d 0 0 W H).x0) ((cutR a b c d 0 0 W H).y0) ((cutR a b c d 0 0 W H).x1) ((cutR a b c d 0 0 W H).y1) s).x0) ((sclR ((cutR a b c d 0 0 W H).x0) ((cutR a b c d 0 0 W H).y0) ((cutR a b c d 0 0 W H).x1) ((cutR a b c d 0 0 W H).y1) s).y0) ((sclR ((cutR a b c d 0 0 W H).x0) ((cutR a b c d 0 0 W H).y0) ((cutR a b c d 0 0 W H).x1) ((cutR a b c d 0 0 W H).y1) s).x1) ((sclR ((cutR a b c d 0 0 W H).x0) ((cutR a b c d 0 0 W H).y0) ((cutR a b c d 0 0 W H).x1) ((cutR a b c d 0 0 W H).y1) s).y1) X Y).y1)]) (.bool ((movE ((sclR ((cutR a b c d 0 0 W H).x0) ((cutR a b c d 0 0 W H).y0) ((cutR a b c d 0 0 W H).x1) ((cutR a b c d 0 0 W H).y1) s).x0) ((sclR ((cutR a b c d 0 0 W H).x0) ((cutR a b c d 0 0 W H).y0) ((cutR a b c d 0 0 W H).x1) ((cutR a b c d 0 0 W H).y1) s).y0) ((sclR ((cutR a b c d 0 0 W H).x0) ((cutR a b c d 0 0 W H).y0) ((cutR a b c d 0 0 W H).x1) ((cutR a b c d 0 0 W H).y1) s).x1) ((sclR ((cutR a b c d 0 0 W H).x0) ((cutR a b c d 0 0 W H).y0) ((cutR a b c d 0 0 W H).x1) ((cutR a b c d 0 0 W H).y1) s).y1) X Y) == 0)) (by kernel_rfl) (by kernel_rfl) (by kernel_rfl) (by kernel_rfl) (fun w hT => ?_)
  exact ⟨by simp [shwR, shwB, *], hT.post rfl⟩
 refine call_pure (d := 10) (.agg #[iq 0, iq 0, iq W, iq H]) (by kernel_rfl) (fun w hT => imgBox m W H r n cap px  w ⟨hT.ok 3 _ rfl, hT.ok 4 _ rfl, by omega⟩ hok) ?_
 refine dNx 0 [1] (by kernel_rfl) ?_
 refine dOn 0 2 rfl (by kernel_rfl) ?_
 refine oS 1 [(2, .pointer (pB b1)), (3, .pointer (pB b2)), (4, .pointer (pB b3)), (7, .agg #[iq a, iq b, iq c, iq d]), (10, .agg #[iq 0, iq 0, iq W, iq H])] [.cells b3 [iq 0, iq 0, iq 0, iq 0] 32 true, .cells b2 [iq a, iq b, iq c, iq d] 32 true, .cells b1 [.pointer (pB m), iq X, iq Y, iq s, iq al, iq ca, iq cb, iq cc, iq cd] 120 true, .ro m [iq W, iq H, .slice (pB r) n cap] 116, rD (pB r) r 0 n 1 (cV px)] ?_
 refine dNx 0 [1] (by kernel_rfl) ?_
 refine dOn 4 1 rfl (by kernel_rfl) ?_
 refine call_pure (d := 11) (.agg #[iq ((cutR a b c d 0 0 W H).x0), iq ((cutR a b c d 0 0 W H).y0), iq ((cutR a b c d 0 0 W H).x1), iq ((cutR a b c d 0 0 W H).y1)]) (by kernel_rfl) (fun w hT => rectCut a b c d 0 0 W H w) ?_
 refine dNx 0 [1] (by kernel_rfl) ?_
 refine dOn 5 0 rfl (by kernel_rfl) ?_
 refine oS 1 [(2, .pointer (pB b1)), (3, .pointer (pB b2)), (4, .pointer (pB b3))] [.cells b3 [iq 0, iq 0, iq 0, iq 0] 32 true, .cells b2 [iq ((cutR a b c d 0 0 W H).x0), iq ((cutR a b c d 0 0 W H).y0), iq ((cutR a b c d 0 0 W H).x1), iq ((cutR a b c d 0 0 W H).y1)] 32 true, .cells b1 [.pointer (pB m), iq X, iq Y, iq s, iq al, iq ca, iq cb, iq cc, iq cd] 120 true, .ro m [iq W, iq H, .slice (pB r) n cap] 116, rD (pB r) r 0 n 1 (cV px)] ?_
 refine dNx 0 [1] (by kernel_rfl) ?_
 refine drawn_done (by kernel_rfl) ?_
 refine tNo <| cSq <| cSq <| cRg 2 rfl <| bD [1] 1 1 [(12, .agg #[iq ((cutR a b c d 0 0 W H).x0), iq ((cutR a b c d 0 0 W H).y0), iq ((cutR a b c d 0 0 W H).x1), iq ((cutR a b c d 0 0 W H).y1)])] [] ?_
 refine pSt 2 0 rfl rfl <| call_pure (d := 13) (.bool (emptyB ((cutR a b c d 0 0 W H).x0) ((cutR a b c d 0 0 W H).y0) ((cutR a b c d 0 0 W H).x1) ((cutR a b c d 0 0 W H).y1))) (by kernel_rfl) (fun w hT => rectEmpty ((cutR a b c d 0 0 W H).x0) ((cutR a b c d 0 0 W H).y0) ((cutR a b c d 0 0 W H).x1) ((cutR a b c d 0 0 W H).y1) w) ?_
 refine cDn <| tNo ?_
 refine cSp 13 (emptyB ((cutR a b c d 0 0 W H).x0) ((cutR a b c d 0 0 W H).y0) ((cutR a b c d 0 0 W H).x1) ((cutR a b c d 0 0 W H).y1)) rfl (fun c6_ => ?_) (fun c6_ => ?_)
 ·
  refine cTr rfl <| cSq <| cRg 3 rfl <| bD [0, 0, 0] 3 0 [(5, .bool true)] [14] ?_
  refine cFg 1 rfl <| cFg 1 rfl <| cDn <| tNo <| cont_ret <| then_ret ?_
  refine ret_two (.inl rfl) rfl 0 0 (.agg #[iq 0, iq 0, iq 0, iq 0]) (.bool true) (by kernel_rfl) (by kernel_rfl) (by kernel_rfl) (by kernel_rfl) (fun w hT => ?_)
  exact ⟨by simp [shwR, shwB, *], hT.post rfl⟩
 refine cFa rfl <| cont_skip <| tNo <| cSq <| cRg 9 rfl <| bD [1, 0, 2] 3 6 [(16, .agg #[iq ((cutR a b c d 0 0 W H).x0), iq ((cutR a b c d 0 0 W H).y0), iq ((cutR a b c d 0 0 W H).x1), iq ((cutR a b c d 0 0 W H).y1)]), (18, iq s)] [17] ?_
 refine pSt 4 5 rfl rfl <| call_pure (d := 19) (.tuple #[.agg #[iq ((sclR ((cutR a b c d 0 0 W H).x0) ((cutR a b c d 0 0 W H).y0) ((cutR a b c d 0 0 W H).x1) ((cutR a b c d 0 0 W H).y1) s).x0), iq ((sclR ((cutR a b c d 0 0 W H).x0) ((cutR a b c d 0 0 W H).y0) ((cutR a b c d 0 0 W H).x1) ((cutR a b c d 0 0 W H).y1) s).y0), iq ((sclR ((cutR a b c d 0 0 W H).x0) ((cutR a b c d 0 0 W H).y0) ((cutR a b c d 0 0 W H).x1) ((cutR a b c d 0 0 W H).y1) s).x1), iq ((sclR ((cutR a b c d 0 0 W H).x0) ((cutR a b c d 0 0 W H).y0) ((cutR a b c d 0 0 W H).x1) ((cutR a b c d 0 0 W H).y1) s).y1)], iq (sclE ((cutR a b c d 0 0 W H).x0) ((cutR a b c d 0 0 W H).y0) ((cutR a b c d 0 0 W H).x1) ((cutR a b c d 0 0 W H).y1) s)]) (by kernel_rfl) (fun w hT => rectScl ((cutR a b c d 0 0 W H).x0) ((cutR a b c d 0 0 W H).y0) ((cutR a b c d 0 0 W H).x1) ((cutR a b c d 0 0 W H).y1) s w) ?_
 refine batch0 [0, 0, 0, 1, 0] 9 0 [(2, .pointer (pB b1)), (3, .pointer (pB b2)), (4, .pointer (pB b3)), (6, iq (sclE ((cutR a b c d 0 0 W H).x0) ((cutR a b c d 0 0 W H).y0) ((cutR a b c d 0 0 W H).x1) ((cutR a b c d 0 0 W H).y1) s))] [.cells b3 [iq 0, iq 0, iq 0, iq 0] 32 true, .cells b2 [iq ((sclR ((cutR a b c d 0 0 W H).x0) ((cutR a b c d 0 0 W H).y0) ((cutR a b c d 0 0 W H).x1) ((cutR a b c d 0 0 W H).y1) s).x0), iq ((sclR ((cutR a b c d 0 0 W H).x0) ((cutR a b c d 0 0 W H).y0) ((cutR a b c d 0 0 W H).x1) ((cutR a b c d 0 0 W H).y1) s).y0), iq ((sclR ((cutR a b c d 0 0 W H).x0) ((cutR a b c d 0 0 W H).y0) ((cutR a b c d 0 0 W H).x1) ((cutR a b c d 0 0 W H).y1) s).x1), iq ((sclR ((cutR a b c d 0 0 W H).x0) ((cutR a b c d 0 0 W H).y0) ((cutR a b c d 0 0 W H).x1) ((cutR a b c d 0 0 W H).y1) s).y1)] 32 true, .cells b1 [.pointer (pB m), iq X, iq Y, iq s, iq al, iq ca, iq cb, iq cc, iq cd] 120 true, .ro m [iq W, iq H, .slice (pB r) n cap] 116, rD (pB r) r 0 n 1 (cV px)] rfl rfl (by kernel_rfl) (by kernel_rfl) ?_
 refine cDn <| tNo <| cSq <| cSq <| cRg 2 rfl <| bD [0, 0] 2 0 [(23, .bool ((sclE ((cutR a b c d 0 0 W H).x0) ((cutR a b c d 0 0 W H).y0) ((cutR a b c d 0 0 W H).x1) ((cutR a b c d 0 0 W H).y1) s) != 0))] [22] ?_
 refine cDn <| tNo ?_
 refine cSp 23 ((sclE ((cutR a b c d 0 0 W H).x0) ((cutR a b c d 0 0 W H).y0) ((cutR a b c d 0 0 W H).x1) ((cutR a b c d 0 0 W H).y1) s) != 0) rfl (fun c7_ => ?_) (fun c7_ => ?_)
 ·
  replace c7_ := ne_of_bne c7_
  refine cTr rfl <| cSq <| cRg 3 rfl <| bD [0, 0, 0] 3 0 [(5, .bool false)] [24] ?_
  refine cFg 1 rfl <| cFg 1 rfl <| cDn <| tNo <| cont_ret <| then_ret ?_
  refine ret_two (.inl rfl) rfl 0 0 (.agg #[iq 0, iq 0, iq 0, iq 0]) (.bool false) (by kernel_rfl) (by kernel_rfl) (by kernel_rfl) (by kernel_rfl) (fun w hT => ?_)
  exact ⟨by simp [shwR, shwB, *], hT.post rfl⟩
 replace c7_ := eq_of_bne_false c7_
 refine cFa rfl <| cont_skip <| tNo <| cSq <| cRg 13 rfl ?_
 have hsr := sclR_range (cutR a b c d 0 0 W H).x0 (cutR a b c d 0 0 W H).y0 (cutR a b c d 0 0 W H).x1 (cutR a b c d 0 0 W H).y1 s
 refine bD [1, 0, 0, 2, 0, 0, 2] 7 6 [(26, .agg #[iq ((sclR ((cutR a b c d 0 0 W H).x0) ((cutR a b c d 0 0 W H).y0) ((cutR a b c d 0 0 W H).x1) ((cutR a b c d 0 0 W H).y1) s).x0), iq ((sclR ((cutR a b c d 0 0 W H).x0) ((cutR a b c d 0 0 W H).y0) ((cutR a b c d 0 0 W H).x1) ((cutR a b c d 0 0 W H).y1) s).y0), iq ((sclR ((cutR a b c d 0 0 W H).x0) ((cutR a b c d 0 0 W H).y0) ((cutR a b c d 0 0 W H).x1) ((cutR a b c d 0 0 W H).y1) s).x1), iq ((sclR ((cutR a b c d 0 0 W H).x0) ((cutR a b c d 0 0 W H).y0) ((cutR a b c d 0 0 W H).x1) ((cutR a b c d 0 0 W H).y1) s).y1)]), (29, iq X), (32, iq Y)] [27, 28, 30, 31] ?_
 refine cFg 2 rfl <| pSt 8 5 rfl rfl <| call_pure (d := 33) (.tuple #[.agg #[iq ((movR ((sclR ((cutR a b c d 0 0 W H).x0) ((cutR a b c d 0 0 W H).y0) ((cutR a b c d 0 0 W H).x1) ((cutR a b c d 0 0 W H).y1) s).x0) ((sclR ((cutR a b c d 0 0 W H).x0) ((cutR a b c d 0 0 W H).y0) ((cutR a b c d 0 0 W H).x1) ((cutR a b c d 0 0 W H).y1) s).y0) ((sclR ((cutR a b c d 0 0 W H).x0) ((cutR a b c d 0 0 W H).y0) ((cutR a b c d 0 0 W H).x1) ((cutR a b c d 0 0 W H).y1) s).x1) ((sclR ((cutR a b c d 0 0 W H).x0) ((cutR a b c d 0 0 W H).y0) ((cutR a b c d 0 0 W H).x1) ((cutR a b c d 0 0 W H).y1) s).y1) X Y).x0), iq ((movR ((sclR ((cutR a b c d 0 0 W H).x0) ((cutR a b c d 0 0 W H).y0) ((cutR a b c d 0 0 W H).x1) ((cutR a b c d 0 0 W H).y1) s).x0) ((sclR ((cutR a b c d 0 0 W H).x0) ((cutR a b c d 0 0 W H).y0) ((cutR a b c d 0 0 W H).x1) ((cutR a b c d 0 0 W H).y1) s).y0) ((sclR ((cutR a b c d 0 0 W H).x0) ((cutR a b c d 0 0 W H).y0) ((cutR a b c d 0 0 W H).x1) ((cutR a b c d 0 0 W H).y1) s).x1) ((sclR ((cutR a b c d 0 0 W H).x0) ((cutR a b c d 0 0 W H).y0) ((cutR a b c d 0 0 W H).x1) ((cutR a b c d 0 0 W H).y1) s).y1) X Y).y0), iq ((movR ((sclR ((cutR a b c d 0 0 W H).x0) ((cutR a b c d 0 0 W H).y0) ((cutR a b c d 0 0 W H).x1) ((cutR a b c d 0 0 W H).y1) s).x0) ((sclR ((cutR a b c d 0 0 W H).x0) ((cutR a b c d 0 0 W H).y0) ((cutR a b c d 0 0 W H).x1) ((cutR a b c d 0 0 W H).y1) s).y0) ((sclR ((cutR a b c d 0 0 W H).x0) ((cutR a b c d 0 0 W H).y0) ((cutR a b c d 0 0 W H).x1) ((cutR a b c d 0 0 W H).y1) s).x1) ((sclR ((cutR a b c d 0 0 W H).x0) ((cutR a b c d 0 0 W H).y0) ((cutR a b c d 0 0 W H).x1) ((cutR a b c d 0 0 W H).y1) s).y1) X Y).x1), iq ((movR ((sclR ((cutR a b c d 0 0 W H).x0) ((cutR a b c d 0 0 W H).y0) ((cutR a b c d 0 0 W H).x1) ((cutR a b c d 0 0 W H).y1) s).x0) ((sclR ((cutR a b c d 0 0 W H).x0) ((cutR a b c d 0 0 W H).y0) ((cutR a b c d 0 0 W H).x1) ((cutR a b c d 0 0 W H).y1) s).y0) ((sclR ((cutR a b c d 0 0 W H).x0) ((cutR a b c d 0 0 W H).y0) ((cutR a b c d 0 0 W H).x1) ((cutR a b c d 0 0 W H).y1) s).x1) ((sclR ((cutR a b c d 0 0 W H).x0) ((cutR a b c d 0 0 W H).y0) ((cutR a b c d 0 0 W H).x1) ((cutR a b c d 0 0 W H).y1) s).y1) X Y).y1)], iq (movE ((sclR ((cutR a b c d 0 0 W H).x0) ((cutR a b c d 0 0 W H).y0) ((cutR a b c d 0 0 W H).x1) ((cutR a b c d 0 0 W H).y1) s).x0) ((sclR ((cutR a b c d 0 0 W H).x0) ((cutR a b c d 0 0 W H).y0) ((cutR a b c d 0 0 W H).x1) ((cutR a b c d 0 0 W H).y1) s).y0) ((sclR ((cutR a b c d 0 0 W H).x0) ((cutR a b c d 0 0 W H).y0) ((cutR a b c d 0 0 W H).x1) ((cutR a b c d 0 0 W H).y1) s).x1) ((sclR ((cutR a b c d 0 0 W H).x0) ((cutR a b c d 0 0 W H).y0) ((cutR a b c d 0 0 W H).x1) ((cutR a b c d 0 0 W H).y1) s).y1) X Y)]) (by kernel_rfl) (fun w hT => rectMov ((sclR ((cutR a b c d 0 0 W H).x0) ((cutR a b c d 0 0 W H).y0) ((cutR a b c d 0 0 W H).x1) ((cutR a b c d 0 0 W H).y1) s).x0) ((sclR ((cutR a b c d 0 0 W H).x0) ((cutR a b c d 0 0 W H).y0) ((cutR a b c d 0 0 W H).x1) ((cutR a b c d 0 0 W H).y1) s).y0) ((sclR ((cutR a b c d 0 0 W H).x0) ((cutR a b c d 0 0 W H).y0) ((cutR a b c d 0 0 W H).x1) ((cutR a b c d 0 0 W H).y1) s).x1) ((sclR ((cutR a b c d 0 0 W H).x0) ((cutR a b c d 0 0 W H).y0) ((cutR a b c d 0 0 W H).x1) ((cutR a b c d 0 0 W H).y1) s).y1) X Y w (by omega) (by omega) (by omega) (by omega)) ?_
 refine batch0 [0, 0, 0, 1, 0] 13 0 [(3, .pointer (pB b2)), (4, .pointer (pB b3)), (6, iq (movE ((sclR ((cutR a b c d 0 0 W H).x0) ((cutR a b c d 0 0 W H).y0) ((cutR a b c d 0 0 W H).x1) ((cutR a b c d 0 0 W H).y1) s).x0) ((sclR ((cutR a b c d 0 0 W H).x0) ((cutR a b c d 0 0 W H).y0) ((cutR a b c d 0 0 W H).x1) ((cutR a b c d 0 0 W H).y1) s).y0) ((sclR ((cutR a b c d 0 0 W H).x0) ((cutR a b c d 0 0 W H).y0) ((cutR a b c d 0 0 W H).x1) ((cutR a b c d 0 0 W H).y1) s).x1) ((sclR ((cutR a b c d 0 0 W H).x0) ((cutR a b c d 0 0 W H).y0) ((cutR a b c d 0 0 W H).x1) ((cutR a b c d 0 0 W H).y1) s).y1) X Y))] [.cells b3 [iq 0, iq 0, iq 0, iq 0] 32 true, .cells b2 [iq ((movR ((sclR ((cutR a b c d 0 0 W H).x0) ((cutR a b c d 0 0 W H).y0) ((cutR a b c d 0 0 W H).x1) ((cutR a b c d 0 0 W H).y1) s).x0) ((sclR ((cutR a b c d 0 0 W H).x0) ((cutR a b c d 0 0 W H).y0) ((cutR a b c d 0 0 W H).x1) ((cutR a b c d 0 0 W H).y1) s).y0) ((sclR ((cutR a b c d 0 0 W H).x0) ((cutR a b c d 0 0 W H).y0) ((cutR a b c d 0 0 W H).x1) ((cutR a b c d 0 0 W H).y1) s).x1) ((sclR ((cutR a b c d 0 0 W H).x0) ((cutR a b c d 0 0 W H).y0) ((cutR a b c d 0 0 W H).x1) ((cutR a b c d 0 0 W H).y1) s).y1) X Y).x0), iq ((movR ((sclR ((cutR a b c d 0 0 W H).x0) ((cutR a b c d 0 0 W H).y0) ((cutR a b c d 0 0 W H).x1) ((cutR a b c d 0 0 W H).y1) s).x0) ((sclR ((cutR a b c d 0 0 W H).x0) ((cutR a b c d 0 0 W H).y0) ((cutR a b c d 0 0 W H).x1) ((cutR a b c d 0 0 W H).y1) s).y0) ((sclR ((cutR a b c d 0 0 W H).x0) ((cutR a b c d 0 0 W H).y0) ((cutR a b c d 0 0 W H).x1) ((cutR a b c d 0 0 W H).y1) s).x1) ((sclR ((cutR a b c d 0 0 W H).x0) ((cutR a b c d 0 0 W H).y0) ((cutR a b c d 0 0 W H).x1) ((cutR a b c d 0 0 W H).y1) s).y1) X Y).y0), iq ((movR ((sclR ((cutR a b c d 0 0 W H).x0) ((cutR a b c d 0 0 W H).y0) ((cutR a b c d 0 0 W H).x1) ((cutR a b c d 0 0 W H).y1) s).x0) ((sclR ((cutR a b c d 0 0 W H).x0) ((cutR a b c d 0 0 W H).y0) ((cutR a b c d 0 0 W H).x1) ((cutR a b c d 0 0 W H).y1) s).y0) ((sclR ((cutR a b c d 0 0 W H).x0) ((cutR a b c d 0 0 W H).y0) ((cutR a b c d 0 0 W H).x1) ((cutR a b c d 0 0 W H).y1) s).x1) ((sclR ((cutR a b c d 0 0 W H).x0) ((cutR a b c d 0 0 W H).y0) ((cutR a b c d 0 0 W H).x1) ((cutR a b c d 0 0 W H).y1) s).y1) X Y).x1), iq ((movR ((sclR ((cutR a b c d 0 0 W H).x0) ((cutR a b c d 0 0 W H).y0) ((cutR a b c d 0 0 W H).x1) ((cutR a b c d 0 0 W H).y1) s).x0) ((sclR ((cutR a b c d 0 0 W H).x0) ((cutR a b c d 0 0 W H).y0) ((cutR a b c d 0 0 W H).x1) ((cutR a b c d 0 0 W H).y1) s).y0) ((sclR ((cutR a b c d 0 0 W H).x0) ((cutR a b c d 0 0 W H).y0) ((cutR a b c d 0 0 W H).x1) ((cutR a b c d 0 0 W H).y1) s).x1) ((sclR ((cutR a b c d 0 0 W H).x0) ((cutR a b c d 0 0 W H).y0) ((cutR a b c d 0 0 W H).x1) ((cutR a b c d 0 0 W H).y1) s).y1) X Y).y1)] 32 true, .ro m [iq W, iq H, .slice (pB r) n cap] 116, rD (pB r) r 0 n 1 (cV px)] rfl rfl (by kernel_rfl) (by kernel_rfl) ?_
 refine cDn <| tNo <| cSq <| cRg 5 rfl <| batch0 [1, 0, 0, 0, 0] 5 0 [(4, .pointer (pB b3)), (5, .bool ((movE ((sclR ((cutR a b c d 0 0 W H).x0) ((cutR a b c d 0 0 W H).y0) ((cutR a b c d 0 0 W H).x1) ((cutR a b c d 0 0 W H).y1) s).x0) ((sclR ((cutR a b c d 0 0 W H).x0) ((cutR a b c d 0 0 W H).y0) ((cutR a b c d 0 0 W H).x1) ((cutR a b c d 0 0 W H).y1) s).y0) ((sclR ((cutR a b c d 0 0 W H).x0) ((cutR a b c d 0 0 W H).y0) ((cutR a b c d 0 0 W H).x1) ((cutR a b c d 0 0 W H).y1) s).x1) ((sclR ((cutR a b c d 0 0 W H).x0) ((cutR a b c d 0 0 W H).y0) ((cutR a b c d 0 0 W H).x1) ((cutR a b c d 0 0 W H).y1) s).y1) X Y) == 0))] [.cells b3 [iq ((movR ((sclR ((cutR a b c d 0 0 W H).x0) ((cutR a b c d 0 0 W H).y0) ((cutR a b c d 0 0 W H).x1) ((cutR a b c d 0 0 W H).y1) s).x0) ((sclR ((cutR a b c d 0 0 W H).x0) ((cutR a b c d 0 0 W H).y0) ((cutR a b c d 0 0 W H).x1) ((cutR a b c d 0 0 W H).y1) s).y0) ((sclR ((cutR a b c d 0 0 W H).x0) ((cutR a b c d 0 0 W H).y0) ((cutR a b c d 0 0 W H).x1) ((cutR a b c d 0 0 W H).y1) s).x1) ((sclR ((cutR a b c d 0 0 W H).x0) ((cutR a b c d 0 0 W H).y0) ((cutR a b c d 0 0 W H).x1) ((cutR a b c d 0 0 W H).y1) s).y1) X Y).x0), iq ((movR ((sclR ((cutR a b c d 0 0 W H).x0) ((cutR a b c d 0 0 W H).y0) ((cutR a b c d 0 0 W H).x1) ((cutR a b c d 0 0 W H).y1) s).x0) ((sclR ((cutR a b c d 0 0 W H).x0) ((cutR a b c d 0 0 W H).y0) ((cutR a b c d 0 0 W H).x1) ((cutR a b c d 0 0 W H).y1) s).y0) ((sclR ((cutR a b c d 0 0 W H).x0) ((cutR a b c d 0 0 W H).y0) ((cutR a b c d 0 0 W H).x1) ((cutR a b c d 0 0 W H).y1) s).x1) ((sclR ((cutR a b c d 0 0 W H).x0) ((cutR a b c d 0 0 W H).y0) ((cutR a b c d 0 0 W H).x1) ((cutR a b c d 0 0 W H).y1) s).y1) X Y).y0), iq ((movR ((sclR ((cutR a b c d 0 0 W H).x0) ((cutR a b c d 0 0 W H).y0) ((cutR a b c d 0 0 W H).x1) ((cutR a b c d 0 0 W H).y1) s).x0) ((sclR ((cutR a b c d 0 0 W H).x0) ((cutR a b c d 0 0 W H).y0) ((cutR a b c d 0 0 W H).x1) ((cutR a b c d 0 0 W H).y1) s).y0) ((sclR ((cutR a b c d 0 0 W H).x0) ((cutR a b c d 0 0 W H).y0) ((cutR a b c d 0 0 W H).x1) ((cutR a b c d 0 0 W H).y1) s).x1) ((sclR ((cutR a b c d 0 0 W H).x0) ((cutR a b c d 0 0 W H).y0) ((cutR a b c d 0 0 W H).x1) ((cutR a b c d 0 0 W H).y1) s).y1) X Y).x1), iq ((movR ((sclR ((cutR a b c d 0 0 W H).x0) ((cutR a b c d 0 0 W H).y0) ((cutR a b c d 0 0 W H).x1) ((cutR a b c d 0 0 W H).y1) s).x0) ((sclR ((cutR a b c d 0 0 W H).x0) ((cutR a b c d 0 0 W H).y0) ((cutR a b c d 0 0 W H).x1) ((cutR a b c d 0 0 W H).y1) s).y0) ((sclR ((cutR a b c d 0 0 W H).x0) ((cutR a b c d 0 0 W H).y0) ((cutR a b c d 0 0 W H).x1) ((cutR a b c d 0 0 W H).y1) s).x1) ((sclR ((cutR a b c d 0 0 W H).x0) ((cutR a b c d 0 0 W H).y0) ((cutR a b c d 0 0 W H).x1) ((cutR a b c d 0 0 W H).y1) s).y1) X Y).y1)] 32 true, .cells b2 [iq ((movR ((sclR ((cutR a b c d 0 0 W H).x0) ((cutR a b c d 0 0 W H).y0) ((cutR a b c d 0 0 W H).x1) ((cutR a b c d 0 0 W H).y1) s).x0) ((sclR ((cutR a b c d 0 0 W H).x0) ((cutR a b c d 0 0 W H).y0) ((cutR a b c d 0 0 W H).x1) ((cutR a b c d 0 0 W H).y1) s).y0) ((sclR ((cutR a b c d 0 0 W H).x0) ((cutR a b c d 0 0 W H).y0) ((cutR a b c d 0 0 W H).x1) ((cutR a b c d 0 0 W H).y1) s).x1) ((sclR ((cutR a b c d 0 0 W H).x0) ((cutR a b c d 0 0 W H).y0) ((cutR a b c d 0 0 W H).x1) ((cutR a b c d 0 0 W H).y1) s).y1) X Y).x0), iq ((movR ((sclR ((cutR a b c d 0 0 W H).x0) ((cutR a b c d 0 0 W H).y0) ((cutR a b c d 0 0 W H).x1) ((cutR a b c d 0 0 W H).y1) s).x0) ((sclR ((cutR a b c d 0 0 W H).x0) ((cutR a b c d 0 0 W H).y0) ((cutR a b c d 0 0 W H).x1) ((cutR a b c d 0 0 W H).y1) s).y0) ((sclR ((cutR a b c d 0 0 W H).x0) ((cutR a b c d 0 0 W H).y0) ((cutR a b c d 0 0 W H).x1) ((cutR a b c d 0 0 W H).y1) s).x1) ((sclR ((cutR a b c d 0 0 W H).x0) ((cutR a b c d 0 0 W H).y0) ((cutR a b c d 0 0 W H).x1) ((cutR a b c d 0 0 W H).y1) s).y1) X Y).y0), iq ((movR ((sclR ((cutR a b c d 0 0 W H).x0) ((cutR a b c d 0 0 W H).y0) ((cutR a b c d 0 0 W H).x1) ((cutR a b c d 0 0 W H).y1) s).x0) ((sclR ((cutR a b c d 0 0 W H).x0) ((cutR a b c d 0 0 W H).y0) ((cutR a b c d 0 0 W H).x1) ((cutR a b c d 0 0 W H).y1) s).y0) ((sclR ((cutR a b c d 0 0 W H).x0) ((cutR a b c d 0 0 W H).y0) ((cutR a b c d 0 0 W H).x1) ((cutR a b c d 0 0 W H).y1) s).x1) ((sclR ((cutR a b c d 0 0 W H).x0) ((cutR a b c d 0 0 W H).y0) ((cutR a b c d 0 0 W H).x1) ((cutR a b c d 0 0 W H).y1) s).y1) X Y).x1), iq ((movR ((sclR ((cutR a b c d 0 0 W H).x0) ((cutR a b c d 0 0 W H).y0) ((cutR a b c d 0 0 W H).x1) ((cutR a b c d 0 0 W H).y1) s).x0) ((sclR ((cutR a b c d 0 0 W H).x0) ((cutR a b c d 0 0 W H).y0) ((cutR a b c d 0 0 W H).x1) ((cutR a b c d 0 0 W H).y1) s).y0) ((sclR ((cutR a b c d 0 0 W H).x0) ((cutR a b c d 0 0 W H).y0) ((cutR a b c d 0 0 W H).x1) ((cutR a b c d 0 0 W H).y1) s).x1) ((sclR ((cutR a b c d 0 0 W H).x0) ((cutR a b c d 0 0 W H).y0) ((cutR a b c d 0 0 W H).x1) ((cutR a b c d 0 0 W H).y1) s).y1) X Y).y1)] 32 true, .ro m [iq W, iq H, .slice (pB r) n cap] 116, rD (pB r) r 0 n 1 (cV px)] rfl rfl (by kernel_rfl) (by kernel_rfl) ?_
 refine cFg 1 rfl <| cDn <| tNo <| cont_ret ?_
 refine ret_two (.inl rfl) rfl 0 0 (.agg #[iq ((movR ((sclR ((cutR a b c d 0 0 W H).x0) ((cutR a b c d 0 0 W H).y0) ((cutR a b c d 0 0 W H).x1) ((cutR a b c d 0 0 W H).y1) s).x0) ((sclR ((cutR a b c d 0 0 W H).x0) ((cutR a b c d 0 0 W H).y0) ((cutR a b c d 0 0 W H).x1) ((cutR a b c d 0 0 W H).y1) s).y0) ((sclR ((cutR a b c d 0 0 W H).x0) ((cutR a b c d 0 0 W H).y0) ((cutR a b c d 0 0 W H).x1) ((cutR a b c d 0 0 W H).y1) s).x1) ((sclR ((cutR a b c d 0 0 W H).x0) ((cutR a b c d 0 0 W H).y0) ((cutR a b c d 0 0 W H).x1) ((cutR a b c d 0 0 W H).y1) s).y1) X Y).x0), iq ((movR ((sclR ((cutR a b c d 0 0 W H).x0) ((cutR a b c d 0 0 W H).y0) ((cutR a b c d 0 0 W H).x1) ((cutR a b c d 0 0 W H).y1) s).x0) ((sclR ((cutR a b c d 0 0 W H).x0) ((cutR a b c d 0 0 W H).y0) ((cutR a b c d 0 0 W H).x1) ((cutR a b c d 0 0 W H).y1) s).y0) ((sclR ((cutR a b c d 0 0 W H).x0) ((cutR a b c d 0 0 W H).y0) ((cutR a b c d 0 0 W H).x1) ((cutR a b c d 0 0 W H).y1) s).x1) ((sclR ((cutR a b c d 0 0 W H).x0) ((cutR a b c d 0 0 W H).y0) ((cutR a b c d 0 0 W H).x1) ((cutR a b c d 0 0 W H).y1) s).y1) X Y).y0), iq ((movR ((sclR ((cutR a b c d 0 0 W H).x0) ((cutR a b c d 0 0 W H).y0) ((cutR a b c d 0 0 W H).x1) ((cutR a b c d 0 0 W H).y1) s).x0) ((sclR ((cutR a b c d 0 0 W H).x0) ((cutR a b c d 0 0 W H).y0) ((cutR a b c d 0 0 W H).x1) ((cutR a b c d 0 0 W H).y1) s).y0) ((sclR ((cutR a b c d 0 0 W H).x0) ((cutR a b c d 0 0 W H).y0) ((cutR a b c d 0 0 W H).x1) ((cutR a b c d 0 0 W H).y1) s).x1) ((sclR ((cutR a b c d 0 0 W H).x0) ((cutR a b c d 0 0 W H).y0) ((cutR a b c d 0 0 W H).x1) ((cutR a b c d 0 0 W H).y1) s).y1) X Y).x1), iq ((movR ((sclR ((cutR a b c d 0 0 W H).x0) ((cutR a b c d 0 0 W H).y0) ((cutR a b c d 0 0 W H).x1) ((cutR a b c d 0 0 W H).y1) s).x0) ((sclR ((cutR a b c d 0 0 W H).x0) ((cutR a b c d 0 0 W H).y0) ((cutR a b c d 0 0 W H).x1) ((cutR a b c d 0 0 W H).y1) s).y0) ((sclR ((cutR a b c d 0 0 W H).x0) ((cutR a b c d 0 0 W H).y0) ((cutR a b c d 0 0 W H).x1) ((cutR a b c d 0 0 W H).y1) s).x1) ((sclR ((cutR a b c d 0 0 W H).x0) ((cutR a b c d 0 0 W H).y0) ((cutR a b c d 0 0 W H).x1) ((cutR a b c d 0 0 W H).y1) s).y1) X Y).y1)]) (.bool ((movE ((sclR ((cutR a b c d 0 0 W H).x0) ((cutR a b c d 0 0 W H).y0) ((cutR a b c d 0 0 W H).x1) ((cutR a b c d 0 0 W H).y1) s).x0) ((sclR ((cutR a b c d 0 0 W H).x0) ((cutR a b c d 0 0 W H).y0) ((cutR a b c d 0 0 W H).x1) ((cutR a b c d 0 0 W H).y1) s).y0) ((sclR ((cutR a b c d 0 0 W H).x0) ((cutR a b c d 0 0 W H).y0) ((cutR a b c d 0 0 W H).x1) ((cutR a b c d 0 0 W H).y1) s).x1) ((sclR ((cutR a b c d 0 0 W H).x0) ((cutR a b c d 0 0 W H).y0) ((cutR a b c d 0 0 W H).x1) ((cutR a b c d 0 0 W H).y1) s).y1) X Y) == 0)) (by kernel_rfl) (by kernel_rfl) (by kernel_rfl) (by kernel_rfl) (fun w hT => ?_)
 exact ⟨by simp [shwR, shwB, *], hT.post rfl⟩
theorem layBox (m : Nat) (W H : Int) (r n cap : Nat) (px : List Int) (X Y s al ca cb cc cd : Int) (w : World) (hI : ImgR 116 w m W H r n cap px) (hok : ImgOk W H n px) :
    Calls Tryz.prog 77 #[.agg #[pT m, iQ X, iQ Y, iQ s, iQ al, iQ ca, iQ cb, iQ cc, iQ cd]] w fun e w' => e = .returned (.agg #[iQ ((shwR W H X Y s ca cb cc cd).x0), iQ ((shwR W H X Y s ca cb cc cd).y0), iQ ((shwR W H X Y s ca cb cc cd).x1), iQ ((shwR W H X Y s ca cb cc cd).y1)]) ∧ Below w.heap.size w w' := by
 have hcap := hI.cap
 refine enter 13 [(0, .agg #[.pointer (pB m), iq X, iq Y, iq s, iq al, iq ca, iq cb, iq cc, iq cd])] [.ro m [iq W, iq H, .slice (pB r) n cap] 116, rD (pB r) r 0 n 1 (cV px)] Tryz.func77 rfl Tryz.ntmps77 rfl (by kernel_rfl) hI.tab ?_
 refine cSq <| cRg 2 rfl ?_
 refine batch2 [0, 0] 2 0 (fun b1 b2 => [(1, .pointer (pB b1)), (2, .pointer (pB b2))]) (fun b1 b2 => [.cells b2 [iq 0, iq 0, iq 0, iq 0] 32 true, .cells b1 [.pointer (pB m), iq X, iq Y, iq s, iq al, iq ca, iq cb, iq cc, iq cd] 120 true, .ro m [iq W, iq H, .slice (pB r) n cap] 116, rD (pB r) r 0 n 1 (cV px)]) rfl rfl [1, 2] (fun _ _ => rfl) (fun b1 b2 => by kernel_rfl) (fun b1 b2 => by kernel_rfl) (fun b1 b2 => ?_)
 refine cDn <| tNo <| cSq <| cRg 10 rfl <| bD [1, 0, 1] 3 7 [(6, .agg #[.pointer (pB m), iq X, iq Y, iq s, iq al, iq ca, iq cb, iq cc, iq cd]), (8, .agg #[iq ca, iq cb, iq cc, iq cd])] [7] ?_
 refine cFg 1 rfl <| pSt 4 6 rfl rfl <| call_pure (d := 9) (.tuple #[.agg #[iq ((shwR W H X Y s ca cb cc cd).x0), iq ((shwR W H X Y s ca cb cc cd).y0), iq ((shwR W H X Y s ca cb cc cd).x1), iq ((shwR W H X Y s ca cb cc cd).y1)], .bool (shwB W H X Y s ca cb cc cd)]) (by kernel_rfl) (fun w hT => layShown m W H r n cap px X Y s al ca cb cc cd ca cb cc cd w ⟨hT.ok 1 _ rfl, hT.ok 2 _ rfl, by omega⟩ hok) ?_
 refine batch1 [0, 0, 0, 0, 0, 0] 10 0 (fun b3 => [(2, .pointer (pB b2)), (3, .pointer (pB b3))]) (fun b3 => [.cells b3 [iq ((shwR W H X Y s ca cb cc cd).x0), iq ((shwR W H X Y s ca cb cc cd).y0), iq ((shwR W H X Y s ca cb cc cd).x1), iq ((shwR W H X Y s ca cb cc cd).y1)] 32 true, .cells b2 [iq 0, iq 0, iq 0, iq 0] 32 true, .ro m [iq W, iq H, .slice (pB r) n cap] 116, rD (pB r) r 0 n 1 (cV px)]) rfl rfl [2, 3] (fun _ => rfl) (fun b3 => by kernel_rfl) (fun b3 => by kernel_rfl) (fun b3 => ?_)
 refine cDn <| tNo <| cSq <| cRg 2 rfl <| batch0 [0, 1] 2 0 [(2, .pointer (pB b2))] [.cells b3 [iq ((shwR W H X Y s ca cb cc cd).x0), iq ((shwR W H X Y s ca cb cc cd).y0), iq ((shwR W H X Y s ca cb cc cd).x1), iq ((shwR W H X Y s ca cb cc cd).y1)] 32 true, .cells b2 [iq ((shwR W H X Y s ca cb cc cd).x0), iq ((shwR W H X Y s ca cb cc cd).y0), iq ((shwR W H X Y s ca cb cc cd).x1), iq ((shwR W H X Y s ca cb cc cd).y1)] 32 true, .ro m [iq W, iq H, .slice (pB r) n cap] 116, rD (pB r) r 0 n 1 (cV px)] rfl rfl (by kernel_rfl) (by kernel_rfl) ?_
 refine cFg 0 rfl <| cDn <| tNo <| cont_ret ?_
 refine ret_one (.inl rfl) rfl 0 (.agg #[iq ((shwR W H X Y s ca cb cc cd).x0), iq ((shwR W H X Y s ca cb cc cd).y0), iq ((shwR W H X Y s ca cb cc cd).x1), iq ((shwR W H X Y s ca cb cc cd).y1)]) (by kernel_rfl) (by kernel_rfl) (fun w hT => ?_)
 exact ⟨rfl, hT.post rfl⟩
theorem refEmpty (a b c d : Int) (w : World) :
    Calls Tryz.prog 47 #[.agg #[iQ a, iQ b, iQ c, iQ d]] w fun e w' => e = .returned (.bool (emptyB a b c d)) ∧ Below w.heap.size w w' := by
 refine enter 15 [(0, .agg #[iq a, iq b, iq c, iq d])] [] Tryz.func47 rfl Tryz.ntmps47 rfl (by kernel_rfl) (Tab.start w) ?_
 refine cSq <| cRg 2 rfl ?_
 refine batch1 [0, 0] 2 0 (fun b1 => [(1, .pointer (pB b1))]) (fun b1 => [.cells b1 [iq a, iq b, iq c, iq d] 32 true]) rfl rfl [1] (fun _ => rfl) (fun b1 => by kernel_rfl) (fun b1 => by kernel_rfl) (fun b1 => ?_)
 refine cDn <| tNo <| cSq <| cRg 13 rfl <| bD [0, 0, 0, 0, 0, 0] 6 7 [(8, .bool (decide (a ≥ c)))] [3, 4, 5, 6, 7] ?_
 refine cSp 8 (decide (a ≥ c)) rfl (fun c2_ => ?_) (fun c2_ => ?_)
 ·
  replace c2_ := of_decide_eq_true c2_
  refine bS [0, 0, 0, 0, 0, 0, 0] 13 0 [(2, .bool true)] ?_
  refine cFg 0 rfl <| cDn <| tNo <| cont_ret ?_
  refine ret_one (.inl rfl) rfl 0 (.bool true) (by kernel_rfl) (by kernel_rfl) (fun w hT => ?_)
  exact ⟨ret_bool (by simp [emptyB, *] <;> omega), hT.post rfl⟩
 replace c2_ := of_decide_eq_false c2_
 refine bS [0, 0, 0, 0, 0, 0, 0] 13 0 [(2, .bool (decide (b ≥ d)))] ?_
 refine cFg 0 rfl <| cDn <| tNo <| cont_ret ?_
 refine ret_one (.inl rfl) rfl 0 (.bool (decide (b ≥ d))) (by kernel_rfl) (by kernel_rfl) (fun w hT => ?_)
 exact ⟨ret_bool (by simp [emptyB, *] <;> omega), hT.post rfl⟩
theorem refCut (a b c d a' b' c' d' : Int) (w : World) :
    Calls Tryz.prog 45 #[.agg #[iQ a, iQ b, iQ c, iQ d], .agg #[iQ a', iQ b', iQ c', iQ d']] w fun e w' => e = .returned (.agg #[iQ ((cutR a b c d a' b' c' d').x0), iQ ((cutR a b c d a' b' c' d').y0), iQ ((cutR a b c d a' b' c' d').x1), iQ ((cutR a b c d a' b' c' d').y1)]) ∧ Below w.heap.size w w' := by
 refine enter 43 [(0, .agg #[iq a, iq b, iq c, iq d]), (1, .agg #[iq a', iq b', iq c', iq d'])] [] Tryz.func45 rfl Tryz.ntmps45 rfl (by kernel_rfl) (Tab.start w) ?_
 refine cSq <| cRg 3 rfl ?_
 refine batch3 [0, 0, 0] 3 0 (fun b1 b2 b3 => [(2, .pointer (pB b1)), (3, .pointer (pB b2)), (4, .pointer (pB b3))]) (fun b1 b2 b3 => [.cells b3 [iq 0, iq 0, iq 0, iq 0] 32 true, .cells b2 [iq a', iq b', iq c', iq d'] 32 true, .cells b1 [iq a, iq b, iq c, iq d] 32 true]) rfl rfl [2, 3, 4] (fun _ _ _ => rfl) (fun b1 b2 b3 => by kernel_rfl) (fun b1 b2 b3 => by kernel_rfl) (fun b1 b2 b3 => ?_)
 refine cDn <| tNo <| cSq <| cRg 3 rfl ?_
 refine batch1 [2, 0, 0] 3 0 (fun b4 => [(3, .pointer (pB b2)), (4, .pointer (pB b3)), (5, .pointer (pB b4))]) (fun b4 => [.cells b4 [iq a, iq b, iq c, iq d] 32 true, .cells b3 [iq 0, iq 0, iq 0, iq 0] 32 true, .cells b2 [iq a', iq b', iq c', iq d'] 32 true, .cells b1 [iq a, iq b, iq c, iq d] 32 true]) rfl rfl [3, 4, 5] (fun _ => rfl) (fun b4 => by kernel_rfl) (fun b4 => by kernel_rfl) (fun b4 => ?_)
 refine cFg 3 rfl <| cDn <| tNo <| cSq <| cSq <| cRg 5 rfl <| bD [0, 2, 0, 0, 0] 5 0 [(11, .bool (decide (a' > a)))] [7, 8, 9, 10] ?_
 refine cDn <| tNo ?_
 refine cSp 11 (decide (a' > a)) rfl (fun c5_ => ?_) (fun c5_ => ?_)
 ·
  replace c5_ := of_decide_eq_true c5_
  refine cTr rfl <| cRg 4 rfl <| batch0 [0, 2, 0, 0] 4 0 [(3, .pointer (pB b2)), (4, .pointer (pB b3)), (5, .pointer (pB b4))] [.cells b4 [iq a', iq b, iq c, iq d] 32 true, .cells b3 [iq 0, iq 0, iq 0, iq 0] 32 true, .cells b2 [iq a', iq b', iq c', iq d'] 32 true] rfl rfl (by kernel_rfl) (by kernel_rfl) ?_
  refine cDn <| tNo <| cSq <| cSq <| cRg 5 rfl <| bD [0, 2, 0, 0, 0] 5 0 [(19, .bool (decide (b' > b)))] [15, 16, 17, 18] ?_
  refine cDn <| tNo ?_
  refine cSp 19 (decide (b' > b)) rfl (fun c6_ => ?_) (fun c6_ => ?_)
  ·
   replace c6_ := of_decide_eq_true c6_
   refine cTr rfl <| cRg 4 rfl <| batch0 [0, 2, 0, 0] 4 0 [(3, .pointer (pB b2)), (4, .pointer (pB b3)), (5, .pointer (pB b4))] [.cells b4 [iq a', iq b', iq c, iq d] 32 true, .cells b3 [iq 0, iq 0, iq 0, iq 0] 32 true, .cells b2 [iq a', iq b', iq c', iq d'] 32 true] rfl rfl (by kernel_rfl) (by kernel_rfl) ?_
   refine cDn <| tNo <| cSq <| cSq <| cRg 5 rfl <| bD [0, 2, 0, 0, 0] 5 0 [(27, .bool (decide (c' < c)))] [23, 24, 25, 26] ?_
   refine cDn <| tNo ?_
   refine cSp 27 (decide (c' < c)) rfl (fun c7_ => ?_) (fun c7_ => ?_)
   ·
    replace c7_ := of_decide_eq_true c7_
    refine cTr rfl <| cRg 4 rfl <| batch0 [0, 2, 0, 0] 4 0 [(3, .pointer (pB b2)), (4, .pointer (pB b3)), (5, .pointer (pB b4))] [.cells b4 [iq a', iq b', iq c', iq d] 32 true, .cells b3 [iq 0, iq 0, iq 0, iq 0] 32 true, .cells b2 [iq a', iq b', iq c', iq d'] 32 true] rfl rfl (by kernel_rfl) (by kernel_rfl) ?_
    refine cDn <| tNo <| cSq <| cSq <| cRg 5 rfl <| bD [0, 2, 0, 0, 0] 5 0 [(35, .bool (decide (d' < d)))] [31, 32, 33, 34] ?_
    refine cDn <| tNo ?_
    refine cSp 35 (decide (d' < d)) rfl (fun c8_ => ?_) (fun c8_ => ?_)
    ·
     replace c8_ := of_decide_eq_true c8_
     refine cTr rfl <| cRg 4 rfl <| batch0 [0, 2, 0, 0] 4 0 [(4, .pointer (pB b3)), (5, .pointer (pB b4))] [.cells b4 [iq a', iq b', iq c', iq d'] 32 true, .cells b3 [iq 0, iq 0, iq 0, iq 0] 32 true, .cells b2 [iq a', iq b', iq c', iq d'] 32 true] rfl rfl (by kernel_rfl) (by kernel_rfl) ?_
     refine cFg 2 rfl <| cDn <| tNo <| cSq <| cSq <| cRg 2 rfl <| bD [0] 1 1 [(39, .agg #[iq a', iq b', iq c', iq d'])] [] ?_
     refine pSt 2 0 rfl rfl <| call_pure (d := 40) (.bool (emptyB a' b' c' d')) (by kernel_rfl) (fun w hT => refEmpty a' b' c' d' w) ?_
     refine cDn <| tNo ?_
     refine cSp 40 (emptyB a' b' c' d') rfl (fun c9_ => ?_) (fun c9_ => ?_)
     ·
      refine cTr rfl <| cSq <| cRg 2 rfl <| bD [0, 1] 2 0 [] [41] ?_
      refine cFg 0 rfl <| cDn <| tNo <| cont_ret <| then_ret ?_
      refine ret_one (.inl rfl) rfl 0 (.agg #[iq 0, iq 0, iq 0, iq 0]) (by kernel_rfl) (by kernel_rfl) (fun w hT => ?_)
      have he_ := emptyB_true.1 ‹_›
      exact ⟨by rw [cutR, emptyB_true.2 (by omega)]; rfl, hT.post rfl⟩
     refine cFa rfl <| cont_skip <| tNo <| cSq <| cRg 2 rfl <| batch0 [0, 1] 2 0 [(4, .pointer (pB b3))] [.cells b4 [iq a', iq b', iq c', iq d'] 32 true, .cells b3 [iq a', iq b', iq c', iq d'] 32 true] rfl rfl (by kernel_rfl) (by kernel_rfl) ?_
     refine cFg 0 rfl <| cDn <| tNo <| cont_ret ?_
     refine ret_one (.inl rfl) rfl 0 (.agg #[iq a', iq b', iq c', iq d']) (by kernel_rfl) (by kernel_rfl) (fun w hT => ?_)
     have he_ := emptyB_false.1 ‹_›
     exact ⟨by rw [cutR, show max a a' = a' by omega, show max b b' = b' by omega, show min c c' = c' by omega, show min d d' = d' by omega, emptyB_false.2 he_]; rfl, hT.post rfl⟩
    replace c8_ := of_decide_eq_false c8_
    refine cFa rfl <| cont_skip <| tNo <| cSq <| cSq <| cRg 2 rfl <| bD [0] 1 1 [(39, .agg #[iq a', iq b', iq c', iq d])] [] ?_
    refine cFg 2 rfl <| pSt 2 0 rfl rfl <| call_pure (d := 40) (.bool (emptyB a' b' c' d)) (by kernel_rfl) (fun w hT => refEmpty a' b' c' d w) ?_
    refine cDn <| tNo ?_
    refine cSp 40 (emptyB a' b' c' d) rfl (fun c10_ => ?_) (fun c10_ => ?_)
    ·
     refine cTr rfl <| cSq <| cRg 2 rfl <| bD [0, 1] 2 0 [] [41] ?_
     refine cFg 0 rfl <| cDn <| tNo <| cont_ret <| then_ret ?_
     refine ret_one (.inl rfl) rfl 0 (.agg #[iq 0, iq 0, iq 0, iq 0]) (by kernel_rfl) (by kernel_rfl) (fun w hT => ?_)
     have he_ := emptyB_true.1 ‹_›
     exact ⟨by rw [cutR, emptyB_true.2 (by omega)]; rfl, hT.post rfl⟩
    refine cFa rfl <| cont_skip <| tNo <| cSq <| cRg 2 rfl <| batch0 [0, 1] 2 0 [(4, .pointer (pB b3))] [.cells b4 [iq a', iq b', iq c', iq d] 32 true, .cells b3 [iq a', iq b', iq c', iq d] 32 true] rfl rfl (by kernel_rfl) (by kernel_rfl) ?_
    refine cFg 0 rfl <| cDn <| tNo <| cont_ret ?_
    refine ret_one (.inl rfl) rfl 0 (.agg #[iq a', iq b', iq c', iq d]) (by kernel_rfl) (by kernel_rfl) (fun w hT => ?_)
    have he_ := emptyB_false.1 ‹_›
    exact ⟨by rw [cutR, show max a a' = a' by omega, show max b b' = b' by omega, show min c c' = c' by omega, show min d d' = d by omega, emptyB_false.2 he_]; rfl, hT.post rfl⟩
   replace c7_ := of_decide_eq_false c7_
   refine cFa rfl <| cont_skip <| tNo <| cSq <| cSq <| cRg 5 rfl <| bD [0, 2, 0, 0, 0] 5 0 [(35, .bool (decide (d' < d)))] [31, 32, 33, 34] ?_
   refine cDn <| tNo ?_
   refine cSp 35 (decide (d' < d)) rfl (fun c11_ => ?_) (fun c11_ => ?_)
   ·
    replace c11_ := of_decide_eq_true c11_
    refine cTr rfl <| cRg 4 rfl <| batch0 [0, 2, 0, 0] 4 0 [(4, .pointer (pB b3)), (5, .pointer (pB b4))] [.cells b4 [iq a', iq b', iq c, iq d'] 32 true, .cells b3 [iq 0, iq 0, iq 0, iq 0] 32 true, .cells b2 [iq a', iq b', iq c', iq d'] 32 true] rfl rfl (by kernel_rfl) (by kernel_rfl) ?_
    refine cFg 2 rfl <| cDn <| tNo <| cSq <| cSq <| cRg 2 rfl <| bD [0] 1 1 [(39, .agg #[iq a', iq b', iq c, iq d'])] [] ?_
    refine pSt 2 0 rfl rfl <| call_pure (d := 40) (.bool (emptyB a' b' c d')) (by kernel_rfl) (fun w hT => refEmpty a' b' c d' w) ?_
    refine cDn <| tNo ?_
    refine cSp 40 (emptyB a' b' c d') rfl (fun c12_ => ?_) (fun c12_ => ?_)
    ·
     refine cTr rfl <| cSq <| cRg 2 rfl <| bD [0, 1] 2 0 [] [41] ?_
     refine cFg 0 rfl <| cDn <| tNo <| cont_ret <| then_ret ?_
     refine ret_one (.inl rfl) rfl 0 (.agg #[iq 0, iq 0, iq 0, iq 0]) (by kernel_rfl) (by kernel_rfl) (fun w hT => ?_)
     have he_ := emptyB_true.1 ‹_›
     exact ⟨by rw [cutR, emptyB_true.2 (by omega)]; rfl, hT.post rfl⟩
    refine cFa rfl <| cont_skip <| tNo <| cSq <| cRg 2 rfl <| batch0 [0, 1] 2 0 [(4, .pointer (pB b3))] [.cells b4 [iq a', iq b', iq c, iq d'] 32 true, .cells b3 [iq a', iq b', iq c, iq d'] 32 true] rfl rfl (by kernel_rfl) (by kernel_rfl) ?_
    refine cFg 0 rfl <| cDn <| tNo <| cont_ret ?_
    refine ret_one (.inl rfl) rfl 0 (.agg #[iq a', iq b', iq c, iq d']) (by kernel_rfl) (by kernel_rfl) (fun w hT => ?_)
    have he_ := emptyB_false.1 ‹_›
    exact ⟨by rw [cutR, show max a a' = a' by omega, show max b b' = b' by omega, show min c c' = c by omega, show min d d' = d' by omega, emptyB_false.2 he_]; rfl, hT.post rfl⟩
   replace c11_ := of_decide_eq_false c11_
   refine cFa rfl <| cont_skip <| tNo <| cSq <| cSq <| cRg 2 rfl <| bD [0] 1 1 [(39, .agg #[iq a', iq b', iq c, iq d])] [] ?_
   refine cFg 2 rfl <| pSt 2 0 rfl rfl <| call_pure (d := 40) (.bool (emptyB a' b' c d)) (by kernel_rfl) (fun w hT => refEmpty a' b' c d w) ?_
   refine cDn <| tNo ?_
   refine cSp 40 (emptyB a' b' c d) rfl (fun c13_ => ?_) (fun c13_ => ?_)
   ·
    refine cTr rfl <| cSq <| cRg 2 rfl <| bD [0, 1] 2 0 [] [41] ?_
    refine cFg 0 rfl <| cDn <| tNo <| cont_ret <| then_ret ?_
    refine ret_one (.inl rfl) rfl 0 (.agg #[iq 0, iq 0, iq 0, iq 0]) (by kernel_rfl) (by kernel_rfl) (fun w hT => ?_)
    have he_ := emptyB_true.1 ‹_›
    exact ⟨by rw [cutR, emptyB_true.2 (by omega)]; rfl, hT.post rfl⟩
   refine cFa rfl <| cont_skip <| tNo <| cSq <| cRg 2 rfl <| batch0 [0, 1] 2 0 [(4, .pointer (pB b3))] [.cells b4 [iq a', iq b', iq c, iq d] 32 true, .cells b3 [iq a', iq b', iq c, iq d] 32 true] rfl rfl (by kernel_rfl) (by kernel_rfl) ?_
   refine cFg 0 rfl <| cDn <| tNo <| cont_ret ?_
   refine ret_one (.inl rfl) rfl 0 (.agg #[iq a', iq b', iq c, iq d]) (by kernel_rfl) (by kernel_rfl) (fun w hT => ?_)
   have he_ := emptyB_false.1 ‹_›
   exact ⟨by rw [cutR, show max a a' = a' by omega, show max b b' = b' by omega, show min c c' = c by omega, show min d d' = d by omega, emptyB_false.2 he_]; rfl, hT.post rfl⟩
  replace c6_ := of_decide_eq_false c6_
  refine cFa rfl <| cont_skip <| tNo <| cSq <| cSq <| cRg 5 rfl <| bD [0, 2, 0, 0, 0] 5 0 [(27, .bool (decide (c' < c)))] [23, 24, 25, 26] ?_
  refine cDn <| tNo ?_
  refine cSp 27 (decide (c' < c)) rfl (fun c14_ => ?_) (fun c14_ => ?_)
  ·
   replace c14_ := of_decide_eq_true c14_
   refine cTr rfl <| cRg 4 rfl <| batch0 [0, 2, 0, 0] 4 0 [(3, .pointer (pB b2)), (4, .pointer (pB b3)), (5, .pointer (pB b4))] [.cells b4 [iq a', iq b, iq c', iq d] 32 true, .cells b3 [iq 0, iq 0, iq 0, iq 0] 32 true, .cells b2 [iq a', iq b', iq c', iq d'] 32 true] rfl rfl (by kernel_rfl) (by kernel_rfl) ?_
   refine cDn <| tNo <| cSq <| cSq <| cRg 5 rfl <| bD [0, 2, 0, 0, 0] 5 0 [(35, .bool (decide (d' < d)))] [31, 32, 33, 34] ?_
   refine cDn <| tNo ?_
   refine cSp 35 (decide (d' < d)) rfl (fun c15_ => ?_) (fun c15_ => ?_)
   ·
    replace c15_ := of_decide_eq_true c15_
    refine cTr rfl <| cRg 4 rfl <| batch0 [0, 2, 0, 0] 4 0 [(4, .pointer (pB b3)), (5, .pointer (pB b4))] [.cells b4 [iq a', iq b, iq c', iq d'] 32 true, .cells b3 [iq 0, iq 0, iq 0, iq 0] 32 true, .cells b2 [iq a', iq b', iq c', iq d'] 32 true] rfl rfl (by kernel_rfl) (by kernel_rfl) ?_
    refine cFg 2 rfl <| cDn <| tNo <| cSq <| cSq <| cRg 2 rfl <| bD [0] 1 1 [(39, .agg #[iq a', iq b, iq c', iq d'])] [] ?_
    refine pSt 2 0 rfl rfl <| call_pure (d := 40) (.bool (emptyB a' b c' d')) (by kernel_rfl) (fun w hT => refEmpty a' b c' d' w) ?_
    refine cDn <| tNo ?_
    refine cSp 40 (emptyB a' b c' d') rfl (fun c16_ => ?_) (fun c16_ => ?_)
    ·
     refine cTr rfl <| cSq <| cRg 2 rfl <| bD [0, 1] 2 0 [] [41] ?_
     refine cFg 0 rfl <| cDn <| tNo <| cont_ret <| then_ret ?_
     refine ret_one (.inl rfl) rfl 0 (.agg #[iq 0, iq 0, iq 0, iq 0]) (by kernel_rfl) (by kernel_rfl) (fun w hT => ?_)
     have he_ := emptyB_true.1 ‹_›
     exact ⟨by rw [cutR, emptyB_true.2 (by omega)]; rfl, hT.post rfl⟩
    refine cFa rfl <| cont_skip <| tNo <| cSq <| cRg 2 rfl <| batch0 [0, 1] 2 0 [(4, .pointer (pB b3))] [.cells b4 [iq a', iq b, iq c', iq d'] 32 true, .cells b3 [iq a', iq b, iq c', iq d'] 32 true] rfl rfl (by kernel_rfl) (by kernel_rfl) ?_
    refine cFg 0 rfl <| cDn <| tNo <| cont_ret ?_
    refine ret_one (.inl rfl) rfl 0 (.agg #[iq a', iq b, iq c', iq d']) (by kernel_rfl) (by kernel_rfl) (fun w hT => ?_)
    have he_ := emptyB_false.1 ‹_›
    exact ⟨by rw [cutR, show max a a' = a' by omega, show max b b' = b by omega, show min c c' = c' by omega, show min d d' = d' by omega, emptyB_false.2 he_]; rfl, hT.post rfl⟩
   replace c15_ := of_decide_eq_false c15_
   refine cFa rfl <| cont_skip <| tNo <| cSq <| cSq <| cRg 2 rfl <| bD [0] 1 1 [(39, .agg #[iq a', iq b, iq c', iq d])] [] ?_
   refine cFg 2 rfl <| pSt 2 0 rfl rfl <| call_pure (d := 40) (.bool (emptyB a' b c' d)) (by kernel_rfl) (fun w hT => refEmpty a' b c' d w) ?_
   refine cDn <| tNo ?_
   refine cSp 40 (emptyB a' b c' d) rfl (fun c17_ => ?_) (fun c17_ => ?_)
   ·
    refine cTr rfl <| cSq <| cRg 2 rfl <| bD [0, 1] 2 0 [] [41] ?_
    refine cFg 0 rfl <| cDn <| tNo <| cont_ret <| then_ret ?_
    refine ret_one (.inl rfl) rfl 0 (.agg #[iq 0, iq 0, iq 0, iq 0]) (by kernel_rfl) (by kernel_rfl) (fun w hT => ?_)
    have he_ := emptyB_true.1 ‹_›
    exact ⟨by rw [cutR, emptyB_true.2 (by omega)]; rfl, hT.post rfl⟩
   refine cFa rfl <| cont_skip <| tNo <| cSq <| cRg 2 rfl <| batch0 [0, 1] 2 0 [(4, .pointer (pB b3))] [.cells b4 [iq a', iq b, iq c', iq d] 32 true, .cells b3 [iq a', iq b, iq c', iq d] 32 true] rfl rfl (by kernel_rfl) (by kernel_rfl) ?_
   refine cFg 0 rfl <| cDn <| tNo <| cont_ret ?_
   refine ret_one (.inl rfl) rfl 0 (.agg #[iq a', iq b, iq c', iq d]) (by kernel_rfl) (by kernel_rfl) (fun w hT => ?_)
   have he_ := emptyB_false.1 ‹_›
   exact ⟨by rw [cutR, show max a a' = a' by omega, show max b b' = b by omega, show min c c' = c' by omega, show min d d' = d by omega, emptyB_false.2 he_]; rfl, hT.post rfl⟩
  replace c14_ := of_decide_eq_false c14_
  refine cFa rfl <| cont_skip <| tNo <| cSq <| cSq <| cRg 5 rfl <| bD [0, 2, 0, 0, 0] 5 0 [(35, .bool (decide (d' < d)))] [31, 32, 33, 34] ?_
  refine cDn <| tNo ?_
  refine cSp 35 (decide (d' < d)) rfl (fun c18_ => ?_) (fun c18_ => ?_)
  ·
   replace c18_ := of_decide_eq_true c18_
   refine cTr rfl <| cRg 4 rfl <| batch0 [0, 2, 0, 0] 4 0 [(4, .pointer (pB b3)), (5, .pointer (pB b4))] [.cells b4 [iq a', iq b, iq c, iq d'] 32 true, .cells b3 [iq 0, iq 0, iq 0, iq 0] 32 true, .cells b2 [iq a', iq b', iq c', iq d'] 32 true] rfl rfl (by kernel_rfl) (by kernel_rfl) ?_
   refine cFg 2 rfl <| cDn <| tNo <| cSq <| cSq <| cRg 2 rfl <| bD [0] 1 1 [(39, .agg #[iq a', iq b, iq c, iq d'])] [] ?_
   refine pSt 2 0 rfl rfl <| call_pure (d := 40) (.bool (emptyB a' b c d')) (by kernel_rfl) (fun w hT => refEmpty a' b c d' w) ?_
   refine cDn <| tNo ?_
   refine cSp 40 (emptyB a' b c d') rfl (fun c19_ => ?_) (fun c19_ => ?_)
   ·
    refine cTr rfl <| cSq <| cRg 2 rfl <| bD [0, 1] 2 0 [] [41] ?_
    refine cFg 0 rfl <| cDn <| tNo <| cont_ret <| then_ret ?_
    refine ret_one (.inl rfl) rfl 0 (.agg #[iq 0, iq 0, iq 0, iq 0]) (by kernel_rfl) (by kernel_rfl) (fun w hT => ?_)
    have he_ := emptyB_true.1 ‹_›
    exact ⟨by rw [cutR, emptyB_true.2 (by omega)]; rfl, hT.post rfl⟩
   refine cFa rfl <| cont_skip <| tNo <| cSq <| cRg 2 rfl <| batch0 [0, 1] 2 0 [(4, .pointer (pB b3))] [.cells b4 [iq a', iq b, iq c, iq d'] 32 true, .cells b3 [iq a', iq b, iq c, iq d'] 32 true] rfl rfl (by kernel_rfl) (by kernel_rfl) ?_
   refine cFg 0 rfl <| cDn <| tNo <| cont_ret ?_
   refine ret_one (.inl rfl) rfl 0 (.agg #[iq a', iq b, iq c, iq d']) (by kernel_rfl) (by kernel_rfl) (fun w hT => ?_)
   have he_ := emptyB_false.1 ‹_›
   exact ⟨by rw [cutR, show max a a' = a' by omega, show max b b' = b by omega, show min c c' = c by omega, show min d d' = d' by omega, emptyB_false.2 he_]; rfl, hT.post rfl⟩
  replace c18_ := of_decide_eq_false c18_
  refine cFa rfl <| cont_skip <| tNo <| cSq <| cSq <| cRg 2 rfl <| bD [0] 1 1 [(39, .agg #[iq a', iq b, iq c, iq d])] [] ?_
  refine cFg 2 rfl <| pSt 2 0 rfl rfl <| call_pure (d := 40) (.bool (emptyB a' b c d)) (by kernel_rfl) (fun w hT => refEmpty a' b c d w) ?_
  refine cDn <| tNo ?_
  refine cSp 40 (emptyB a' b c d) rfl (fun c20_ => ?_) (fun c20_ => ?_)
  ·
   refine cTr rfl <| cSq <| cRg 2 rfl <| bD [0, 1] 2 0 [] [41] ?_
   refine cFg 0 rfl <| cDn <| tNo <| cont_ret <| then_ret ?_
   refine ret_one (.inl rfl) rfl 0 (.agg #[iq 0, iq 0, iq 0, iq 0]) (by kernel_rfl) (by kernel_rfl) (fun w hT => ?_)
   have he_ := emptyB_true.1 ‹_›
   exact ⟨by rw [cutR, emptyB_true.2 (by omega)]; rfl, hT.post rfl⟩
  refine cFa rfl <| cont_skip <| tNo <| cSq <| cRg 2 rfl <| batch0 [0, 1] 2 0 [(4, .pointer (pB b3))] [.cells b4 [iq a', iq b, iq c, iq d] 32 true, .cells b3 [iq a', iq b, iq c, iq d] 32 true] rfl rfl (by kernel_rfl) (by kernel_rfl) ?_
  refine cFg 0 rfl <| cDn <| tNo <| cont_ret ?_
  refine ret_one (.inl rfl) rfl 0 (.agg #[iq a', iq b, iq c, iq d]) (by kernel_rfl) (by kernel_rfl) (fun w hT => ?_)
  have he_ := emptyB_false.1 ‹_›
  exact ⟨by rw [cutR, show max a a' = a' by omega, show max b b' = b by omega, show min c c' = c by omega, show min d d' = d by omega, emptyB_false.2 he_]; rfl, hT.post rfl⟩
 replace c5_ := of_decide_eq_false c5_
 refine cFa rfl <| cont_skip <| tNo <| cSq <| cSq <| cRg 5 rfl <| bD [0, 2, 0, 0, 0] 5 0 [(19, .bool (decide (b' > b)))] [15, 16, 17, 18] ?_
 refine cDn <| tNo ?_
 refine cSp 19 (decide (b' > b)) rfl (fun c21_ => ?_) (fun c21_ => ?_)
 ·
  replace c21_ := of_decide_eq_true c21_
  refine cTr rfl <| cRg 4 rfl <| batch0 [0, 2, 0, 0] 4 0 [(3, .pointer (pB b2)), (4, .pointer (pB b3)), (5, .pointer (pB b4))] [.cells b4 [iq a, iq b', iq c, iq d] 32 true, .cells b3 [iq 0, iq 0, iq 0, iq 0] 32 true, .cells b2 [iq a', iq b', iq c', iq d'] 32 true] rfl rfl (by kernel_rfl) (by kernel_rfl) ?_
  refine cDn <| tNo <| cSq <| cSq <| cRg 5 rfl <| bD [0, 2, 0, 0, 0] 5 0 [(27, .bool (decide (c' < c)))] [23, 24, 25, 26] ?_
  refine cDn <| tNo ?_
  refine cSp 27 (decide (c' < c)) rfl (fun c22_ => ?_) (fun c22_ => ?_)
  ·
   replace c22_ := of_decide_eq_true c22_
   refine cTr rfl <| cRg 4 rfl <| batch0 [0, 2, 0, 0] 4 0 [(3, .pointer (pB b2)), (4, .pointer (pB b3)), (5, .pointer (pB b4))] [.cells b4 [iq a, iq b', iq c', iq d] 32 true, .cells b3 [iq 0, iq 0, iq 0, iq 0] 32 true, .cells b2 [iq a', iq b', iq c', iq d'] 32 true] rfl rfl (by kernel_rfl) (by kernel_rfl) ?_
   refine cDn <| tNo <| cSq <| cSq <| cRg 5 rfl <| bD [0, 2, 0, 0, 0] 5 0 [(35, .bool (decide (d' < d)))] [31, 32, 33, 34] ?_
   refine cDn <| tNo ?_
   refine cSp 35 (decide (d' < d)) rfl (fun c23_ => ?_) (fun c23_ => ?_)
   ·
    replace c23_ := of_decide_eq_true c23_
    refine cTr rfl <| cRg 4 rfl <| batch0 [0, 2, 0, 0] 4 0 [(4, .pointer (pB b3)), (5, .pointer (pB b4))] [.cells b4 [iq a, iq b', iq c', iq d'] 32 true, .cells b3 [iq 0, iq 0, iq 0, iq 0] 32 true, .cells b2 [iq a', iq b', iq c', iq d'] 32 true] rfl rfl (by kernel_rfl) (by kernel_rfl) ?_
    refine cFg 2 rfl <| cDn <| tNo <| cSq <| cSq <| cRg 2 rfl <| bD [0] 1 1 [(39, .agg #[iq a, iq b', iq c', iq d'])] [] ?_
    refine pSt 2 0 rfl rfl <| call_pure (d := 40) (.bool (emptyB a b' c' d')) (by kernel_rfl) (fun w hT => refEmpty a b' c' d' w) ?_
    refine cDn <| tNo ?_
    refine cSp 40 (emptyB a b' c' d') rfl (fun c24_ => ?_) (fun c24_ => ?_)
    ·
     refine cTr rfl <| cSq <| cRg 2 rfl <| bD [0, 1] 2 0 [] [41] ?_
     refine cFg 0 rfl <| cDn <| tNo <| cont_ret <| then_ret ?_
     refine ret_one (.inl rfl) rfl 0 (.agg #[iq 0, iq 0, iq 0, iq 0]) (by kernel_rfl) (by kernel_rfl) (fun w hT => ?_)
     have he_ := emptyB_true.1 ‹_›
     exact ⟨by rw [cutR, emptyB_true.2 (by omega)]; rfl, hT.post rfl⟩
    refine cFa rfl <| cont_skip <| tNo <| cSq <| cRg 2 rfl <| batch0 [0, 1] 2 0 [(4, .pointer (pB b3))] [.cells b4 [iq a, iq b', iq c', iq d'] 32 true, .cells b3 [iq a, iq b', iq c', iq d'] 32 true] rfl rfl (by kernel_rfl) (by kernel_rfl) ?_
    refine cFg 0 rfl <| cDn <| tNo <| cont_ret ?_
    refine ret_one (.inl rfl) rfl 0 (.agg #[iq a, iq b', iq c', iq d']) (by kernel_rfl) (by kernel_rfl) (fun w hT => ?_)
    have he_ := emptyB_false.1 ‹_›
    exact ⟨by rw [cutR, show max a a' = a by omega, show max b b' = b' by omega, show min c c' = c' by omega, show min d d' = d' by omega, emptyB_false.2 he_]; rfl, hT.post rfl⟩
   replace c23_ := of_decide_eq_false c23_
   refine cFa rfl <| cont_skip <| tNo <| cSq <| cSq <| cRg 2 rfl <| bD [0] 1 1 [(39, .agg #[iq a, iq b', iq c', iq d])] [] ?_
   refine cFg 2 rfl <| pSt 2 0 rfl rfl <| call_pure (d := 40) (.bool (emptyB a b' c' d)) (by kernel_rfl) (fun w hT => refEmpty a b' c' d w) ?_
   refine cDn <| tNo ?_
   refine cSp 40 (emptyB a b' c' d) rfl (fun c25_ => ?_) (fun c25_ => ?_)
   ·
    refine cTr rfl <| cSq <| cRg 2 rfl <| bD [0, 1] 2 0 [] [41] ?_
    refine cFg 0 rfl <| cDn <| tNo <| cont_ret <| then_ret ?_
    refine ret_one (.inl rfl) rfl 0 (.agg #[iq 0, iq 0, iq 0, iq 0]) (by kernel_rfl) (by kernel_rfl) (fun w hT => ?_)
    have he_ := emptyB_true.1 ‹_›
    exact ⟨by rw [cutR, emptyB_true.2 (by omega)]; rfl, hT.post rfl⟩
   refine cFa rfl <| cont_skip <| tNo <| cSq <| cRg 2 rfl <| batch0 [0, 1] 2 0 [(4, .pointer (pB b3))] [.cells b4 [iq a, iq b', iq c', iq d] 32 true, .cells b3 [iq a, iq b', iq c', iq d] 32 true] rfl rfl (by kernel_rfl) (by kernel_rfl) ?_
   refine cFg 0 rfl <| cDn <| tNo <| cont_ret ?_
   refine ret_one (.inl rfl) rfl 0 (.agg #[iq a, iq b', iq c', iq d]) (by kernel_rfl) (by kernel_rfl) (fun w hT => ?_)
   have he_ := emptyB_false.1 ‹_›
   exact ⟨by rw [cutR, show max a a' = a by omega, show max b b' = b' by omega, show min c c' = c' by omega, show min d d' = d by omega, emptyB_false.2 he_]; rfl, hT.post rfl⟩
  replace c22_ := of_decide_eq_false c22_
  refine cFa rfl <| cont_skip <| tNo <| cSq <| cSq <| cRg 5 rfl <| bD [0, 2, 0, 0, 0] 5 0 [(35, .bool (decide (d' < d)))] [31, 32, 33, 34] ?_
  refine cDn <| tNo ?_
  refine cSp 35 (decide (d' < d)) rfl (fun c26_ => ?_) (fun c26_ => ?_)
  ·
   replace c26_ := of_decide_eq_true c26_
   refine cTr rfl <| cRg 4 rfl <| batch0 [0, 2, 0, 0] 4 0 [(4, .pointer (pB b3)), (5, .pointer (pB b4))] [.cells b4 [iq a, iq b', iq c, iq d'] 32 true, .cells b3 [iq 0, iq 0, iq 0, iq 0] 32 true, .cells b2 [iq a', iq b', iq c', iq d'] 32 true] rfl rfl (by kernel_rfl) (by kernel_rfl) ?_
   refine cFg 2 rfl <| cDn <| tNo <| cSq <| cSq <| cRg 2 rfl <| bD [0] 1 1 [(39, .agg #[iq a, iq b', iq c, iq d'])] [] ?_
   refine pSt 2 0 rfl rfl <| call_pure (d := 40) (.bool (emptyB a b' c d')) (by kernel_rfl) (fun w hT => refEmpty a b' c d' w) ?_
   refine cDn <| tNo ?_
   refine cSp 40 (emptyB a b' c d') rfl (fun c27_ => ?_) (fun c27_ => ?_)
   ·
    refine cTr rfl <| cSq <| cRg 2 rfl <| bD [0, 1] 2 0 [] [41] ?_
    refine cFg 0 rfl <| cDn <| tNo <| cont_ret <| then_ret ?_
    refine ret_one (.inl rfl) rfl 0 (.agg #[iq 0, iq 0, iq 0, iq 0]) (by kernel_rfl) (by kernel_rfl) (fun w hT => ?_)
    have he_ := emptyB_true.1 ‹_›
    exact ⟨by rw [cutR, emptyB_true.2 (by omega)]; rfl, hT.post rfl⟩
   refine cFa rfl <| cont_skip <| tNo <| cSq <| cRg 2 rfl <| batch0 [0, 1] 2 0 [(4, .pointer (pB b3))] [.cells b4 [iq a, iq b', iq c, iq d'] 32 true, .cells b3 [iq a, iq b', iq c, iq d'] 32 true] rfl rfl (by kernel_rfl) (by kernel_rfl) ?_
   refine cFg 0 rfl <| cDn <| tNo <| cont_ret ?_
   refine ret_one (.inl rfl) rfl 0 (.agg #[iq a, iq b', iq c, iq d']) (by kernel_rfl) (by kernel_rfl) (fun w hT => ?_)
   have he_ := emptyB_false.1 ‹_›
   exact ⟨by rw [cutR, show max a a' = a by omega, show max b b' = b' by omega, show min c c' = c by omega, show min d d' = d' by omega, emptyB_false.2 he_]; rfl, hT.post rfl⟩
  replace c26_ := of_decide_eq_false c26_
  refine cFa rfl <| cont_skip <| tNo <| cSq <| cSq <| cRg 2 rfl <| bD [0] 1 1 [(39, .agg #[iq a, iq b', iq c, iq d])] [] ?_
  refine cFg 2 rfl <| pSt 2 0 rfl rfl <| call_pure (d := 40) (.bool (emptyB a b' c d)) (by kernel_rfl) (fun w hT => refEmpty a b' c d w) ?_
  refine cDn <| tNo ?_
  refine cSp 40 (emptyB a b' c d) rfl (fun c28_ => ?_) (fun c28_ => ?_)
  ·
   refine cTr rfl <| cSq <| cRg 2 rfl <| bD [0, 1] 2 0 [] [41] ?_
   refine cFg 0 rfl <| cDn <| tNo <| cont_ret <| then_ret ?_
   refine ret_one (.inl rfl) rfl 0 (.agg #[iq 0, iq 0, iq 0, iq 0]) (by kernel_rfl) (by kernel_rfl) (fun w hT => ?_)
   have he_ := emptyB_true.1 ‹_›
   exact ⟨by rw [cutR, emptyB_true.2 (by omega)]; rfl, hT.post rfl⟩
  refine cFa rfl <| cont_skip <| tNo <| cSq <| cRg 2 rfl <| batch0 [0, 1] 2 0 [(4, .pointer (pB b3))] [.cells b4 [iq a, iq b', iq c, iq d] 32 true, .cells b3 [iq a, iq b', iq c, iq d] 32 true] rfl rfl (by kernel_rfl) (by kernel_rfl) ?_
  refine cFg 0 rfl <| cDn <| tNo <| cont_ret ?_
  refine ret_one (.inl rfl) rfl 0 (.agg #[iq a, iq b', iq c, iq d]) (by kernel_rfl) (by kernel_rfl) (fun w hT => ?_)
  have he_ := emptyB_false.1 ‹_›
  exact ⟨by rw [cutR, show max a a' = a by omega, show max b b' = b' by omega, show min c c' = c by omega, show min d d' = d by omega, emptyB_false.2 he_]; rfl, hT.post rfl⟩
 replace c21_ := of_decide_eq_false c21_
 refine cFa rfl <| cont_skip <| tNo <| cSq <| cSq <| cRg 5 rfl <| bD [0, 2, 0, 0, 0] 5 0 [(27, .bool (decide (c' < c)))] [23, 24, 25, 26] ?_
 refine cDn <| tNo ?_
 refine cSp 27 (decide (c' < c)) rfl (fun c29_ => ?_) (fun c29_ => ?_)
 ·
  replace c29_ := of_decide_eq_true c29_
  refine cTr rfl <| cRg 4 rfl <| batch0 [0, 2, 0, 0] 4 0 [(3, .pointer (pB b2)), (4, .pointer (pB b3)), (5, .pointer (pB b4))] [.cells b4 [iq a, iq b, iq c', iq d] 32 true, .cells b3 [iq 0, iq 0, iq 0, iq 0] 32 true, .cells b2 [iq a', iq b', iq c', iq d'] 32 true] rfl rfl (by kernel_rfl) (by kernel_rfl) ?_
  refine cDn <| tNo <| cSq <| cSq <| cRg 5 rfl <| bD [0, 2, 0, 0, 0] 5 0 [(35, .bool (decide (d' < d)))] [31, 32, 33, 34] ?_
  refine cDn <| tNo ?_
  refine cSp 35 (decide (d' < d)) rfl (fun c30_ => ?_) (fun c30_ => ?_)
  ·
   replace c30_ := of_decide_eq_true c30_
   refine cTr rfl <| cRg 4 rfl <| batch0 [0, 2, 0, 0] 4 0 [(4, .pointer (pB b3)), (5, .pointer (pB b4))] [.cells b4 [iq a, iq b, iq c', iq d'] 32 true, .cells b3 [iq 0, iq 0, iq 0, iq 0] 32 true, .cells b2 [iq a', iq b', iq c', iq d'] 32 true] rfl rfl (by kernel_rfl) (by kernel_rfl) ?_
   refine cFg 2 rfl <| cDn <| tNo <| cSq <| cSq <| cRg 2 rfl <| bD [0] 1 1 [(39, .agg #[iq a, iq b, iq c', iq d'])] [] ?_
   refine pSt 2 0 rfl rfl <| call_pure (d := 40) (.bool (emptyB a b c' d')) (by kernel_rfl) (fun w hT => refEmpty a b c' d' w) ?_
   refine cDn <| tNo ?_
   refine cSp 40 (emptyB a b c' d') rfl (fun c31_ => ?_) (fun c31_ => ?_)
   ·
    refine cTr rfl <| cSq <| cRg 2 rfl <| bD [0, 1] 2 0 [] [41] ?_
    refine cFg 0 rfl <| cDn <| tNo <| cont_ret <| then_ret ?_
    refine ret_one (.inl rfl) rfl 0 (.agg #[iq 0, iq 0, iq 0, iq 0]) (by kernel_rfl) (by kernel_rfl) (fun w hT => ?_)
    have he_ := emptyB_true.1 ‹_›
    exact ⟨by rw [cutR, emptyB_true.2 (by omega)]; rfl, hT.post rfl⟩
   refine cFa rfl <| cont_skip <| tNo <| cSq <| cRg 2 rfl <| batch0 [0, 1] 2 0 [(4, .pointer (pB b3))] [.cells b4 [iq a, iq b, iq c', iq d'] 32 true, .cells b3 [iq a, iq b, iq c', iq d'] 32 true] rfl rfl (by kernel_rfl) (by kernel_rfl) ?_
   refine cFg 0 rfl <| cDn <| tNo <| cont_ret ?_
   refine ret_one (.inl rfl) rfl 0 (.agg #[iq a, iq b, iq c', iq d']) (by kernel_rfl) (by kernel_rfl) (fun w hT => ?_)
   have he_ := emptyB_false.1 ‹_›
   exact ⟨by rw [cutR, show max a a' = a by omega, show max b b' = b by omega, show min c c' = c' by omega, show min d d' = d' by omega, emptyB_false.2 he_]; rfl, hT.post rfl⟩
  replace c30_ := of_decide_eq_false c30_
  refine cFa rfl <| cont_skip <| tNo <| cSq <| cSq <| cRg 2 rfl <| bD [0] 1 1 [(39, .agg #[iq a, iq b, iq c', iq d])] [] ?_
  refine cFg 2 rfl <| pSt 2 0 rfl rfl <| call_pure (d := 40) (.bool (emptyB a b c' d)) (by kernel_rfl) (fun w hT => refEmpty a b c' d w) ?_
  refine cDn <| tNo ?_
  refine cSp 40 (emptyB a b c' d) rfl (fun c32_ => ?_) (fun c32_ => ?_)
  ·
   refine cTr rfl <| cSq <| cRg 2 rfl <| bD [0, 1] 2 0 [] [41] ?_
   refine cFg 0 rfl <| cDn <| tNo <| cont_ret <| then_ret ?_
   refine ret_one (.inl rfl) rfl 0 (.agg #[iq 0, iq 0, iq 0, iq 0]) (by kernel_rfl) (by kernel_rfl) (fun w hT => ?_)
   have he_ := emptyB_true.1 ‹_›
   exact ⟨by rw [cutR, emptyB_true.2 (by omega)]; rfl, hT.post rfl⟩
  refine cFa rfl <| cont_skip <| tNo <| cSq <| cRg 2 rfl <| batch0 [0, 1] 2 0 [(4, .pointer (pB b3))] [.cells b4 [iq a, iq b, iq c', iq d] 32 true, .cells b3 [iq a, iq b, iq c', iq d] 32 true] rfl rfl (by kernel_rfl) (by kernel_rfl) ?_
  refine cFg 0 rfl <| cDn <| tNo <| cont_ret ?_
  refine ret_one (.inl rfl) rfl 0 (.agg #[iq a, iq b, iq c', iq d]) (by kernel_rfl) (by kernel_rfl) (fun w hT => ?_)
  have he_ := emptyB_false.1 ‹_›
  exact ⟨by rw [cutR, show max a a' = a by omega, show max b b' = b by omega, show min c c' = c' by omega, show min d d' = d by omega, emptyB_false.2 he_]; rfl, hT.post rfl⟩
 replace c29_ := of_decide_eq_false c29_
 refine cFa rfl <| cont_skip <| tNo <| cSq <| cSq <| cRg 5 rfl <| bD [0, 2, 0, 0, 0] 5 0 [(35, .bool (decide (d' < d)))] [31, 32, 33, 34] ?_
 refine cDn <| tNo ?_
 refine cSp 35 (decide (d' < d)) rfl (fun c33_ => ?_) (fun c33_ => ?_)
 ·
  replace c33_ := of_decide_eq_true c33_
  refine cTr rfl <| cRg 4 rfl <| batch0 [0, 2, 0, 0] 4 0 [(4, .pointer (pB b3)), (5, .pointer (pB b4))] [.cells b4 [iq a, iq b, iq c, iq d'] 32 true, .cells b3 [iq 0, iq 0, iq 0, iq 0] 32 true, .cells b2 [iq a', iq b', iq c', iq d'] 32 true] rfl rfl (by kernel_rfl) (by kernel_rfl) ?_
  refine cFg 2 rfl <| cDn <| tNo <| cSq <| cSq <| cRg 2 rfl <| bD [0] 1 1 [(39, .agg #[iq a, iq b, iq c, iq d'])] [] ?_
  refine pSt 2 0 rfl rfl <| call_pure (d := 40) (.bool (emptyB a b c d')) (by kernel_rfl) (fun w hT => refEmpty a b c d' w) ?_
  refine cDn <| tNo ?_
  refine cSp 40 (emptyB a b c d') rfl (fun c34_ => ?_) (fun c34_ => ?_)
  ·
   refine cTr rfl <| cSq <| cRg 2 rfl <| bD [0, 1] 2 0 [] [41] ?_
   refine cFg 0 rfl <| cDn <| tNo <| cont_ret <| then_ret ?_
   refine ret_one (.inl rfl) rfl 0 (.agg #[iq 0, iq 0, iq 0, iq 0]) (by kernel_rfl) (by kernel_rfl) (fun w hT => ?_)
   have he_ := emptyB_true.1 ‹_›
   exact ⟨by rw [cutR, emptyB_true.2 (by omega)]; rfl, hT.post rfl⟩
  refine cFa rfl <| cont_skip <| tNo <| cSq <| cRg 2 rfl <| batch0 [0, 1] 2 0 [(4, .pointer (pB b3))] [.cells b4 [iq a, iq b, iq c, iq d'] 32 true, .cells b3 [iq a, iq b, iq c, iq d'] 32 true] rfl rfl (by kernel_rfl) (by kernel_rfl) ?_
  refine cFg 0 rfl <| cDn <| tNo <| cont_ret ?_
  refine ret_one (.inl rfl) rfl 0 (.agg #[iq a, iq b, iq c, iq d']) (by kernel_rfl) (by kernel_rfl) (fun w hT => ?_)
  have he_ := emptyB_false.1 ‹_›
  exact ⟨by rw [cutR, show max a a' = a by omega, show max b b' = b by omega, show min c c' = c by omega, show min d d' = d' by omega, emptyB_false.2 he_]; rfl, hT.post rfl⟩
 replace c33_ := of_decide_eq_false c33_
 refine cFa rfl <| cont_skip <| tNo <| cSq <| cSq <| cRg 2 rfl <| bD [0] 1 1 [(39, .agg #[iq a, iq b, iq c, iq d])] [] ?_
 refine cFg 2 rfl <| pSt 2 0 rfl rfl <| call_pure (d := 40) (.bool (emptyB a b c d)) (by kernel_rfl) (fun w hT => refEmpty a b c d w) ?_
 refine cDn <| tNo ?_
 refine cSp 40 (emptyB a b c d) rfl (fun c35_ => ?_) (fun c35_ => ?_)
 ·
  refine cTr rfl <| cSq <| cRg 2 rfl <| bD [0, 1] 2 0 [] [41] ?_
  refine cFg 0 rfl <| cDn <| tNo <| cont_ret <| then_ret ?_
  refine ret_one (.inl rfl) rfl 0 (.agg #[iq 0, iq 0, iq 0, iq 0]) (by kernel_rfl) (by kernel_rfl) (fun w hT => ?_)
  have he_ := emptyB_true.1 ‹_›
  exact ⟨by rw [cutR, emptyB_true.2 (by omega)]; rfl, hT.post rfl⟩
 refine cFa rfl <| cont_skip <| tNo <| cSq <| cRg 2 rfl <| batch0 [0, 1] 2 0 [(4, .pointer (pB b3))] [.cells b4 [iq a, iq b, iq c, iq d] 32 true, .cells b3 [iq a, iq b, iq c, iq d] 32 true] rfl rfl (by kernel_rfl) (by kernel_rfl) ?_
 refine cFg 0 rfl <| cDn <| tNo <| cont_ret ?_
 refine ret_one (.inl rfl) rfl 0 (.agg #[iq a, iq b, iq c, iq d]) (by kernel_rfl) (by kernel_rfl) (fun w hT => ?_)
 have he_ := emptyB_false.1 ‹_›
 exact ⟨by rw [cutR, show max a a' = a by omega, show max b b' = b by omega, show min c c' = c by omega, show min d d' = d by omega, emptyB_false.2 he_]; rfl, hT.post rfl⟩
theorem refGood5 (A1 : Option Addr) (g1 o1 n1 cap1 : Nat) (xs1 : List Int) (sm : Bool) (mw mh : Int) (ms : Value) (X Y s al ca cb cc cd : Int) (a b : Int) (w : World) (hT0 : Tab w w [rD (A1) g1 o1 n1 1 (cV xs1)]) (hh : GoodIn a b A1 g1 o1 n1 cap1 xs1) (hX : -9223372036854775808 ≤ X ∧ X ≤ 9223372036854775807) (hY : -9223372036854775808 ≤ Y ∧ Y ≤ 9223372036854775807) (hs : -9223372036854775808 ≤ s ∧ s ≤ 9223372036854775807) (hal : -9223372036854775808 ≤ al ∧ al ≤ 9223372036854775807) :
    Calls Tryz.prog 34 #[.agg #[.bool sm, iQ mw, iQ mh, ms, iQ X, iQ Y, iQ s, iQ al, iQ ca, iQ cb, iQ cc, iQ cd], iQ a, iQ b, .slice A1 n1 cap1] w fun e w' => ∃ r n : Nat, e = .returned (.agg #[.bool true, iQ (1 + aroundI (aroundI a 6) 16), iQ (1 + aroundI (aroundI b 6) 16), sL r n n, iQ (aroundI X 24 - 6), iQ (aroundI Y 24 - 6), iQ (1 + aroundI s 3), iQ (aroundI al 256), iQ ca, iQ cb, iQ cc, iQ cd]) ∧ (n : Int) = (1 + aroundI (aroundI a 6) 16) * (1 + aroundI (aroundI b 6) 16) ∧ Tab w w' [oE r n n 52 1 (cV (goodP n xs1 n))] := by
 obtain ⟨ha, hb, hl1, hc1, hm1, hx1, hat1⟩ := hh
 have hqa := aroundI_range a (m := 6) (by omega)
 have hqb := aroundI_range b (m := 6) (by omega)
 refine enter 39 [(0, .agg #[.bool sm, iq mw, iq mh, ms, iq X, iq Y, iq s, iq al, iq ca, iq cb, iq cc, iq cd]), (1, iq a), (2, iq b), (3, .slice A1 n1 cap1)] [rD (A1) g1 o1 n1 1 (cV xs1)] Tryz.func34 rfl Tryz.ntmps34 rfl (by kernel_rfl) hT0 ?_
 refine cSq <| cRg 2 rfl ?_
 refine batch2 [0, 0] 2 0 (fun b1 b2 => [(1, iq a), (2, iq b), (3, .slice A1 n1 cap1), (4, .pointer (pB b1)), (8, .pointer (pB b2))]) (fun b1 b2 => [.cells b2 [.bool false, iq 0, iq 0, .slice none 0 0, iq 0, iq 0, iq 0, iq 0, iq 0, iq 0, iq 0, iq 0] 82 true, .cells b1 [.bool sm, iq mw, iq mh, ms, iq X, iq Y, iq s, iq al, iq ca, iq cb, iq cc, iq cd] 82 true, rD (A1) g1 o1 n1 1 (cV xs1)]) rfl rfl [1, 2, 3, 4, 8] (fun _ _ => rfl) (fun b1 b2 => by kernel_rfl) (fun b1 b2 => by kernel_rfl) (fun b1 b2 => ?_)
 refine cDn <| tNo <| cSq <| cRg 2 rfl <| batch0 [0, 1] 2 0 [(1, iq a), (2, iq b), (3, .slice A1 n1 cap1), (4, .pointer (pB b1)), (8, .pointer (pB b2))] [.cells b2 [.bool false, iq 0, iq 0, .slice none 0 0, iq 0, iq 0, iq 0, iq 0, iq 0, iq 0, iq 0, iq 0] 82 true, .cells b1 [.bool true, iq mw, iq mh, ms, iq X, iq Y, iq s, iq al, iq ca, iq cb, iq cc, iq cd] 82 true, rD (A1) g1 o1 n1 1 (cV xs1)] rfl rfl (by kernel_rfl) (by kernel_rfl) ?_
 refine cDn <| tNo <| cSq <| cRg 8 rfl <| bD [0] 1 7 [(10, iq a)] [] ?_
 refine pSt 2 6 rfl rfl <| call_pure (d := 11) (iq (aroundI a 6)) (by kernel_rfl) (fun w hT => refAround a 6 w (by omega) (by omega)) ?_
 have hq3_ := aroundI_range a (m := 6) (by omega)
 refine bD [0] 3 5 [(12, iq b)] [] ?_
 refine pSt 4 4 rfl rfl <| call_pure (d := 13) (iq (aroundI b 6)) (by kernel_rfl) (fun w hT => refAround b 6 w (by omega) (by omega)) ?_
 have hq4_ := aroundI_range b (m := 6) (by omega)
 refine bD [0] 5 3 [(14, .slice A1 n1 cap1)] [] ?_
 refine pSt 6 2 rfl rfl <| call_gen (d := 15) (α := Nat × Nat) (fun x_ => .agg #[iq (1 + aroundI (aroundI a 6) 16), iq (1 + aroundI (aroundI b 6) 16), .slice (pB x_.1) x_.2 x_.2]) (fun x_ => [.gen (rowE (pB x_.1) x_.1 x_.2 x_.2 52 1 (cV (goodP x_.2 xs1 x_.2)) true), .cells b2 [.bool false, iq 0, iq 0, .slice none 0 0, iq 0, iq 0, iq 0, iq 0, iq 0, iq 0, iq 0, iq 0] 82 true, .cells b1 [.bool true, iq mw, iq mh, ms, iq X, iq Y, iq s, iq al, iq ca, iq cb, iq cc, iq cd] 82 true, rD (A1) g1 o1 n1 1 (cV xs1)]) (fun x_ => (x_.2 : Int) = (1 + aroundI (aroundI a 6) 16) * (1 + aroundI (aroundI b 6) 16)) (by kernel_rfl) (fun w hT => (refGood4 A1 g1 o1 n1 cap1 xs1 (aroundI a 6) (aroundI b 6) w (hT.viewRo (.cons (i := 2) rfl Vw.rd .nil) rfl) ⟨by omega, by omega, hl1, hc1, hm1, hx1, hat1⟩).mono fun e w' ⟨r5, n6, he_, hf_, ht_⟩ => ⟨(r5, n6), he_, hf_, hT.news ht_ rfl⟩) ?_
 rintro ⟨r5, n6⟩ hf7_
 replace hf7_ : (n6 : Int) = (1 + aroundI (aroundI a 6) 16) * (1 + aroundI (aroundI b 6) 16) := hf7_
 refine batch0 [0, 2] 8 0 [(4, .pointer (pB b1)), (8, .pointer (pB b2))] [.gen (rowE (pB r5) r5 n6 n6 52 1 (cV (goodP n6 xs1 n6)) true), .cells b2 [.bool false, iq 0, iq 0, .slice none 0 0, iq 0, iq 0, iq 0, iq 0, iq 0, iq 0, iq 0, iq 0] 82 true, .cells b1 [.bool true, iq (1 + aroundI (aroundI a 6) 16), iq (1 + aroundI (aroundI b 6) 16), .slice (pB r5) n6 n6, iq X, iq Y, iq s, iq al, iq ca, iq cb, iq cc, iq cd] 82 true, rD (A1) g1 o1 n1 1 (cV xs1)] rfl rfl (by kernel_rfl) (by kernel_rfl) ?_
 refine cDn <| tNo <| cSq <| drawn_enter 13 [2] rfl (by kernel_rfl) ?_
 refine tD 0 [2] [(0, 0), (5, 0), (1, 0), (6, 0)] 9 [6, 1, 5, 0] [(18, .pointer (some ⟨b1, 4, none⟩)), (23, .pointer (some ⟨b1, 5, none⟩))] [17, 22] ?_
 refine drawn_two 2 7 8 rfl (by kernel_rfl) ?_ ?_
 ·
  refine oS 2 [(4, .pointer (pB b1)), (8, .pointer (pB b2)), (19, iq X), (23, .pointer (some ⟨b1, 5, none⟩))] [.gen (rowE (pB r5) r5 n6 n6 52 1 (cV (goodP n6 xs1 n6)) true), .cells b2 [.bool false, iq 0, iq 0, .slice none 0 0, iq 0, iq 0, iq 0, iq 0, iq 0, iq 0, iq 0, iq 0] 82 true, .cells b1 [.bool true, iq (1 + aroundI (aroundI a 6) 16), iq (1 + aroundI (aroundI b 6) 16), .slice (pB r5) n6 n6, iq X, iq Y, iq s, iq al, iq ca, iq cb, iq cc, iq cd] 82 true, rD (A1) g1 o1 n1 1 (cV xs1)] ?_
  refine dNx 0 [2] (by kernel_rfl) ?_
  refine drawn_two 3 7 7 rfl (by kernel_rfl) ?_ ?_
  ·
   refine call_pure (d := 20) (iq (aroundI X 24)) (by kernel_rfl) (fun w hT => refAround X 24 w (by omega) (by omega)) ?_
   have hq8_ := aroundI_range X (m := 24) (by omega)
   refine dNx 0 [2] (by kernel_rfl) ?_
   refine tD 0 [2] [(4, 0)] 6 [4, 3, 2, 6, 1, 5, 0] [(21, iq (IntKind.i64.wrap ((aroundI X 24) - 6)))] [] ?_
   refine cRc 21 (iq (IntKind.i64.wrap ((aroundI X 24) - 6))) (iq ((aroundI X 24) - 6)) rfl (wrapI (by omega) (by omega)) ?_
   refine dOn 7 5 rfl (by kernel_rfl) ?_
   refine oS 2 [(4, .pointer (pB b1)), (8, .pointer (pB b2)), (21, iq ((aroundI X 24) - 6)), (24, iq Y)] [.gen (rowE (pB r5) r5 n6 n6 52 1 (cV (goodP n6 xs1 n6)) true), .cells b2 [.bool false, iq 0, iq 0, .slice none 0 0, iq 0, iq 0, iq 0, iq 0, iq 0, iq 0, iq 0, iq 0] 82 true, .cells b1 [.bool true, iq (1 + aroundI (aroundI a 6) 16), iq (1 + aroundI (aroundI b 6) 16), .slice (pB r5) n6 n6, iq X, iq Y, iq s, iq al, iq ca, iq cb, iq cc, iq cd] 82 true, rD (A1) g1 o1 n1 1 (cV xs1)] ?_
   refine dNx 0 [2] (by kernel_rfl) ?_
   refine dOn 8 4 rfl (by kernel_rfl) ?_
   refine call_pure (d := 25) (iq (aroundI Y 24)) (by kernel_rfl) (fun w hT => refAround Y 24 w (by omega) (by omega)) ?_
   have hq9_ := aroundI_range Y (m := 24) (by omega)
   refine dNx 0 [2] (by kernel_rfl) ?_
   refine tD 0 [2] [(9, 0)] 3 [9, 8, 7, 4, 3, 2, 6, 1, 5, 0] [(26, iq (IntKind.i64.wrap ((aroundI Y 24) - 6)))] [] ?_
   refine cRc 26 (iq (IntKind.i64.wrap ((aroundI Y 24) - 6))) (iq ((aroundI Y 24) - 6)) rfl (wrapI (by omega) (by omega)) ?_
   refine tD 0 [2] [(10, 0), (11, 0)] 1 [11, 10, 9, 8, 7, 4, 3, 2, 6, 1, 5, 0] [(27, .agg #[iq ((aroundI X 24) - 6), iq ((aroundI Y 24) - 6)]), (28, .pointer (some ⟨b1, 4, none⟩))] [] ?_
   refine dOn 12 0 rfl (by kernel_rfl) ?_
   refine oS 2 [(4, .pointer (pB b1)), (8, .pointer (pB b2))] [.gen (rowE (pB r5) r5 n6 n6 52 1 (cV (goodP n6 xs1 n6)) true), .cells b2 [.bool false, iq 0, iq 0, .slice none 0 0, iq 0, iq 0, iq 0, iq 0, iq 0, iq 0, iq 0, iq 0] 82 true, .cells b1 [.bool true, iq (1 + aroundI (aroundI a 6) 16), iq (1 + aroundI (aroundI b 6) 16), .slice (pB r5) n6 n6, iq ((aroundI X 24) - 6), iq ((aroundI Y 24) - 6), iq s, iq al, iq ca, iq cb, iq cc, iq cd] 82 true, rD (A1) g1 o1 n1 1 (cV xs1)] ?_
   refine dNx 0 [2] (by kernel_rfl) ?_
   refine drawn_done (by kernel_rfl) ?_
   refine tNo <| cSq <| cRg 6 rfl <| bD [0, 2] 2 4 [(30, iq s)] [29] ?_
   refine pSt 3 3 rfl rfl <| call_pure (d := 31) (iq (aroundI s 3)) (by kernel_rfl) (fun w hT => refAround s 3 w (by omega) (by omega)) ?_
   have hq10_ := aroundI_range s (m := 3) (by omega)
   refine bD [0] 4 2 [(32, iq (IntKind.i64.wrap (1 + (aroundI s 3))))] [] ?_
   refine cRc 32 (iq (IntKind.i64.wrap (1 + (aroundI s 3)))) (iq (1 + (aroundI s 3))) rfl (wrapI (by omega) (by omega)) ?_
   refine batch0 [0, 2] 6 0 [(4, .pointer (pB b1)), (8, .pointer (pB b2))] [.gen (rowE (pB r5) r5 n6 n6 52 1 (cV (goodP n6 xs1 n6)) true), .cells b2 [.bool false, iq 0, iq 0, .slice none 0 0, iq 0, iq 0, iq 0, iq 0, iq 0, iq 0, iq 0, iq 0] 82 true, .cells b1 [.bool true, iq (1 + aroundI (aroundI a 6) 16), iq (1 + aroundI (aroundI b 6) 16), .slice (pB r5) n6 n6, iq ((aroundI X 24) - 6), iq ((aroundI Y 24) - 6), iq (1 + (aroundI s 3)), iq al, iq ca, iq cb, iq cc, iq cd] 82 true, rD (A1) g1 o1 n1 1 (cV xs1)] rfl rfl (by kernel_rfl) (by kernel_rfl) ?_
   refine cDn <| tNo <| cSq <| cRg 5 rfl <| bD [0, 2] 2 3 [(35, iq al)] [34] ?_
   refine pSt 3 2 rfl rfl <| call_pure (d := 36) (iq (aroundI al 256)) (by kernel_rfl) (fun w hT => refAround al 256 w (by omega) (by omega)) ?_
   have hq11_ := aroundI_range al (m := 256) (by omega)
   refine batch0 [0, 2] 5 0 [(4, .pointer (pB b1)), (8, .pointer (pB b2))] [.gen (rowE (pB r5) r5 n6 n6 52 1 (cV (goodP n6 xs1 n6)) true), .cells b2 [.bool false, iq 0, iq 0, .slice none 0 0, iq 0, iq 0, iq 0, iq 0, iq 0, iq 0, iq 0, iq 0] 82 true, .cells b1 [.bool true, iq (1 + aroundI (aroundI a 6) 16), iq (1 + aroundI (aroundI b 6) 16), .slice (pB r5) n6 n6, iq ((aroundI X 24) - 6), iq ((aroundI Y 24) - 6), iq (1 + (aroundI s 3)), iq (aroundI al 256), iq ca, iq cb, iq cc, iq cd] 82 true, rD (A1) g1 o1 n1 1 (cV xs1)] rfl rfl (by kernel_rfl) (by kernel_rfl) ?_
   refine cDn <| tNo <| cSq <| cRg 2 rfl <| batch0 [2, 1] 2 0 [(8, .pointer (pB b2))] [.gen (rowE (pB r5) r5 n6 n6 52 1 (cV (goodP n6 xs1 n6)) true), .cells b2 [.bool true, iq (1 + aroundI (aroundI a 6) 16), iq (1 + aroundI (aroundI b 6) 16), .slice (pB r5) n6 n6, iq ((aroundI X 24) - 6), iq ((aroundI Y 24) - 6), iq (1 + (aroundI s 3)), iq (aroundI al 256), iq ca, iq cb, iq cc, iq cd] 82 true, .cells b1 [.bool true, iq (1 + aroundI (aroundI a 6) 16), iq (1 + aroundI (aroundI b 6) 16), .slice (pB r5) n6 n6, iq ((aroundI X 24) - 6), iq ((aroundI Y 24) - 6), iq (1 + (aroundI s 3)), iq (aroundI al 256), iq ca, iq cb, iq cc, iq cd] 82 true, rD (A1) g1 o1 n1 1 (cV xs1)] rfl rfl (by kernel_rfl) (by kernel_rfl) ?_
   refine cFg 2 rfl <| cDn <| tNo <| cont_ret ?_
   refine ret_one (.inl rfl) rfl 1 (.agg #[.bool true, iq (1 + aroundI (aroundI a 6) 16), iq (1 + aroundI (aroundI b 6) 16), .slice (pB r5) n6 n6, iq ((aroundI X 24) - 6), iq ((aroundI Y 24) - 6), iq (1 + (aroundI s 3)), iq (aroundI al 256), iq ca, iq cb, iq cc, iq cd]) (by kernel_rfl) (by kernel_rfl) (fun w hT => ?_)
   replace hT := hT.erase 2 (fun e h hw => by cases h; first | rfl | cases hw)
   replace hT := hT.erase 1 (fun e h hw => by cases h; first | rfl | cases hw)
   exact ⟨_, _, rfl, ‹_›, hT⟩
  refine oS 2 [(4, .pointer (pB b1)), (8, .pointer (pB b2)), (19, iq X), (24, iq Y)] [.gen (rowE (pB r5) r5 n6 n6 52 1 (cV (goodP n6 xs1 n6)) true), .cells b2 [.bool false, iq 0, iq 0, .slice none 0 0, iq 0, iq 0, iq 0, iq 0, iq 0, iq 0, iq 0, iq 0] 82 true, .cells b1 [.bool true, iq (1 + aroundI (aroundI a 6) 16), iq (1 + aroundI (aroundI b 6) 16), .slice (pB r5) n6 n6, iq X, iq Y, iq s, iq al, iq ca, iq cb, iq cc, iq cd] 82 true, rD (A1) g1 o1 n1 1 (cV xs1)] ?_
  refine dNx 0 [2] (by kernel_rfl) ?_
  refine dOn 3 6 rfl (by kernel_rfl) ?_
  refine call_pure (d := 20) (iq (aroundI X 24)) (by kernel_rfl) (fun w hT => refAround X 24 w (by omega) (by omega)) ?_
  have hq12_ := aroundI_range X (m := 24) (by omega)
  refine dNx 0 [2] (by kernel_rfl) ?_
  refine tD 0 [2] [(4, 0)] 5 [4, 3, 7, 2, 6, 1, 5, 0] [(21, iq (IntKind.i64.wrap ((aroundI X 24) - 6)))] [] ?_
  refine cRc 21 (iq (IntKind.i64.wrap ((aroundI X 24) - 6))) (iq ((aroundI X 24) - 6)) rfl (wrapI (by omega) (by omega)) ?_
  refine dOn 8 4 rfl (by kernel_rfl) ?_
  refine call_pure (d := 25) (iq (aroundI Y 24)) (by kernel_rfl) (fun w hT => refAround Y 24 w (by omega) (by omega)) ?_
  have hq13_ := aroundI_range Y (m := 24) (by omega)
  refine dNx 0 [2] (by kernel_rfl) ?_
  refine tD 0 [2] [(9, 0)] 3 [9, 8, 4, 3, 7, 2, 6, 1, 5, 0] [(26, iq (IntKind.i64.wrap ((aroundI Y 24) - 6)))] [] ?_
  refine cRc 26 (iq (IntKind.i64.wrap ((aroundI Y 24) - 6))) (iq ((aroundI Y 24) - 6)) rfl (wrapI (by omega) (by omega)) ?_
  refine tD 0 [2] [(10, 0), (11, 0)] 1 [11, 10, 9, 8, 4, 3, 7, 2, 6, 1, 5, 0] [(27, .agg #[iq ((aroundI X 24) - 6), iq ((aroundI Y 24) - 6)]), (28, .pointer (some ⟨b1, 4, none⟩))] [] ?_
  refine dOn 12 0 rfl (by kernel_rfl) ?_
  refine oS 2 [(4, .pointer (pB b1)), (8, .pointer (pB b2))] [.gen (rowE (pB r5) r5 n6 n6 52 1 (cV (goodP n6 xs1 n6)) true), .cells b2 [.bool false, iq 0, iq 0, .slice none 0 0, iq 0, iq 0, iq 0, iq 0, iq 0, iq 0, iq 0, iq 0] 82 true, .cells b1 [.bool true, iq (1 + aroundI (aroundI a 6) 16), iq (1 + aroundI (aroundI b 6) 16), .slice (pB r5) n6 n6, iq ((aroundI X 24) - 6), iq ((aroundI Y 24) - 6), iq s, iq al, iq ca, iq cb, iq cc, iq cd] 82 true, rD (A1) g1 o1 n1 1 (cV xs1)] ?_
  refine dNx 0 [2] (by kernel_rfl) ?_
  refine drawn_done (by kernel_rfl) ?_
  refine tNo <| cSq <| cRg 6 rfl <| bD [0, 2] 2 4 [(30, iq s)] [29] ?_
  refine pSt 3 3 rfl rfl <| call_pure (d := 31) (iq (aroundI s 3)) (by kernel_rfl) (fun w hT => refAround s 3 w (by omega) (by omega)) ?_
  have hq14_ := aroundI_range s (m := 3) (by omega)
  refine bD [0] 4 2 [(32, iq (IntKind.i64.wrap (1 + (aroundI s 3))))] [] ?_
  refine cRc 32 (iq (IntKind.i64.wrap (1 + (aroundI s 3)))) (iq (1 + (aroundI s 3))) rfl (wrapI (by omega) (by omega)) ?_
  refine batch0 [0, 2] 6 0 [(4, .pointer (pB b1)), (8, .pointer (pB b2))] [.gen (rowE (pB r5) r5 n6 n6 52 1 (cV (goodP n6 xs1 n6)) true), .cells b2 [.bool false, iq 0, iq 0, .slice none 0 0, iq 0, iq 0, iq 0, iq 0, iq 0, iq 0, iq 0, iq 0] 82 true, .cells b1 [.bool true, iq (1 + aroundI (aroundI a 6) 16), iq (1 + aroundI (aroundI b 6) 16), .slice (pB r5) n6 n6, iq ((aroundI X 24) - 6), iq ((aroundI Y 24) - 6), iq (1 + (aroundI s 3)), iq al, iq ca, iq cb, iq cc, iq cd] 82 true, rD (A1) g1 o1 n1 1 (cV xs1)] rfl rfl (by kernel_rfl) (by kernel_rfl) ?_
  refine cDn <| tNo <| cSq <| cRg 5 rfl <| bD [0, 2] 2 3 [(35, iq al)] [34] ?_
  refine pSt 3 2 rfl rfl <| call_pure (d := 36) (iq (aroundI al 256)) (by kernel_rfl) (fun w hT => refAround al 256 w (by omega) (by omega)) ?_
  have hq15_ := aroundI_range al (m := 256) (by omega)
  refine batch0 [0, 2] 5 0 [(4, .pointer (pB b1)), (8, .pointer (pB b2))] [.gen (rowE (pB r5) r5 n6 n6 52 1 (cV (goodP n6 xs1 n6)) true), .cells b2 [.bool false, iq 0, iq 0, .slice none 0 0, iq 0, iq 0, iq 0, iq 0, iq 0, iq 0, iq 0, iq 0] 82 true, .cells b1 [.bool true, iq (1 + aroundI (aroundI a 6) 16), iq (1 + aroundI (aroundI b 6) 16), .slice (pB r5) n6 n6, iq ((aroundI X 24) - 6), iq ((aroundI Y 24) - 6), iq (1 + (aroundI s 3)), iq (aroundI al 256), iq ca, iq cb, iq cc, iq cd] 82 true, rD (A1) g1 o1 n1 1 (cV xs1)] rfl rfl (by kernel_rfl) (by kernel_rfl) ?_
  refine cDn <| tNo <| cSq <| cRg 2 rfl <| batch0 [2, 1] 2 0 [(8, .pointer (pB b2))] [.gen (rowE (pB r5) r5 n6 n6 52 1 (cV (goodP n6 xs1 n6)) true), .cells b2 [.bool true, iq (1 + aroundI (aroundI a 6) 16), iq (1 + aroundI (aroundI b 6) 16), .slice (pB r5) n6 n6, iq ((aroundI X 24) - 6), iq ((aroundI Y 24) - 6), iq (1 + (aroundI s 3)), iq (aroundI al 256), iq ca, iq cb, iq cc, iq cd] 82 true, .cells b1 [.bool true, iq (1 + aroundI (aroundI a 6) 16), iq (1 + aroundI (aroundI b 6) 16), .slice (pB r5) n6 n6, iq ((aroundI X 24) - 6), iq ((aroundI Y 24) - 6), iq (1 + (aroundI s 3)), iq (aroundI al 256), iq ca, iq cb, iq cc, iq cd] 82 true, rD (A1) g1 o1 n1 1 (cV xs1)] rfl rfl (by kernel_rfl) (by kernel_rfl) ?_
  refine cFg 2 rfl <| cDn <| tNo <| cont_ret ?_
  refine ret_one (.inl rfl) rfl 1 (.agg #[.bool true, iq (1 + aroundI (aroundI a 6) 16), iq (1 + aroundI (aroundI b 6) 16), .slice (pB r5) n6 n6, iq ((aroundI X 24) - 6), iq ((aroundI Y 24) - 6), iq (1 + (aroundI s 3)), iq (aroundI al 256), iq ca, iq cb, iq cc, iq cd]) (by kernel_rfl) (by kernel_rfl) (fun w hT => ?_)
  replace hT := hT.erase 2 (fun e h hw => by cases h; first | rfl | cases hw)
  replace hT := hT.erase 1 (fun e h hw => by cases h; first | rfl | cases hw)
  exact ⟨_, _, rfl, ‹_›, hT⟩
 refine oS 2 [(4, .pointer (pB b1)), (8, .pointer (pB b2)), (18, .pointer (some ⟨b1, 4, none⟩)), (24, iq Y)] [.gen (rowE (pB r5) r5 n6 n6 52 1 (cV (goodP n6 xs1 n6)) true), .cells b2 [.bool false, iq 0, iq 0, .slice none 0 0, iq 0, iq 0, iq 0, iq 0, iq 0, iq 0, iq 0, iq 0] 82 true, .cells b1 [.bool true, iq (1 + aroundI (aroundI a 6) 16), iq (1 + aroundI (aroundI b 6) 16), .slice (pB r5) n6 n6, iq X, iq Y, iq s, iq al, iq ca, iq cb, iq cc, iq cd] 82 true, rD (A1) g1 o1 n1 1 (cV xs1)] ?_
 refine dNx 0 [2] (by kernel_rfl) ?_
 refine dOn 2 7 rfl (by kernel_rfl) ?_
 refine oS 2 [(4, .pointer (pB b1)), (8, .pointer (pB b2)), (19, iq X), (24, iq Y)] [.gen (rowE (pB r5) r5 n6 n6 52 1 (cV (goodP n6 xs1 n6)) true), .cells b2 [.bool false, iq 0, iq 0, .slice none 0 0, iq 0, iq 0, iq 0, iq 0, iq 0, iq 0, iq 0, iq 0] 82 true, .cells b1 [.bool true, iq (1 + aroundI (aroundI a 6) 16), iq (1 + aroundI (aroundI b 6) 16), .slice (pB r5) n6 n6, iq X, iq Y, iq s, iq al, iq ca, iq cb, iq cc, iq cd] 82 true, rD (A1) g1 o1 n1 1 (cV xs1)] ?_
 refine dNx 0 [2] (by kernel_rfl) ?_
 refine dOn 3 6 rfl (by kernel_rfl) ?_
 refine call_pure (d := 20) (iq (aroundI X 24)) (by kernel_rfl) (fun w hT => refAround X 24 w (by omega) (by omega)) ?_
 have hq16_ := aroundI_range X (m := 24) (by omega)
 refine dNx 0 [2] (by kernel_rfl) ?_
 refine tD 0 [2] [(4, 0)] 5 [4, 3, 2, 7, 6, 1, 5, 0] [(21, iq (IntKind.i64.wrap ((aroundI X 24) - 6)))] [] ?_
 refine cRc 21 (iq (IntKind.i64.wrap ((aroundI X 24) - 6))) (iq ((aroundI X 24) - 6)) rfl (wrapI (by omega) (by omega)) ?_
 refine dOn 8 4 rfl (by kernel_rfl) ?_
 refine call_pure (d := 25) (iq (aroundI Y 24)) (by kernel_rfl) (fun w hT => refAround Y 24 w (by omega) (by omega)) ?_
 have hq17_ := aroundI_range Y (m := 24) (by omega)
 refine dNx 0 [2] (by kernel_rfl) ?_
 refine tD 0 [2] [(9, 0)] 3 [9, 8, 4, 3, 2, 7, 6, 1, 5, 0] [(26, iq (IntKind.i64.wrap ((aroundI Y 24) - 6)))] [] ?_
 refine cRc 26 (iq (IntKind.i64.wrap ((aroundI Y 24) - 6))) (iq ((aroundI Y 24) - 6)) rfl (wrapI (by omega) (by omega)) ?_
 refine tD 0 [2] [(10, 0), (11, 0)] 1 [11, 10, 9, 8, 4, 3, 2, 7, 6, 1, 5, 0] [(27, .agg #[iq ((aroundI X 24) - 6), iq ((aroundI Y 24) - 6)]), (28, .pointer (some ⟨b1, 4, none⟩))] [] ?_
 refine dOn 12 0 rfl (by kernel_rfl) ?_
 refine oS 2 [(4, .pointer (pB b1)), (8, .pointer (pB b2))] [.gen (rowE (pB r5) r5 n6 n6 52 1 (cV (goodP n6 xs1 n6)) true), .cells b2 [.bool false, iq 0, iq 0, .slice none 0 0, iq 0, iq 0, iq 0, iq 0, iq 0, iq 0, iq 0, iq 0] 82 true, .cells b1 [.bool true, iq (1 + aroundI (aroundI a 6) 16), iq (1 + aroundI (aroundI b 6) 16), .slice (pB r5) n6 n6, iq ((aroundI X 24) - 6), iq ((aroundI Y 24) - 6), iq s, iq al, iq ca, iq cb, iq cc, iq cd] 82 true, rD (A1) g1 o1 n1 1 (cV xs1)] ?_
 refine dNx 0 [2] (by kernel_rfl) ?_
 refine drawn_done (by kernel_rfl) ?_
 refine tNo <| cSq <| cRg 6 rfl <| bD [0, 2] 2 4 [(30, iq s)] [29] ?_
 refine pSt 3 3 rfl rfl <| call_pure (d := 31) (iq (aroundI s 3)) (by kernel_rfl) (fun w hT => refAround s 3 w (by omega) (by omega)) ?_
 have hq18_ := aroundI_range s (m := 3) (by omega)
 refine bD [0] 4 2 [(32, iq (IntKind.i64.wrap (1 + (aroundI s 3))))] [] ?_
 refine cRc 32 (iq (IntKind.i64.wrap (1 + (aroundI s 3)))) (iq (1 + (aroundI s 3))) rfl (wrapI (by omega) (by omega)) ?_
 refine batch0 [0, 2] 6 0 [(4, .pointer (pB b1)), (8, .pointer (pB b2))] [.gen (rowE (pB r5) r5 n6 n6 52 1 (cV (goodP n6 xs1 n6)) true), .cells b2 [.bool false, iq 0, iq 0, .slice none 0 0, iq 0, iq 0, iq 0, iq 0, iq 0, iq 0, iq 0, iq 0] 82 true, .cells b1 [.bool true, iq (1 + aroundI (aroundI a 6) 16), iq (1 + aroundI (aroundI b 6) 16), .slice (pB r5) n6 n6, iq ((aroundI X 24) - 6), iq ((aroundI Y 24) - 6), iq (1 + (aroundI s 3)), iq al, iq ca, iq cb, iq cc, iq cd] 82 true, rD (A1) g1 o1 n1 1 (cV xs1)] rfl rfl (by kernel_rfl) (by kernel_rfl) ?_
 refine cDn <| tNo <| cSq <| cRg 5 rfl <| bD [0, 2] 2 3 [(35, iq al)] [34] ?_
 refine pSt 3 2 rfl rfl <| call_pure (d := 36) (iq (aroundI al 256)) (by kernel_rfl) (fun w hT => refAround al 256 w (by omega) (by omega)) ?_
 have hq19_ := aroundI_range al (m := 256) (by omega)
 refine batch0 [0, 2] 5 0 [(4, .pointer (pB b1)), (8, .pointer (pB b2))] [.gen (rowE (pB r5) r5 n6 n6 52 1 (cV (goodP n6 xs1 n6)) true), .cells b2 [.bool false, iq 0, iq 0, .slice none 0 0, iq 0, iq 0, iq 0, iq 0, iq 0, iq 0, iq 0, iq 0] 82 true, .cells b1 [.bool true, iq (1 + aroundI (aroundI a 6) 16), iq (1 + aroundI (aroundI b 6) 16), .slice (pB r5) n6 n6, iq ((aroundI X 24) - 6), iq ((aroundI Y 24) - 6), iq (1 + (aroundI s 3)), iq (aroundI al 256), iq ca, iq cb, iq cc, iq cd] 82 true, rD (A1) g1 o1 n1 1 (cV xs1)] rfl rfl (by kernel_rfl) (by kernel_rfl) ?_
 refine cDn <| tNo <| cSq <| cRg 2 rfl <| batch0 [2, 1] 2 0 [(8, .pointer (pB b2))] [.gen (rowE (pB r5) r5 n6 n6 52 1 (cV (goodP n6 xs1 n6)) true), .cells b2 [.bool true, iq (1 + aroundI (aroundI a 6) 16), iq (1 + aroundI (aroundI b 6) 16), .slice (pB r5) n6 n6, iq ((aroundI X 24) - 6), iq ((aroundI Y 24) - 6), iq (1 + (aroundI s 3)), iq (aroundI al 256), iq ca, iq cb, iq cc, iq cd] 82 true, .cells b1 [.bool true, iq (1 + aroundI (aroundI a 6) 16), iq (1 + aroundI (aroundI b 6) 16), .slice (pB r5) n6 n6, iq ((aroundI X 24) - 6), iq ((aroundI Y 24) - 6), iq (1 + (aroundI s 3)), iq (aroundI al 256), iq ca, iq cb, iq cc, iq cd] 82 true, rD (A1) g1 o1 n1 1 (cV xs1)] rfl rfl (by kernel_rfl) (by kernel_rfl) ?_
 refine cFg 2 rfl <| cDn <| tNo <| cont_ret ?_
 refine ret_one (.inl rfl) rfl 1 (.agg #[.bool true, iq (1 + aroundI (aroundI a 6) 16), iq (1 + aroundI (aroundI b 6) 16), .slice (pB r5) n6 n6, iq ((aroundI X 24) - 6), iq ((aroundI Y 24) - 6), iq (1 + (aroundI s 3)), iq (aroundI al 256), iq ca, iq cb, iq cc, iq cd]) (by kernel_rfl) (by kernel_rfl) (fun w hT => ?_)
 replace hT := hT.erase 2 (fun e h hw => by cases h; first | rfl | cases hw)
 replace hT := hT.erase 1 (fun e h hw => by cases h; first | rfl | cases hw)
 exact ⟨_, _, rfl, ‹_›, hT⟩
theorem refBox5 (sm : Bool) (W H : Int) (ms : Value) (X Y s al ca cb cc cd : Int) (w : World) (hw : 1 ≤ W ∧ W ≤ 256) (hh : 1 ≤ H ∧ H ≤ 256) (hs : 1 ≤ s ∧ s ≤ 8) (hX : -1000000 ≤ X ∧ X ≤ 1000000) (hY : -1000000 ≤ Y ∧ Y ≤ 1000000) :
    Calls Tryz.prog 78 #[.agg #[.bool sm, iQ W, iQ H, ms, iQ X, iQ Y, iQ s, iQ al, iQ ca, iQ cb, iQ cc, iQ cd]] w fun e w' => e = .returned (.agg #[iQ ((rboxR W H X Y s ca cb cc cd).x0), iQ ((rboxR W H X Y s ca cb cc cd).y0), iQ ((rboxR W H X Y s ca cb cc cd).x1), iQ ((rboxR W H X Y s ca cb cc cd).y1)]) ∧ Below w.heap.size w w' := by
 obtain ⟨h1, h2, h3, h4, h5, h6⟩ := cut_in ca cb cc cd (W := W) (H := H) hw.1 hh.1
 have m0 := mul_scale (m := 256) h1 (by omega) hs
 have m1 := mul_scale (m := 256) (show 0 ≤ (cutR ca cb cc cd 0 0 W H).x1 by omega) (by omega) hs
 have m2 := mul_scale (m := 256) h4 (by omega) hs
 have m3 := mul_scale (m := 256) (show 0 ≤ (cutR ca cb cc cd 0 0 W H).y1 by omega) (by omega) hs
 refine enter 50 [(0, .agg #[.bool sm, iq W, iq H, ms, iq X, iq Y, iq s, iq al, iq ca, iq cb, iq cc, iq cd])] [] Tryz.func78 rfl Tryz.ntmps78 rfl (by kernel_rfl) (Tab.start w) ?_
 refine cSq <| cRg 2 rfl ?_
 refine batch2 [0, 0] 2 0 (fun b1 b2 => [(1, .pointer (pB b1)), (2, .pointer (pB b2))]) (fun b1 b2 => [.cells b2 [iq 0, iq 0, iq 0, iq 0] 32 true, .cells b1 [.bool sm, iq W, iq H, ms, iq X, iq Y, iq s, iq al, iq ca, iq cb, iq cc, iq cd] 82 true]) rfl rfl [1, 2] (fun _ _ => rfl) (fun b1 b2 => by kernel_rfl) (fun b1 b2 => by kernel_rfl) (fun b1 b2 => ?_)
 refine cDn <| tNo <| cSq <| drawn_enter 8 [] rfl (by kernel_rfl) ?_
 refine tD 0 [] [(0, 0), (2, 0), (1, 1), (3, 1)] 4 [3, 1, 2, 0] [(5, .agg #[iq ca, iq cb, iq cc, iq cd]), (7, .agg #[iq W, iq H, ms])] [4, 6] ?_
 refine drawn_two 4 6 3 rfl (by kernel_rfl) ?_ ?_
 ·
  refine call_pure (d := 8) (.agg #[iq 0, iq 0, iq W, iq H]) (by kernel_rfl) (fun w hT => refBox W H ms w) ?_
  refine dNx 0 [] (by kernel_rfl) ?_
  refine drawn_two 5 6 2 rfl (by kernel_rfl) ?_ ?_
  ·
   refine call_pure (d := 9) (.agg #[iq ((cutR ca cb cc cd 0 0 W H).x0), iq ((cutR ca cb cc cd 0 0 W H).y0), iq ((cutR ca cb cc cd 0 0 W H).x1), iq ((cutR ca cb cc cd 0 0 W H).y1)]) (by kernel_rfl) (fun w hT => refCut ca cb cc cd 0 0 W H w) ?_
   refine dNx 0 [] (by kernel_rfl) ?_
   refine dOn 6 1 rfl (by kernel_rfl) ?_
   refine one_step1 0 (fun b3 => [(1, .pointer (pB b1)), (2, .pointer (pB b2)), (3, .pointer (pB b3)), (9, .agg #[iq ((cutR ca cb cc cd 0 0 W H).x0), iq ((cutR ca cb cc cd 0 0 W H).y0), iq ((cutR ca cb cc cd 0 0 W H).x1), iq ((cutR ca cb cc cd 0 0 W H).y1)])]) (fun b3 => [.cells b3 [iq 0, iq 0, iq 0, iq 0] 32 true, .cells b2 [iq 0, iq 0, iq 0, iq 0] 32 true, .cells b1 [.bool sm, iq W, iq H, ms, iq X, iq Y, iq s, iq al, iq ca, iq cb, iq cc, iq cd] 82 true]) (fun b3 => by kernel_rfl) (fun b3 => by kernel_rfl) (fun b3 => ?_)
   refine dNx 1 [] (by kernel_rfl) ?_
   refine dOn 7 0 rfl (by kernel_rfl) ?_
   refine oS 0 [(1, .pointer (pB b1)), (2, .pointer (pB b2)), (3, .pointer (pB b3))] [.cells b3 [iq ((cutR ca cb cc cd 0 0 W H).x0), iq ((cutR ca cb cc cd 0 0 W H).y0), iq ((cutR ca cb cc cd 0 0 W H).x1), iq ((cutR ca cb cc cd 0 0 W H).y1)] 32 true, .cells b2 [iq 0, iq 0, iq 0, iq 0] 32 true, .cells b1 [.bool sm, iq W, iq H, ms, iq X, iq Y, iq s, iq al, iq ca, iq cb, iq cc, iq cd] 82 true] ?_
   refine dNx 1 [] (by kernel_rfl) ?_
   refine drawn_done (by kernel_rfl) ?_
   refine tNo <| cSq <| cSq <| cRg 2 rfl <| bD [0] 1 1 [(10, .agg #[iq ((cutR ca cb cc cd 0 0 W H).x0), iq ((cutR ca cb cc cd 0 0 W H).y0), iq ((cutR ca cb cc cd 0 0 W H).x1), iq ((cutR ca cb cc cd 0 0 W H).y1)])] [] ?_
   refine pSt 2 0 rfl rfl <| call_pure (d := 11) (.bool (emptyB ((cutR ca cb cc cd 0 0 W H).x0) ((cutR ca cb cc cd 0 0 W H).y0) ((cutR ca cb cc cd 0 0 W H).x1) ((cutR ca cb cc cd 0 0 W H).y1))) (by kernel_rfl) (fun w hT => refEmpty ((cutR ca cb cc cd 0 0 W H).x0) ((cutR ca cb cc cd 0 0 W H).y0) ((cutR ca cb cc cd 0 0 W H).x1) ((cutR ca cb cc cd 0 0 W H).y1) w) ?_
   refine cDn <| tNo ?_
   refine cSp 11 (emptyB ((cutR ca cb cc cd 0 0 W H).x0) ((cutR ca cb cc cd 0 0 W H).y0) ((cutR ca cb cc cd 0 0 W H).x1) ((cutR ca cb cc cd 0 0 W H).y1)) rfl (fun c4_ => ?_) (fun c4_ => ?_)
   ·
    refine cTr rfl <| cSq <| cRg 2 rfl <| bD [0, 1] 2 0 [] [12] ?_
    refine cFg 0 rfl <| cFg 1 rfl <| cDn <| tNo <| cont_ret <| then_ret ?_
    refine ret_one (.inl rfl) rfl 0 (.agg #[iq 0, iq 0, iq 0, iq 0]) (by kernel_rfl) (by kernel_rfl) (fun w hT => ?_)
    exact ⟨by simp [rboxR, *], hT.post rfl⟩
   refine cFa rfl <| cont_skip <| tNo <| cSq <| cRg 38 rfl <| bD [0, 0, 2, 0, 0, 0, 2, 0] 8 30 [(15, iq X), (20, iq (IntKind.i64.wrap (((cutR ca cb cc cd 0 0 W H).x0) * s)))] [13, 14, 16, 17, 18, 19] ?_
   refine cRc 20 (iq (IntKind.i64.wrap (((cutR ca cb cc cd 0 0 W H).x0) * s))) (iq (((cutR ca cb cc cd 0 0 W H).x0) * s)) rfl (wrapI (by omega) (by omega)) ?_
   refine bD [0] 9 29 [(21, iq (IntKind.i64.wrap (X + (((cutR ca cb cc cd 0 0 W H).x0) * s))))] [] ?_
   refine cRc 21 (iq (IntKind.i64.wrap (X + (((cutR ca cb cc cd 0 0 W H).x0) * s)))) (iq (X + (((cutR ca cb cc cd 0 0 W H).x0) * s))) rfl (wrapI (by omega) (by omega)) ?_
   refine bD [0, 0, 2, 0, 0, 0, 2, 0] 17 21 [(24, iq Y), (29, iq (IntKind.i64.wrap (((cutR ca cb cc cd 0 0 W H).y0) * s)))] [22, 23, 25, 26, 27, 28] ?_
   refine cRc 29 (iq (IntKind.i64.wrap (((cutR ca cb cc cd 0 0 W H).y0) * s))) (iq (((cutR ca cb cc cd 0 0 W H).y0) * s)) rfl (wrapI (by omega) (by omega)) ?_
   refine bD [0] 18 20 [(30, iq (IntKind.i64.wrap (Y + (((cutR ca cb cc cd 0 0 W H).y0) * s))))] [] ?_
   refine cRc 30 (iq (IntKind.i64.wrap (Y + (((cutR ca cb cc cd 0 0 W H).y0) * s)))) (iq (Y + (((cutR ca cb cc cd 0 0 W H).y0) * s))) rfl (wrapI (by omega) (by omega)) ?_
   refine bD [0, 0, 2, 0, 0, 0, 2, 0] 26 12 [(33, iq X), (38, iq (IntKind.i64.wrap (((cutR ca cb cc cd 0 0 W H).x1) * s)))] [31, 32, 34, 35, 36, 37] ?_
   refine cRc 38 (iq (IntKind.i64.wrap (((cutR ca cb cc cd 0 0 W H).x1) * s))) (iq (((cutR ca cb cc cd 0 0 W H).x1) * s)) rfl (wrapI (by omega) (by omega)) ?_
   refine bD [0] 27 11 [(39, iq (IntKind.i64.wrap (X + (((cutR ca cb cc cd 0 0 W H).x1) * s))))] [] ?_
   refine cRc 39 (iq (IntKind.i64.wrap (X + (((cutR ca cb cc cd 0 0 W H).x1) * s)))) (iq (X + (((cutR ca cb cc cd 0 0 W H).x1) * s))) rfl (wrapI (by omega) (by omega)) ?_
   refine bD [0, 0, 2, 0, 0, 0, 2, 0] 35 3 [(42, iq Y), (47, iq (IntKind.i64.wrap (((cutR ca cb cc cd 0 0 W H).y1) * s)))] [40, 41, 43, 44, 45, 46] ?_
   refine cRc 47 (iq (IntKind.i64.wrap (((cutR ca cb cc cd 0 0 W H).y1) * s))) (iq (((cutR ca cb cc cd 0 0 W H).y1) * s)) rfl (wrapI (by omega) (by omega)) ?_
   refine cFg 0 rfl <| cFg 1 rfl <| bD [0] 36 2 [(48, iq (IntKind.i64.wrap (Y + (((cutR ca cb cc cd 0 0 W H).y1) * s))))] [] ?_
   refine cRc 48 (iq (IntKind.i64.wrap (Y + (((cutR ca cb cc cd 0 0 W H).y1) * s)))) (iq (Y + (((cutR ca cb cc cd 0 0 W H).y1) * s))) rfl (wrapI (by omega) (by omega)) ?_
   refine batch0 [0, 0] 38 0 [(2, .pointer (pB b2))] [.cells b2 [iq (X + (((cutR ca cb cc cd 0 0 W H).x0) * s)), iq (Y + (((cutR ca cb cc cd 0 0 W H).y0) * s)), iq (X + (((cutR ca cb cc cd 0 0 W H).x1) * s)), iq (Y + (((cutR ca cb cc cd 0 0 W H).y1) * s))] 32 true] rfl rfl (by kernel_rfl) (by kernel_rfl) ?_
   refine cDn <| tNo <| cont_ret ?_
   refine ret_one (.inl rfl) rfl 0 (.agg #[iq (X + (((cutR ca cb cc cd 0 0 W H).x0) * s)), iq (Y + (((cutR ca cb cc cd 0 0 W H).y0) * s)), iq (X + (((cutR ca cb cc cd 0 0 W H).x1) * s)), iq (Y + (((cutR ca cb cc cd 0 0 W H).y1) * s))]) (by kernel_rfl) (by kernel_rfl) (fun w hT => ?_)
   exact ⟨by simp [rboxR, *], hT.post rfl⟩
  refine one_step1 0 (fun b5 => [(1, .pointer (pB b1)), (2, .pointer (pB b2)), (3, .pointer (pB b5)), (5, .agg #[iq ca, iq cb, iq cc, iq cd]), (8, .agg #[iq 0, iq 0, iq W, iq H])]) (fun b5 => [.cells b5 [iq 0, iq 0, iq 0, iq 0] 32 true, .cells b2 [iq 0, iq 0, iq 0, iq 0] 32 true, .cells b1 [.bool sm, iq W, iq H, ms, iq X, iq Y, iq s, iq al, iq ca, iq cb, iq cc, iq cd] 82 true]) (fun b5 => by kernel_rfl) (fun b5 => by kernel_rfl) (fun b5 => ?_)
  refine dNx 1 [] (by kernel_rfl) ?_
  refine dOn 5 1 rfl (by kernel_rfl) ?_
  refine call_pure (d := 9) (.agg #[iq ((cutR ca cb cc cd 0 0 W H).x0), iq ((cutR ca cb cc cd 0 0 W H).y0), iq ((cutR ca cb cc cd 0 0 W H).x1), iq ((cutR ca cb cc cd 0 0 W H).y1)]) (by kernel_rfl) (fun w hT => refCut ca cb cc cd 0 0 W H w) ?_
  refine dNx 1 [] (by kernel_rfl) ?_
  refine dOn 7 0 rfl (by kernel_rfl) ?_
  refine oS 0 [(1, .pointer (pB b1)), (2, .pointer (pB b2)), (3, .pointer (pB b5))] [.cells b5 [iq ((cutR ca cb cc cd 0 0 W H).x0), iq ((cutR ca cb cc cd 0 0 W H).y0), iq ((cutR ca cb cc cd 0 0 W H).x1), iq ((cutR ca cb cc cd 0 0 W H).y1)] 32 true, .cells b2 [iq 0, iq 0, iq 0, iq 0] 32 true, .cells b1 [.bool sm, iq W, iq H, ms, iq X, iq Y, iq s, iq al, iq ca, iq cb, iq cc, iq cd] 82 true] ?_
  refine dNx 1 [] (by kernel_rfl) ?_
  refine drawn_done (by kernel_rfl) ?_
  refine tNo <| cSq <| cSq <| cRg 2 rfl <| bD [0] 1 1 [(10, .agg #[iq ((cutR ca cb cc cd 0 0 W H).x0), iq ((cutR ca cb cc cd 0 0 W H).y0), iq ((cutR ca cb cc cd 0 0 W H).x1), iq ((cutR ca cb cc cd 0 0 W H).y1)])] [] ?_
  refine pSt 2 0 rfl rfl <| call_pure (d := 11) (.bool (emptyB ((cutR ca cb cc cd 0 0 W H).x0) ((cutR ca cb cc cd 0 0 W H).y0) ((cutR ca cb cc cd 0 0 W H).x1) ((cutR ca cb cc cd 0 0 W H).y1))) (by kernel_rfl) (fun w hT => refEmpty ((cutR ca cb cc cd 0 0 W H).x0) ((cutR ca cb cc cd 0 0 W H).y0) ((cutR ca cb cc cd 0 0 W H).x1) ((cutR ca cb cc cd 0 0 W H).y1) w) ?_
  refine cDn <| tNo ?_
  refine cSp 11 (emptyB ((cutR ca cb cc cd 0 0 W H).x0) ((cutR ca cb cc cd 0 0 W H).y0) ((cutR ca cb cc cd 0 0 W H).x1) ((cutR ca cb cc cd 0 0 W H).y1)) rfl (fun c6_ => ?_) (fun c6_ => ?_)
  ·
   refine cTr rfl <| cSq <| cRg 2 rfl <| bD [0, 1] 2 0 [] [12] ?_
   refine cFg 0 rfl <| cFg 1 rfl <| cDn <| tNo <| cont_ret <| then_ret ?_
   refine ret_one (.inl rfl) rfl 0 (.agg #[iq 0, iq 0, iq 0, iq 0]) (by kernel_rfl) (by kernel_rfl) (fun w hT => ?_)
   exact ⟨by simp [rboxR, *], hT.post rfl⟩
  refine cFa rfl <| cont_skip <| tNo <| cSq <| cRg 38 rfl <| bD [0, 0, 2, 0, 0, 0, 2, 0] 8 30 [(15, iq X), (20, iq (IntKind.i64.wrap (((cutR ca cb cc cd 0 0 W H).x0) * s)))] [13, 14, 16, 17, 18, 19] ?_
  refine cRc 20 (iq (IntKind.i64.wrap (((cutR ca cb cc cd 0 0 W H).x0) * s))) (iq (((cutR ca cb cc cd 0 0 W H).x0) * s)) rfl (wrapI (by omega) (by omega)) ?_
  refine bD [0] 9 29 [(21, iq (IntKind.i64.wrap (X + (((cutR ca cb cc cd 0 0 W H).x0) * s))))] [] ?_
  refine cRc 21 (iq (IntKind.i64.wrap (X + (((cutR ca cb cc cd 0 0 W H).x0) * s)))) (iq (X + (((cutR ca cb cc cd 0 0 W H).x0) * s))) rfl (wrapI (by omega) (by omega)) ?_
  refine bD [0, 0, 2, 0, 0, 0, 2, 0] 17 21 [(24, iq Y), (29, iq (IntKind.i64.wrap (((cutR ca cb cc cd 0 0 W H).y0) * s)))] [22, 23, 25, 26, 27, 28] ?_
  refine cRc 29 (iq (IntKind.i64.wrap (((cutR ca cb cc cd 0 0 W H).y0) * s))) (iq (((cutR ca cb cc cd 0 0 W H).y0) * s)) rfl (wrapI (by omega) (by omega)) ?_
  refine bD [0] 18 20 [(30, iq (IntKind.i64.wrap (Y + (((cutR ca cb cc cd 0 0 W H).y0) * s))))] [] ?_
  refine cRc 30 (iq (IntKind.i64.wrap (Y + (((cutR ca cb cc cd 0 0 W H).y0) * s)))) (iq (Y + (((cutR ca cb cc cd 0 0 W H).y0) * s))) rfl (wrapI (by omega) (by omega)) ?_
  refine bD [0, 0, 2, 0, 0, 0, 2, 0] 26 12 [(33, iq X), (38, iq (IntKind.i64.wrap (((cutR ca cb cc cd 0 0 W H).x1) * s)))] [31, 32, 34, 35, 36, 37] ?_
  refine cRc 38 (iq (IntKind.i64.wrap (((cutR ca cb cc cd 0 0 W H).x1) * s))) (iq (((cutR ca cb cc cd 0 0 W H).x1) * s)) rfl (wrapI (by omega) (by omega)) ?_
  refine bD [0] 27 11 [(39, iq (IntKind.i64.wrap (X + (((cutR ca cb cc cd 0 0 W H).x1) * s))))] [] ?_
  refine cRc 39 (iq (IntKind.i64.wrap (X + (((cutR ca cb cc cd 0 0 W H).x1) * s)))) (iq (X + (((cutR ca cb cc cd 0 0 W H).x1) * s))) rfl (wrapI (by omega) (by omega)) ?_
  refine bD [0, 0, 2, 0, 0, 0, 2, 0] 35 3 [(42, iq Y), (47, iq (IntKind.i64.wrap (((cutR ca cb cc cd 0 0 W H).y1) * s)))] [40, 41, 43, 44, 45, 46] ?_
  refine cRc 47 (iq (IntKind.i64.wrap (((cutR ca cb cc cd 0 0 W H).y1) * s))) (iq (((cutR ca cb cc cd 0 0 W H).y1) * s)) rfl (wrapI (by omega) (by omega)) ?_
  refine cFg 0 rfl <| cFg 1 rfl <| bD [0] 36 2 [(48, iq (IntKind.i64.wrap (Y + (((cutR ca cb cc cd 0 0 W H).y1) * s))))] [] ?_
  refine cRc 48 (iq (IntKind.i64.wrap (Y + (((cutR ca cb cc cd 0 0 W H).y1) * s)))) (iq (Y + (((cutR ca cb cc cd 0 0 W H).y1) * s))) rfl (wrapI (by omega) (by omega)) ?_
  refine batch0 [0, 0] 38 0 [(2, .pointer (pB b2))] [.cells b2 [iq (X + (((cutR ca cb cc cd 0 0 W H).x0) * s)), iq (Y + (((cutR ca cb cc cd 0 0 W H).y0) * s)), iq (X + (((cutR ca cb cc cd 0 0 W H).x1) * s)), iq (Y + (((cutR ca cb cc cd 0 0 W H).y1) * s))] 32 true] rfl rfl (by kernel_rfl) (by kernel_rfl) ?_
  refine cDn <| tNo <| cont_ret ?_
  refine ret_one (.inl rfl) rfl 0 (.agg #[iq (X + (((cutR ca cb cc cd 0 0 W H).x0) * s)), iq (Y + (((cutR ca cb cc cd 0 0 W H).y0) * s)), iq (X + (((cutR ca cb cc cd 0 0 W H).x1) * s)), iq (Y + (((cutR ca cb cc cd 0 0 W H).y1) * s))]) (by kernel_rfl) (by kernel_rfl) (fun w hT => ?_)
  exact ⟨by simp [rboxR, *], hT.post rfl⟩
 refine one_step1 0 (fun b7 => [(1, .pointer (pB b1)), (2, .pointer (pB b2)), (3, .pointer (pB b7)), (5, .agg #[iq ca, iq cb, iq cc, iq cd]), (7, .agg #[iq W, iq H, ms])]) (fun b7 => [.cells b7 [iq 0, iq 0, iq 0, iq 0] 32 true, .cells b2 [iq 0, iq 0, iq 0, iq 0] 32 true, .cells b1 [.bool sm, iq W, iq H, ms, iq X, iq Y, iq s, iq al, iq ca, iq cb, iq cc, iq cd] 82 true]) (fun b7 => by kernel_rfl) (fun b7 => by kernel_rfl) (fun b7 => ?_)
 refine dNx 1 [] (by kernel_rfl) ?_
 refine dOn 4 2 rfl (by kernel_rfl) ?_
 refine call_pure (d := 8) (.agg #[iq 0, iq 0, iq W, iq H]) (by kernel_rfl) (fun w hT => refBox W H ms w) ?_
 refine dNx 1 [] (by kernel_rfl) ?_
 refine dOn 5 1 rfl (by kernel_rfl) ?_
 refine call_pure (d := 9) (.agg #[iq ((cutR ca cb cc cd 0 0 W H).x0), iq ((cutR ca cb cc cd 0 0 W H).y0), iq ((cutR ca cb cc cd 0 0 W H).x1), iq ((cutR ca cb cc cd 0 0 W H).y1)]) (by kernel_rfl) (fun w hT => refCut ca cb cc cd 0 0 W H w) ?_
 refine dNx 1 [] (by kernel_rfl) ?_
 refine dOn 7 0 rfl (by kernel_rfl) ?_
 refine oS 0 [(1, .pointer (pB b1)), (2, .pointer (pB b2)), (3, .pointer (pB b7))] [.cells b7 [iq ((cutR ca cb cc cd 0 0 W H).x0), iq ((cutR ca cb cc cd 0 0 W H).y0), iq ((cutR ca cb cc cd 0 0 W H).x1), iq ((cutR ca cb cc cd 0 0 W H).y1)] 32 true, .cells b2 [iq 0, iq 0, iq 0, iq 0] 32 true, .cells b1 [.bool sm, iq W, iq H, ms, iq X, iq Y, iq s, iq al, iq ca, iq cb, iq cc, iq cd] 82 true] ?_
 refine dNx 1 [] (by kernel_rfl) ?_
 refine drawn_done (by kernel_rfl) ?_
 refine tNo <| cSq <| cSq <| cRg 2 rfl <| bD [0] 1 1 [(10, .agg #[iq ((cutR ca cb cc cd 0 0 W H).x0), iq ((cutR ca cb cc cd 0 0 W H).y0), iq ((cutR ca cb cc cd 0 0 W H).x1), iq ((cutR ca cb cc cd 0 0 W H).y1)])] [] ?_
 refine pSt 2 0 rfl rfl <| call_pure (d := 11) (.bool (emptyB ((cutR ca cb cc cd 0 0 W H).x0) ((cutR ca cb cc cd 0 0 W H).y0) ((cutR ca cb cc cd 0 0 W H).x1) ((cutR ca cb cc cd 0 0 W H).y1))) (by kernel_rfl) (fun w hT => refEmpty ((cutR ca cb cc cd 0 0 W H).x0) ((cutR ca cb cc cd 0 0 W H).y0) ((cutR ca cb cc cd 0 0 W H).x1) ((cutR ca cb cc cd 0 0 W H).y1) w) ?_
 refine cDn <| tNo ?_
 refine cSp 11 (emptyB ((cutR ca cb cc cd 0 0 W H).x0) ((cutR ca cb cc cd 0 0 W H).y0) ((cutR ca cb cc cd 0 0 W H).x1) ((cutR ca cb cc cd 0 0 W H).y1)) rfl (fun c8_ => ?_) (fun c8_ => ?_)
 ·
  refine cTr rfl <| cSq <| cRg 2 rfl <| bD [0, 1] 2 0 [] [12] ?_
  refine cFg 0 rfl <| cFg 1 rfl <| cDn <| tNo <| cont_ret <| then_ret ?_
  refine ret_one (.inl rfl) rfl 0 (.agg #[iq 0, iq 0, iq 0, iq 0]) (by kernel_rfl) (by kernel_rfl) (fun w hT => ?_)
  exact ⟨by simp [rboxR, *], hT.post rfl⟩
 refine cFa rfl <| cont_skip <| tNo <| cSq <| cRg 38 rfl <| bD [0, 0, 2, 0, 0, 0, 2, 0] 8 30 [(15, iq X), (20, iq (IntKind.i64.wrap (((cutR ca cb cc cd 0 0 W H).x0) * s)))] [13, 14, 16, 17, 18, 19] ?_
 refine cRc 20 (iq (IntKind.i64.wrap (((cutR ca cb cc cd 0 0 W H).x0) * s))) (iq (((cutR ca cb cc cd 0 0 W H).x0) * s)) rfl (wrapI (by omega) (by omega)) ?_
 refine bD [0] 9 29 [(21, iq (IntKind.i64.wrap (X + (((cutR ca cb cc cd 0 0 W H).x0) * s))))] [] ?_
 refine cRc 21 (iq (IntKind.i64.wrap (X + (((cutR ca cb cc cd 0 0 W H).x0) * s)))) (iq (X + (((cutR ca cb cc cd 0 0 W H).x0) * s))) rfl (wrapI (by omega) (by omega)) ?_
 refine bD [0, 0, 2, 0, 0, 0, 2, 0] 17 21 [(24, iq Y), (29, iq (IntKind.i64.wrap (((cutR ca cb cc cd 0 0 W H).y0) * s)))] [22, 23, 25, 26, 27, 28] ?_
 refine cRc 29 (iq (IntKind.i64.wrap (((cutR ca cb cc cd 0 0 W H).y0) * s))) (iq (((cutR ca cb cc cd 0 0 W H).y0) * s)) rfl (wrapI (by omega) (by omega)) ?_
 refine bD [0] 18 20 [(30, iq (IntKind.i64.wrap (Y + (((cutR ca cb cc cd 0 0 W H).y0) * s))))] [] ?_
 refine cRc 30 (iq (IntKind.i64.wrap (Y + (((cutR ca cb cc cd 0 0 W H).y0) * s)))) (iq (Y + (((cutR ca cb cc cd 0 0 W H).y0) * s))) rfl (wrapI (by omega) (by omega)) ?_
 refine bD [0, 0, 2, 0, 0, 0, 2, 0] 26 12 [(33, iq X), (38, iq (IntKind.i64.wrap (((cutR ca cb cc cd 0 0 W H).x1) * s)))] [31, 32, 34, 35, 36, 37] ?_
 refine cRc 38 (iq (IntKind.i64.wrap (((cutR ca cb cc cd 0 0 W H).x1) * s))) (iq (((cutR ca cb cc cd 0 0 W H).x1) * s)) rfl (wrapI (by omega) (by omega)) ?_
 refine bD [0] 27 11 [(39, iq (IntKind.i64.wrap (X + (((cutR ca cb cc cd 0 0 W H).x1) * s))))] [] ?_
 refine cRc 39 (iq (IntKind.i64.wrap (X + (((cutR ca cb cc cd 0 0 W H).x1) * s)))) (iq (X + (((cutR ca cb cc cd 0 0 W H).x1) * s))) rfl (wrapI (by omega) (by omega)) ?_
 refine bD [0, 0, 2, 0, 0, 0, 2, 0] 35 3 [(42, iq Y), (47, iq (IntKind.i64.wrap (((cutR ca cb cc cd 0 0 W H).y1) * s)))] [40, 41, 43, 44, 45, 46] ?_
 refine cRc 47 (iq (IntKind.i64.wrap (((cutR ca cb cc cd 0 0 W H).y1) * s))) (iq (((cutR ca cb cc cd 0 0 W H).y1) * s)) rfl (wrapI (by omega) (by omega)) ?_
 refine cFg 0 rfl <| cFg 1 rfl <| bD [0] 36 2 [(48, iq (IntKind.i64.wrap (Y + (((cutR ca cb cc cd 0 0 W H).y1) * s))))] [] ?_
 refine cRc 48 (iq (IntKind.i64.wrap (Y + (((cutR ca cb cc cd 0 0 W H).y1) * s)))) (iq (Y + (((cutR ca cb cc cd 0 0 W H).y1) * s))) rfl (wrapI (by omega) (by omega)) ?_
 refine batch0 [0, 0] 38 0 [(2, .pointer (pB b2))] [.cells b2 [iq (X + (((cutR ca cb cc cd 0 0 W H).x0) * s)), iq (Y + (((cutR ca cb cc cd 0 0 W H).y0) * s)), iq (X + (((cutR ca cb cc cd 0 0 W H).x1) * s)), iq (Y + (((cutR ca cb cc cd 0 0 W H).y1) * s))] 32 true] rfl rfl (by kernel_rfl) (by kernel_rfl) ?_
 refine cDn <| tNo <| cont_ret ?_
 refine ret_one (.inl rfl) rfl 0 (.agg #[iq (X + (((cutR ca cb cc cd 0 0 W H).x0) * s)), iq (Y + (((cutR ca cb cc cd 0 0 W H).y0) * s)), iq (X + (((cutR ca cb cc cd 0 0 W H).x1) * s)), iq (Y + (((cutR ca cb cc cd 0 0 W H).y1) * s))]) (by kernel_rfl) (by kernel_rfl) (fun w hT => ?_)
 exact ⟨by simp [rboxR, *], hT.post rfl⟩
end Go.Proofs.YtlfahohbkgdabaaGreat
namespace Go.Proofs.YtlfahohbkgdabaaGreat
open Go Go.RowKit
theorem rbox_has {W H X Y s a b c d x y : Int} (hs : 1 ≤ s) : hasB (rboxR W H X Y s a b c d).x0 (rboxR W H X Y s a b c d).y0 (rboxR W H X Y s a b c d).x1 (rboxR W H X Y s a b c d).y1 x y = (hasB 0 0 W H ((x - X) / s) ((y - Y) / s) && hasB a b c d ((x - X) / s) ((y - Y) / s)) := by
  rw [Bool.eq_iff_iff, Bool.and_eq_true]
  have hcut := cutR_has a b c d 0 0 W H ((x - X) / s) ((y - Y) / s)
  have hsp : 0 < s := by omega
  have k : ∀ (p q z Z : Int), Z + p * s ≤ z ∧ z < Z + q * s ↔ p ≤ (z - Z) / s ∧ (z - Z) / s < q := fun p q z Z => by
    rw [Int.le_ediv_iff_mul_le hsp, Int.ediv_lt_iff_lt_mul hsp]
    omega
  rw [and_comm (a := hasB 0 0 W H _ _ = true), ← hcut]
  unfold rboxR
  dsimp only
  generalize cutR a b c d 0 0 W H = r
  cases hne : emptyB r.x0 r.y0 r.x1 r.y1 with
  | true =>
    have := emptyB_true.1 hne
    simp only [if_true, hasB_true]
    omega
  | false =>
    have k1 := k r.x0 r.x1 x X
    have k2 := k r.y0 r.y1 y Y
    simp only [Bool.false_eq_true, if_false, hasB_true]
    omega
def pcolB (W H X Y s a b c d : Int) (x y : Int) : Bool := hasB 0 0 W H ((x - X) / s) ((y - Y) / s) && hasB a b c d ((x - X) / s) ((y - Y) / s)
theorem pcol_box {W H X Y s a b c d x y : Int} (hs : 1 ≤ s ∧ s ≤ 8) (hX : -1000000 ≤ X ∧ X ≤ 1000000) (hY : -1000000 ≤ Y ∧ Y ≤ 1000000) (hw : 1 ≤ W ∧ W ≤ 256) (hh : 1 ≤ H ∧ H ≤ 256) :
    hasB (shwR W H X Y s a b c d).x0 (shwR W H X Y s a b c d).y0 (shwR W H X Y s a b c d).x1 (shwR W H X Y s a b c d).y1 x y = pcolB W H X Y s a b c d x y := by
  rw [box_same hs hX hY hw hh]
  exact rbox_has (by omega)
end Go.Proofs.YtlfahohbkgdabaaGreat
namespace Go.Proofs.YtlfahohbkgdabaaGreat
open Go Go.RowKit
set_option maxRecDepth 100000
set_option maxHeartbeats 8000000
end Go.Proofs.YtlfahohbkgdabaaGreat
namespace Go.Proofs
open Go.Shelf
def Tryz.lays189_ren : Go.Shelf.Ren := ⟨fun | 189 => 115 | 125 => 128 | 257 => 127 | 128 => 143 | 129 => 144 | 294 => 134 | 295 => 135 | 296 => 136 | 297 => 137 | 298 => 138 | 299 => 139 | 216 => 140 | 300 => 141 | 301 => 142 | 328 => 145 | 329 => 146 | 330 => 147 | 331 => 148 | 332 => 149 | 215 => 150 | 343 => 151 | n => n, fun | 28 => 72 | 3 => 3 | 46 => 177 | 0 => 0 | 51 => 51 | 53 => 190 | 4 => 4 | 183 => 182 | 182 => 181 | 131 => 186 | 5 => 5 | 9 => 9 | 218 => 191 | 222 => 195 | 228 => 198 | 229 => 165 | n => n, fun | n => n⟩
theorem Tryz.lays189 : Go.Proofs.Lays.n189 Tryz.prog Tryz.lays189_ren := {
  mixed := by kernel_rfl
  f125 := Tryz.func128.trans (congrArg some (by kernel_rfl))
  f128 := Tryz.func143.trans (congrArg some (by kernel_rfl))
  f129 := Tryz.func144.trans (congrArg some (by kernel_rfl))
  f189 := Tryz.func115.trans (congrArg some (by kernel_rfl))
  f215 := Tryz.func150.trans (congrArg some (by kernel_rfl))
  f216 := Tryz.func140.trans (congrArg some (by kernel_rfl))
  f257 := Tryz.func127.trans (congrArg some (by kernel_rfl))
  f294 := Tryz.func134.trans (congrArg some (by kernel_rfl))
  f295 := Tryz.func135.trans (congrArg some (by kernel_rfl))
  f296 := Tryz.func136.trans (congrArg some (by kernel_rfl))
  f297 := Tryz.func137.trans (congrArg some (by kernel_rfl))
  f298 := Tryz.func138.trans (congrArg some (by kernel_rfl))
  f299 := Tryz.func139.trans (congrArg some (by kernel_rfl))
  f300 := Tryz.func141.trans (congrArg some (by kernel_rfl))
  f301 := Tryz.func142.trans (congrArg some (by kernel_rfl))
  f328 := Tryz.func145.trans (congrArg some (by kernel_rfl))
  f329 := Tryz.func146.trans (congrArg some (by kernel_rfl))
  f330 := Tryz.func147.trans (congrArg some (by kernel_rfl))
  f331 := Tryz.func148.trans (congrArg some (by kernel_rfl))
  f332 := Tryz.func149.trans (congrArg some (by kernel_rfl))
  f343 := Tryz.func151.trans (congrArg some (by kernel_rfl))
  t0 := Tryz.underlying0
  a0 := Tryz.isAgg0
  z0 := Tryz.sizeOf0
  v0 := Tryz.zeroValue0
  t3 := Tryz.underlying3
  a3 := Tryz.isAgg3
  z3 := Tryz.sizeOf3
  v3 := Tryz.zeroValue3
  t4 := Tryz.underlying4
  a4 := Tryz.isAgg4
  z4 := Tryz.sizeOf4
  v4 := Tryz.zeroValue4
  t5 := Tryz.underlying5
  a5 := Tryz.isAgg5
  z5 := Tryz.sizeOf5
  v5 := Tryz.zeroValue5
  t9 := Tryz.underlying9
  a9 := Tryz.isAgg9
  z9 := Tryz.sizeOf9
  v9 := Tryz.zeroValue9
  t28 := Tryz.underlying72
  a28 := Tryz.isAgg72
  z28 := Tryz.sizeOf72
  v28 := Tryz.zeroValue72
  t46 := Tryz.underlying177
  a46 := Tryz.isAgg177
  z46 := Tryz.sizeOf177
  v46 := Tryz.zeroValue177
  t51 := Tryz.underlying51
  a51 := Tryz.isAgg51
  z51 := Tryz.sizeOf51
  v51 := Tryz.zeroValue51
  t53 := Tryz.underlying190
  a53 := Tryz.isAgg190
  z53 := Tryz.sizeOf190
  v53 := Tryz.zeroValue190
  t131 := Tryz.underlying186
  a131 := Tryz.isAgg186
  z131 := Tryz.sizeOf186
  v131 := Tryz.zeroValue186
  t182 := Tryz.underlying181
  a182 := Tryz.isAgg181
  z182 := Tryz.sizeOf181
  v182 := Tryz.zeroValue181
  t183 := Tryz.underlying182
  a183 := Tryz.isAgg182
  z183 := Tryz.sizeOf182
  v183 := Tryz.zeroValue182
  t218 := Tryz.underlying191
  a218 := Tryz.isAgg191
  z218 := Tryz.sizeOf191
  v218 := Tryz.zeroValue191
  t222 := Tryz.underlying195
  a222 := Tryz.isAgg195
  z222 := Tryz.sizeOf195
  v222 := Tryz.zeroValue195
  t228 := Tryz.underlying198
  a228 := Tryz.isAgg198
  z228 := Tryz.sizeOf198
  v228 := Tryz.zeroValue198
  t229 := Tryz.underlying165
  a229 := Tryz.isAgg165
  z229 := Tryz.sizeOf165
  v229 := Tryz.zeroValue165 }
open Go.Sort Go.RowKit in
theorem Tryz.slices_Sort_int (blk off cap : Nat) (zs : List Int) (w : World) (hH : Holds (Value.int .i64) w blk off zs.toArray) (hblk : blk < w.heap.size) (hsz : zs.length < 4611686018427387904) :
    Calls Tryz.prog 115 #[.slice (some ⟨blk, off, none⟩) zs.length cap] w fun e w' =>
      e = .returned (.tuple #[]) ∧ ∃ n os, w' = grow (putRow (Value.int .i64) (Sort.ahead w n) blk off (zs.mergeSort fun x y => decide (x ≤ y)).toArray) os := Any.slices_Sort_int Tryz.lays189 blk off cap zs w hH hblk hsz
def Tryz.laysNm220_ren : Go.Shelf.Ren := ⟨fun | 20 => 116 | n => n, fun | 22 => 72 | 3 => 3 | 4 => 4 | 0 => 0 | n => n, fun | n => n⟩
theorem Tryz.laysNm220 : Go.Proofs.Lays2.n20 Tryz.prog Tryz.laysNm220_ren := {
  mixed := by kernel_rfl
  f20 := Tryz.func116.trans (congrArg some (by kernel_rfl))
  t0 := Tryz.underlying0
  a0 := Tryz.isAgg0
  z0 := Tryz.sizeOf0
  v0 := Tryz.zeroValue0
  t3 := Tryz.underlying3
  a3 := Tryz.isAgg3
  z3 := Tryz.sizeOf3
  v3 := Tryz.zeroValue3
  t4 := Tryz.underlying4
  a4 := Tryz.isAgg4
  z4 := Tryz.sizeOf4
  v4 := Tryz.zeroValue4
  t22 := Tryz.underlying72
  a22 := Tryz.isAgg72
  z22 := Tryz.sizeOf72
  v22 := Tryz.zeroValue72
  i3 := by kernel_rfl }
open Go.RowKit Go.Lib Go.Sort in
theorem Tryz.slices_Compact_int (blk off cap : Nat) (zs : List Int) (w : World) (hH : Holds (Value.int .i64) w blk off zs.toArray) (hsz : zs.length ≤ 9223372036854775807) (hcap : zs.length ≤ cap) :
    Calls Tryz.prog 116 #[.slice (some ⟨blk, off, none⟩) zs.length cap] w fun e w' => e = .returned (.slice (some ⟨blk, off, none⟩) (Lib.compact zs).length cap) ∧ ∃ q, w' = putRow (Value.int .i64) (Sort.ahead w q) blk off (Lib.compact zs ++ List.replicate (zs.length - (Lib.compact zs).length) 0).toArray := Any.slices_Compact_int Tryz.laysNm220 blk off cap zs w hH hsz hcap
open Go.RowKit Go.Lib Go.Sort in
theorem Tryz.slices_Compact_int_empty (a : Option Addr) (cap : Nat) (w : World) :
    Calls Tryz.prog 116 #[.slice a 0 cap] w fun e w' => e = .returned (.slice a 0 cap) ∧ w' = w := Any.slices_Compact_int_empty Tryz.laysNm220 a cap w
open Go.RowKit Go.Sort in
theorem Tryz.slices_Sort_int_none (p : Option Addr) (cap : Nat) (w : World) :
    Calls Tryz.prog 115 #[.slice p 0 cap] w fun e w' => e = .returned (.tuple #[]) ∧ w' = w := Any.slices_Sort_int_none Tryz.lays189 p cap w
end Go.Proofs
