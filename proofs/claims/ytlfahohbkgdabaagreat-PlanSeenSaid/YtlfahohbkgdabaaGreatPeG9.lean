/- Texts of this proof's own, put together: what each holds is told ahead of it. -/
import Derived.Test.YtlfahohbkgdabaaGreatPeG8
import Derived.Test.YtlfahohbkgdabaaGreatProg
set_option linter.unusedSimpArgs false
set_option linter.unusedVariables false
namespace Go.Proofs.YtlfahohbkgdabaaGreat
open Go Go.RowKit
set_option maxRecDepth 100000
set_option maxHeartbeats 8000000
theorem refBox13 (W H : Int) (r n cap : Nat) (X Y s al ca cb cc cd : Int) (A : Option Addr) (k cp : Nat) (w : World) (hw : 1 ≤ W ∧ W ≤ 256) (hh : 1 ≤ H ∧ H ≤ 256) (hs : 1 ≤ s ∧ s ≤ 8) (hX : -1000000 ≤ X ∧ X ≤ 1000000) (hY : -1000000 ≤ Y ∧ Y ≤ 1000000) :
    Calls Tryz.prog 46 #[.agg #[.bool true, iQ W, iQ H, sL r n cap, iQ X, iQ Y, iQ s, iQ al, iQ ca, iQ cb, iQ cc, iQ cd, .slice A k cp, .string ⟨#[]⟩]] w fun e w' => e = .returned (.agg #[iQ ((shwR W H X Y s ca cb cc cd).x0), iQ ((shwR W H X Y s ca cb cc cd).y0), iQ ((shwR W H X Y s ca cb cc cd).x1), iQ ((shwR W H X Y s ca cb cc cd).y1)]) ∧ Below w.heap.size w w' := by
 refine enter 10 [(0, .agg #[.bool true, iq W, iq H, .slice (pB r) n cap, iq X, iq Y, iq s, iq al, iq ca, iq cb, iq cc, iq cd, .slice A k cp, .string ⟨#[]⟩])] [] Tryz.func46 rfl Tryz.ntmps46 rfl (by kernel_rfl) (Tab.start w) ?_
 refine cSq <| cRg 2 rfl ?_
 refine batch2 [0, 0] 2 0 (fun b1 b2 => [(1, .pointer (pB b1)), (2, .pointer (pB b2))]) (fun b1 b2 => [.cells b2 [iq 0, iq 0, iq 0, iq 0] 32 true, .cells b1 [.bool true, iq W, iq H, .slice (pB r) n cap, iq X, iq Y, iq s, iq al, iq ca, iq cb, iq cc, iq cd, .slice A k cp, .string ⟨#[]⟩] 87 true]) rfl rfl [1, 2] (fun _ _ => rfl) (fun b1 b2 => by kernel_rfl) (fun b1 b2 => by kernel_rfl) (fun b1 b2 => ?_)
 refine cDn <| tNo <| cSq <| cSq <| cRg 3 rfl <| bD [0, 1, 0] 3 0 [(5, .bool false)] [3, 4] ?_
 refine cDn <| tNo <| cFa rfl <| cont_skip <| tNo <| cSq <| cRg 4 rfl <| bD [1] 1 3 [(7, .agg #[.bool true, iq W, iq H, .slice (pB r) n cap, iq X, iq Y, iq s, iq al, iq ca, iq cb, iq cc, iq cd, .slice A k cp, .string ⟨#[]⟩])] [] ?_
 refine cFg 1 rfl <| pSt 2 2 rfl rfl <| call_pure (d := 8) (.agg #[.bool true, iq W, iq H, .slice (pB r) n cap, iq X, iq Y, iq s, iq al, iq ca, iq cb, iq cc, iq cd]) (by kernel_rfl) (fun w hT => refLayer13 W H r n cap X Y s al ca cb cc cd A k cp w) ?_
 refine pSt 3 1 rfl rfl <| call_pure (d := 9) (.agg #[iq ((rboxR W H X Y s ca cb cc cd).x0), iq ((rboxR W H X Y s ca cb cc cd).y0), iq ((rboxR W H X Y s ca cb cc cd).x1), iq ((rboxR W H X Y s ca cb cc cd).y1)]) (by kernel_rfl) (fun w hT => refBox5 true W H (.slice (pB r) n cap) X Y s al ca cb cc cd w (by omega) (by omega) (by omega) (by omega) (by omega)) ?_
 refine batch0 [0] 4 0 [(2, .pointer (pB b2))] [.cells b2 [iq ((rboxR W H X Y s ca cb cc cd).x0), iq ((rboxR W H X Y s ca cb cc cd).y0), iq ((rboxR W H X Y s ca cb cc cd).x1), iq ((rboxR W H X Y s ca cb cc cd).y1)] 32 true] rfl rfl (by kernel_rfl) (by kernel_rfl) ?_
 refine cDn <| tNo <| cont_ret ?_
 refine ret_one (.inl rfl) rfl 0 (.agg #[iq ((rboxR W H X Y s ca cb cc cd).x0), iq ((rboxR W H X Y s ca cb cc cd).y0), iq ((rboxR W H X Y s ca cb cc cd).x1), iq ((rboxR W H X Y s ca cb cc cd).y1)]) (by kernel_rfl) (by kernel_rfl) (fun w hT => ?_)
 exact ⟨by rw [box_same (by omega) (by omega) (by omega) (by omega) (by omega)], hT.post rfl⟩
theorem refHides13 (W H : Int) (r n cap : Nat) (px : List Int) (X Y s al ca cb cc cd : Int) (Az : Option Addr) (gz oz nz capz : Nat) (xsz : List Rect) (w : World) (hT0 : Tab w w [rD (some ⟨r, 0, none⟩) r 0 n 1 (cV px), rD (Az) gz oz nz 4 (rvals xsz)]) (hok : ImgOk W H n px) (hs : 1 ≤ s ∧ s ≤ 8) (hX : -1000000 ≤ X ∧ X ≤ 1000000) (hY : -1000000 ≤ Y ∧ Y ≤ 1000000) (hop : xsz.length ≤ 200000) :
    Calls Tryz.prog 50 #[.agg #[.bool true, iQ W, iQ H, sL r n cap, iQ X, iQ Y, iQ s, iQ al, iQ ca, iQ cb, iQ cc, iQ cd, .slice Az nz capz, .string ⟨#[]⟩]] w fun e w' => ∃ (A_ : Option Addr) (g_ k_ cp_ : Nat), e = .returned (.slice A_ k_ cp_) ∧ Tab w w' [.gen (rowE (A_) g_ k_ cp_ 32 4 (rvals (hidP W H X Y s al xsz ⟨ca, cb, cc, cd⟩)) true)] := by
  have hw1 := hok.w1
  have hw2 := hok.w2
  have hh1 := hok.h1
  have hh2 := hok.h2
  have hnum := hok.num
  have hlen := hok.len
  have hle := hok.le
  obtain ⟨hraz, hrlz⟩ := Rd.factsR (hT0.ok 1 _ rfl)
  refine enter 16 [(0, .agg #[.bool true, iQ W, iQ H, sL r n cap, iQ X, iQ Y, iQ s, iQ al, iQ ca, iQ cb, iQ cc, iQ cd, .slice Az nz capz, .string ⟨#[]⟩])] [rD (some ⟨r, 0, none⟩) r 0 n 1 (cV px), rD (Az) gz oz nz 4 (rvals xsz)] Tryz.func50 rfl Tryz.ntmps50 rfl (by kernel_rfl) hT0 ?_
  refine cSq <| cRg 2 rfl ?_
  refine batch1 [0, 0] 2 0 (fun b1 => [(1, pT b1)]) (fun b1 => [.cells b1 [.bool true, iQ W, iQ H, sL r n cap, iQ X, iQ Y, iQ s, iQ al, iQ ca, iQ cb, iQ cc, iQ cd, .slice Az nz capz, .string ⟨#[]⟩] 87 true, rD (some ⟨r, 0, none⟩) r 0 n 1 (cV px), rD (Az) gz oz nz 4 (rvals xsz)]) rfl rfl [1] (fun _ => rfl) (fun b1 => by kernel_rfl) (fun b1 => by kernel_rfl) (fun b1 => ?_)
  refine cDn <| tNo <| cSq <| cSq <| cRg 8 rfl <| bD [0, 0, 0, 0, 0, 0, 0, 0] 8 0 [(10, .bool (al != 255))] [3, 4, 5, 6, 7, 8, 9] ?_
  refine cDn <| tNo ?_
  refine cSp 10 (al != 255) rfl (fun c2_ => ?_) (fun c2_ => ?_)
  ·
    replace c2_ := ne_of_bne c2_
    refine cTr rfl <| cSq <| cRg 1 rfl <| bS [0] 1 0 [(2, .slice none 0 0)] ?_
    refine cFg 0 rfl <| cDn <| tNo <| cont_ret <| then_ret ?_
    refine ret_one (.inl rfl) rfl 0 (.slice none 0 0) (by kernel_rfl) (by kernel_rfl) (fun w hT => ?_)
    replace hT := hT.erase 1 (fun e h hw => by cases h; first | rfl | cases hw)
    replace hT := hT.erase 0 (fun e h hw => by cases h; first | rfl | cases hw)
    have hT9 := hT.nilR 32 4
    rw [hidP_no (by omega)]
    exact ⟨none, 0, 0, 0, rfl, hT9⟩
  replace c2_ := eq_of_bne_false c2_
  refine cFa rfl <| cont_skip <| tNo <| cSq <| drawn_enter 6 [] rfl (by kernel_rfl) ?_
  refine tD 0 [] [(0, 0), (2, 0), (3, 0)] 3 [3, 2, 0] [(11, .agg #[.bool true, iQ W, iQ H, sL r n cap, iQ X, iQ Y, iQ s, iQ al, iQ ca, iQ cb, iQ cc, iQ cd, .slice Az nz capz, .string ⟨#[]⟩]), (14, .slice Az nz capz)] [13] ?_
  refine dOn 1 2 rfl (by kernel_rfl) ?_
  refine call_pure (d := 12) (.agg #[.bool true, iQ W, iQ H, sL r n cap, iQ X, iQ Y, iQ s, iQ al, iQ ca, iQ cb, iQ cc, iQ cd]) (by kernel_rfl) (fun w hT => refLayer13 W H r n cap X Y s al ca cb cc cd Az nz capz w) ?_
  refine dNx 0 [] (by kernel_rfl) ?_
  refine dOn 4 1 rfl (by kernel_rfl) ?_
  have hlb3_ := plc_lenB W X Y s (plcB ca cb cc cd xsz) (n := n) (by omega)
  refine call_gen (d := 15) (α := Option Addr × Nat × Nat × Nat) (fun x_ => .slice x_.1 x_.2.2.1 x_.2.2.2) (fun x_ => [.gen (rowE (x_.1) x_.2.1 x_.2.2.1 x_.2.2.2 32 4 (rvals (canR (plcL W X Y s (plcB ca cb cc cd xsz) n))) true), .cells b1 [.bool true, iQ W, iQ H, sL r n cap, iQ X, iQ Y, iQ s, iQ al, iQ ca, iQ cb, iQ cc, iQ cd, .slice Az nz capz, .string ⟨#[]⟩] 87 true, rD (some ⟨r, 0, none⟩) r 0 n 1 (cV px), rD (Az) gz oz nz 4 (rvals xsz)]) (fun x_ => True) (by kernel_rfl) (fun w hT => (refPlaceF5 W H r n cap px X Y s al ca cb cc cd Az gz oz nz capz xsz w (hT.viewRo (.cons (i := 1) rfl Vw.rd (.cons (i := 2) rfl Vw.rd .nil)) rfl) hok (by omega) (by omega) (by omega) (by omega)).mono fun e w' ⟨A4, g5, k6, cp7, he_, ht_⟩ => ⟨(A4, g5, k6, cp7), he_, trivial, hT.news ht_ rfl⟩) ?_
  rintro ⟨A4, g5, k6, cp7⟩ hf8_
  refine cN [.gen (rowE (A4) g5 k6 cp7 32 4 (rvals (canR (plcL W X Y s (plcB ca cb cc cd xsz) n))) true), .cells b1 [.bool true, iQ W, iQ H, sL r n cap, iQ X, iQ Y, iQ s, iQ al, iQ ca, iQ cb, iQ cc, iQ cd, .slice Az nz capz, .string ⟨#[]⟩] 87 true, rD (some ⟨r, 0, none⟩) r 0 n 1 (cV px), rD (Az) gz oz nz 4 (rvals xsz)] ?_
  refine cont_fact (F := (0 < k6 → (A4 : Option Addr) = some ⟨g5, 0, none⟩) ∧ (canR (plcL W X Y s (plcB ca cb cc cd xsz) n)).length = k6 ∧ k6 ≤ cp7 ∧ cp7 ≤ maxLen) (fun w hT => Row.factsR (hT.ok 0 _ rfl)) (fun hr9_ => ?_)
  obtain ⟨hr9_a, hr9_l, hr9_c, hr9_m⟩ := hr9_
  unfold maxLen at hr9_m
  refine dNx 1 [] (by kernel_rfl) ?_
  refine tD 1 [] [(5, 0)] 0 [5, 4, 1, 3, 2, 0] [(2, .slice A4 k6 cp7)] [] ?_
  refine drawn_done (by kernel_rfl) ?_
  refine tNo <| cont_ret ?_
  refine ret_one (.inl rfl) rfl 0 (.slice A4 k6 cp7) (by kernel_rfl) (by kernel_rfl) (fun w hT => ?_)
  replace hT := hT.erase 3 (fun e h hw => by cases h; first | rfl | cases hw)
  replace hT := hT.erase 2 (fun e h hw => by cases h; first | rfl | cases hw)
  replace hT := hT.erase 1 (fun e h hw => by cases h; first | rfl | cases hw)
  rw [hidP_yes (by omega), place_same xsz (by omega) (by omega) (by omega) (by omega) (by omega) hnum]
  exact ⟨_, _, _, _, rfl, hT⟩
theorem refOne17 (a b c d : Int) (w : World) :
    Calls Tryz.prog 48 #[.agg #[iQ a, iQ b, iQ c, iQ d]] w fun e w' => ∃ (A_ : Option Addr) (g_ k_ cp_ : Nat), e = .returned (.slice A_ k_ cp_) ∧ Tab w w' [.gen (rowE (A_) g_ k_ cp_ 32 4 (rvals (canR [(⟨a, b, c, d⟩ : Rect)])) true)] := by
 refine enter 6 [(0, .agg #[iq a, iq b, iq c, iq d])] [] Tryz.func48 rfl Tryz.ntmps48 rfl (by kernel_rfl) (Tab.start w) ?_
 refine cSq <| cRg 2 rfl ?_
 refine batch1 [0, 0] 2 0 (fun b1 => [(1, .pointer (pB b1))]) (fun b1 => [.cells b1 [iq a, iq b, iq c, iq d] 32 true]) rfl rfl [1] (fun _ => rfl) (fun b1 => by kernel_rfl) (fun b1 => by kernel_rfl) (fun b1 => ?_)
 refine cDn <| tNo <| cSq <| cRg 4 rfl ?_
 refine batch1 [0, 0] 2 2 (fun b2 => [(4, .slice (pB b2) 1 1)]) (fun b2 => [.cells b2 [iq a, iq b, iq c, iq d] 32 true, .cells b1 [iq a, iq b, iq c, iq d] 32 true]) rfl rfl [4] (fun _ => rfl) (fun b2 => by kernel_rfl) (fun b2 => by kernel_rfl) (fun b2 => ?_)
 refine cFg 1 rfl <| pSt 3 1 rfl rfl <| cont_asRow 0 1 4 rfl (vals := rvals [(⟨a, b, c, d⟩ : Rect)]) rfl rfl (by decide) ?_
 refine call_gen (d := 5) (α := Option Addr × Nat × Nat × Nat) (fun x_ => .slice x_.1 x_.2.2.1 x_.2.2.2) (fun x_ => [.gen (rowE (x_.1) x_.2.1 x_.2.2.1 x_.2.2.2 32 4 (rvals (canR [(⟨a, b, c, d⟩ : Rect)])) true), .gen (rowE (pB b2) b2 1 1 32 4 (rvals [(⟨a, b, c, d⟩ : Rect)]) true)]) (fun x_ => True) (by kernel_rfl) (fun w hT => (refOf (pB b2) b2 0 1 1 [(⟨a, b, c, d⟩ : Rect)] w (hT.viewRo (.cons (i := 0) rfl Vw.rowRd .nil) rfl) (by omega)).mono fun e w' ⟨A3, g4, k5, cp6, he_, ht_⟩ => ⟨(A3, g4, k5, cp6), he_, trivial, hT.news ht_ rfl⟩) ?_
 rintro ⟨A3, g4, k5, cp6⟩ hf7_
 refine cont_fact (F := (0 < k5 → (A3 : Option Addr) = pB g4) ∧ (canR [(⟨a, b, c, d⟩ : Rect)]).length = k5 ∧ k5 ≤ cp6 ∧ cp6 ≤ maxLen) (fun w hT => Row.factsR (hT.ok 0 _ rfl)) (fun hr8_ => ?_)
 obtain ⟨hr8_a, hr8_l, hr8_c, hr8_m⟩ := hr8_
 unfold maxLen at hr8_m
 refine bS [0] 4 0 [(2, .slice A3 k5 cp6)] ?_
 refine cDn <| tNo <| cont_ret ?_
 refine ret_one (.inl rfl) rfl 0 (.slice A3 k5 cp6) (by kernel_rfl) (by kernel_rfl) (fun w hT => ?_)
 replace hT := hT.erase 1 (fun e h hw => by cases h; first | rfl | cases hw)
 exact ⟨_, _, _, _, rfl, hT⟩
theorem refSeenG (A : Option Addr) (g o n cap : Nat) (ts : List TS) (W H : Int) (w : World) (hT0 : Tab w w [rD (A) g o n 14 (dvals TS.cells ts), .gen (subE n (TS.pxs ts)), .gen (subE n (TS.ops ts))]) (hW : 1 ≤ W ∧ W ≤ 256) (hH : 1 ≤ H ∧ H ≤ 256) (hts : ∀ t ∈ ts, TS.Ok t) (hn : n ≤ 100) :
    Calls Tryz.prog 20 #[.slice A n cap, .agg #[iQ 0, iQ 0, iQ W, iQ H], iQ (-1)] w fun e w' => ∃ (A_ : Option Addr) (g_ k_ cp_ : Nat), e = .returned (.slice A_ k_ cp_) ∧ Tab w w' [.gen (rowE (A_) g_ k_ cp_ 32 4 (rvals (leftL (⟨0, 0, W, H⟩ : Rect) ts)) true)] := by
  obtain ⟨hra, hrl⟩ := Rd.factsD TS.size (by decide) (hT0.ok 0 _ rfl)
  have hgt := hts
  refine enter 37 [(0, .slice A n cap), (1, .agg #[iQ 0, iQ 0, iQ W, iQ H]), (2, iQ (-1))] [rD (A) g o n 14 (dvals TS.cells ts), .gen (subE n (TS.pxs ts)), .gen (subE n (TS.ops ts))] Tryz.func20 rfl Tryz.ntmps20 rfl (by kernel_rfl) hT0 ?_
  refine cSq <| cRg 2 rfl ?_
  refine batch1 [0, 0] 2 0 (fun b1 => [(0, .slice A n cap), (2, iQ (-1)), (4, pT b1)]) (fun b1 => [.cells b1 [iQ 0, iQ 0, iQ W, iQ H] 32 true, rD (A) g o n 14 (dvals TS.cells ts), .gen (subE n (TS.pxs ts)), .gen (subE n (TS.ops ts))]) rfl rfl [0, 2, 4] (fun _ => rfl) (fun b1 => by kernel_rfl) (fun b1 => by kernel_rfl) (fun b1 => ?_)
  refine cDn <| tNo <| cSq <| cRg 3 rfl <| bD [0] 1 2 [(9, .agg #[iQ 0, iQ 0, iQ W, iQ H])] [] ?_
  refine cFg 0 rfl <| pSt 2 1 rfl rfl ?_
  have hcs2_ := canR_small (l := [(⟨0, 0, W, H⟩ : Rect)]) (by simp)
  refine call_gen (d := 10) (α := Option Addr × Nat × Nat × Nat) (fun x_ => .slice x_.1 x_.2.2.1 x_.2.2.2) (fun x_ => [.gen (rowE (x_.1) x_.2.1 x_.2.2.1 x_.2.2.2 32 4 (rvals (canR [(⟨0, 0, W, H⟩ : Rect)])) true), rD (A) g o n 14 (dvals TS.cells ts), .gen (subE n (TS.pxs ts)), .gen (subE n (TS.ops ts))]) (fun x_ => True) (by kernel_rfl) (fun w hT => (refOne17 0 0 W H w).mono fun e w' ⟨A3, g4, k5, cp6, he_, ht_⟩ => ⟨(A3, g4, k5, cp6), he_, trivial, hT.news ht_ rfl⟩) ?_
  rintro ⟨A3, g4, k5, cp6⟩ hf7_
  refine cN [.gen (rowE (A3) g4 k5 cp6 32 4 (rvals (canR [(⟨0, 0, W, H⟩ : Rect)])) true), rD (A) g o n 14 (dvals TS.cells ts), .gen (subE n (TS.pxs ts)), .gen (subE n (TS.ops ts))] ?_
  refine cont_fact (F := (0 < k5 → (A3 : Option Addr) = some ⟨g4, 0, none⟩) ∧ (canR [(⟨0, 0, W, H⟩ : Rect)]).length = k5 ∧ k5 ≤ cp6 ∧ cp6 ≤ maxLen) (fun w hT => Row.factsR (hT.ok 0 _ rfl)) (fun hr8_ => ?_)
  obtain ⟨hr8_a, hr8_l, hr8_c, hr8_m⟩ := hr8_
  unfold maxLen at hr8_m
  refine bD [0] 3 0 [(7, .slice A3 k5 cp6)] [] ?_
  refine cDn <| tNo <| cSq <| cSq <| cRg 2 rfl <| bD [0, 0] 2 0 [(12, .bool false)] [11] ?_
  refine cDn <| tNo <| cFa rfl <| cont_skip <| tNo <| cSq <| cSq <| cRg 3 rfl <| bD [0, 0, 0] 3 0 [(8, iQ 0)] [21, 22] ?_
  refine cDn <| tNo <| cont_block <| cont_rowEqR 0 (canR [(⟨0, 0, W, H⟩ : Rect)]) (lessL (canR [(⟨0, 0, W, H⟩ : Rect)]) ((ts.take 0).drop 0)) rfl (by rw [List.drop_of_length_le (by rw [List.length_take]; omega)]; rfl) ?_
  refine cRc 8 (iQ 0) (iQ ((0 : Nat) : Int)) rfl (congrArg (Value.int .i64) (by omega)) ?_
  have horeg : IsReg (canR [(⟨0, 0, W, H⟩ : Rect)]) (hasL (canR [(⟨0, 0, W, H⟩ : Rect)])) := (canR_isReg _).self
  have hoon : OnImg W H (canR [(⟨0, 0, W, H⟩ : Rect)]) := by intro x_ y_ h_; rw [hasL_can, hasL_one] at h_; have := hasB_true.1 h_; simp only at this; omega
  refine cont_loop (α := Nat × Option Addr × Nat × Nat × Nat) (fun x_ : Nat × Option Addr × Nat × Nat × Nat => 0 ≤ x_.1 ∧ x_.1 ≤ n) (fun x_ : Nat × Option Addr × Nat × Nat × Nat => [(0, .slice A n cap), (7, .slice x_.2.1 x_.2.2.2.1 x_.2.2.2.2), (8, iQ (x_.1 : Int))]) (fun x_ : Nat × Option Addr × Nat × Nat × Nat => [.gen (rowE (x_.2.1) x_.2.2.1 x_.2.2.2.1 x_.2.2.2.2 32 4 (rvals (lessL (canR [(⟨0, 0, W, H⟩ : Rect)]) ((ts.take x_.1).drop 0))) true), rD (A) g o n 14 (dvals TS.cells ts), .gen (subE n (TS.pxs ts)), .gen (subE n (TS.ops ts))]) (fun x_ : Nat × Option Addr × Nat × Nat × Nat => n - x_.1) (0, A3, g4, k5, cp6) (show 0 ≤ (0) ∧ (0) ≤ n from ⟨by omega, by omega⟩) (by kernel_rfl) (by kernel_rfl) ?_
  rintro ⟨j, Al, gl, kl, cl⟩ hinv9_
  replace hinv9_ : 0 ≤ j ∧ j ≤ n := hinv9_
  refine cN [.gen (rowE (Al) gl kl cl 32 4 (rvals (lessL (canR [(⟨0, 0, W, H⟩ : Rect)]) ((ts.take j).drop 0))) true), rD (A) g o n 14 (dvals TS.cells ts), .gen (subE n (TS.pxs ts)), .gen (subE n (TS.ops ts))] ?_
  obtain ⟨hj0, hj⟩ := hinv9_
  have hll := lessL_len hW hH horeg hoon ((ts.take j).drop 0)
  refine cSq <| cSq <| cRg 4 rfl <| bD [0, 0, 0, 0] 4 0 [(26, .bool (decide ((j : Int) < (n : Int))))] [23, 24, 25] ?_
  refine cDn <| tNo ?_
  refine cSp 26 (decide ((j : Int) < (n : Int))) rfl (fun c10_ => ?_) (fun c10_ => ?_)
  ·
    replace c10_ := of_decide_eq_true c10_
    refine cTr rfl <| cont_skip <| tNo <| cSq <| cont_block <| cRg 8 rfl ?_
    refine cont_fact (F := (0 < kl → (Al : Option Addr) = some ⟨gl, 0, none⟩) ∧ (lessL (canR [(⟨0, 0, W, H⟩ : Rect)]) ((ts.take j).drop 0)).length = kl ∧ kl ≤ cl ∧ cl ≤ maxLen) (fun w hT => Row.factsR (hT.ok 0 _ rfl)) (fun hr11_ => ?_)
    obtain ⟨hr11_a, hr11_l, hr11_c, hr11_m⟩ := hr11_
    unfold maxLen at hr11_m
    have hral := hr11_a
    have htk := hts _ (dget_mem (l := ts) (i := j) (by omega))
    generalize ht : dget ts j = t at *
    obtain ⟨htw1, htw2⟩ : 1 ≤ t.W ∧ t.W ≤ 16 := ⟨htk.img.w1, htk.w16⟩
    obtain ⟨hth1, hth2⟩ : 1 ≤ t.H ∧ t.H ≤ 16 := ⟨htk.img.h1, htk.h16⟩
    obtain ⟨hts1, hts2⟩ := htk.s_
    obtain ⟨htx1, htx2⟩ := htk.x_
    obtain ⟨hty1, hty2⟩ := htk.y_
    obtain ⟨hta1, hta2⟩ := htk.a_
    have htl := htk.img.le
    refine cont_see 2 (rD (some ⟨t.r, 0, none⟩) t.r 0 t.n 1 (cV t.px)) rfl rfl (by rw [← ht]; exact Vw.subAt j (by omega) rfl rfl) rfl ?_
    refine cN [rD (some ⟨t.r, 0, none⟩) t.r 0 t.n 1 (cV t.px), .gen (rowE (Al) gl kl cl 32 4 (rvals (lessL (canR [(⟨0, 0, W, H⟩ : Rect)]) ((ts.take j).drop 0))) true), rD (A) g o n 14 (dvals TS.cells ts), .gen (subE n (TS.pxs ts)), .gen (subE n (TS.ops ts))] ?_
    refine cont_see 4 (rD (t.A) t.g 0 t.k 4 (rvals t.op)) rfl rfl (by rw [← ht]; exact Vw.subAt j (by omega) rfl rfl) rfl ?_
    refine cN [rD (t.A) t.g 0 t.k 4 (rvals t.op), rD (some ⟨t.r, 0, none⟩) t.r 0 t.n 1 (cV t.px), .gen (rowE (Al) gl kl cl 32 4 (rvals (lessL (canR [(⟨0, 0, W, H⟩ : Rect)]) ((ts.take j).drop 0))) true), rD (A) g o n 14 (dvals TS.cells ts), .gen (subE n (TS.pxs ts)), .gen (subE n (TS.ops ts))] ?_
    have hhl : (hidP t.W t.H t.X t.Y t.s t.al t.op ⟨t.ca, t.cb, t.cc, t.cd⟩).length ≤ 6400 := hid_len htk
    refine cN [rD (t.A) t.g 0 t.k 4 (rvals t.op), rD (some ⟨t.r, 0, none⟩) t.r 0 t.n 1 (cV t.px), .gen (rowE (Al) gl kl cl 32 4 (rvals (lessL (canR [(⟨0, 0, W, H⟩ : Rect)]) ((ts.take j).drop 0))) true), rD (A) g o n 14 (dvals TS.cells ts), .gen (subE n (TS.pxs ts)), .gen (subE n (TS.ops ts))] ?_
    refine bD [0, 0, 0] 3 5 [(29, .slice Al kl cl), (30, .slice A n cap), (31, iQ (j : Int))] [] ?_
    refine pSt 4 4 rfl rfl <| cRc 30 (.slice A n cap) (.slice (some ⟨g, o, none⟩) n cap) rfl (by rw [hra (by omega)]) ?_
    refine sem_step 32 (Instr.indexAt 24 (.slice (some ⟨g, o, none⟩) n cap) (iQ (j : Int))) (.pointer (some ⟨g, o + j * 14, none⟩)) (by kernel_rfl) (fun w hT => run_indexAt (e := 87) (sz := 14) _ (by kernel_rfl) (by kernel_rfl) (by omega) (by omega) (by omega) w) ?_
    refine pSt 5 3 rfl rfl <| sem_step 33 (Instr.loadAt 87 (.pointer (some ⟨g, o + j * 14, none⟩))) (.agg #[.bool true, iQ t.W, iQ t.H, sL t.r t.n t.cap, iQ t.X, iQ t.Y, iQ t.s, iQ t.al, iQ t.ca, iQ t.cb, iQ t.cc, iQ t.cd, .slice t.A t.k t.cp, .string ⟨#[]⟩]) (by kernel_rfl) (fun w hT => run_loadN (m := 14) (cs := [.bool true, iQ t.W, iQ t.H, sL t.r t.n t.cap, iQ t.X, iQ t.Y, iQ t.s, iQ t.al, iQ t.ca, iQ t.cb, iQ t.cc, iQ t.cd, .slice t.A t.k t.cp, .string ⟨#[]⟩]) (by kernel_rfl) (by kernel_rfl) rfl (by have h_ := Rd.dcell TS.size (hT.ok 3 _ rfl) (i := j) (by omega); rw [ht] at h_; exact h_)) ?_
    refine pSt 6 2 rfl rfl <| call_gen (d := 34) (α := Option Addr × Nat × Nat × Nat) (fun x_ => .slice x_.1 x_.2.2.1 x_.2.2.2) (fun x_ => [.gen (rowE (x_.1) x_.2.1 x_.2.2.1 x_.2.2.2 32 4 (rvals (hidP t.W t.H t.X t.Y t.s t.al t.op ⟨t.ca, t.cb, t.cc, t.cd⟩)) true), rD (t.A) t.g 0 t.k 4 (rvals t.op), rD (some ⟨t.r, 0, none⟩) t.r 0 t.n 1 (cV t.px), .gen (rowE (Al) gl kl cl 32 4 (rvals (lessL (canR [(⟨0, 0, W, H⟩ : Rect)]) ((ts.take j).drop 0))) true), rD (A) g o n 14 (dvals TS.cells ts), .gen (subE n (TS.pxs ts)), .gen (subE n (TS.ops ts))]) (fun x_ => True) (by kernel_rfl) (fun w hT => (refHides13 t.W t.H t.r t.n t.cap t.px t.X t.Y t.s t.al t.ca t.cb t.cc t.cd t.A t.g 0 t.k t.cp t.op w (hT.viewRo (.cons (i := 1) rfl Vw.rd (.cons (i := 0) rfl Vw.rd .nil)) rfl) htk.img (by omega) (by omega) (by omega) (op_len htk).1).mono fun e w' ⟨A12, g13, k14, cp15, he_, ht_⟩ => ⟨(A12, g13, k14, cp15), he_, trivial, hT.news ht_ rfl⟩) ?_
    rintro ⟨A12, g13, k14, cp15⟩ hf16_
    refine cN [.gen (rowE (A12) g13 k14 cp15 32 4 (rvals (hidP t.W t.H t.X t.Y t.s t.al t.op ⟨t.ca, t.cb, t.cc, t.cd⟩)) true), rD (t.A) t.g 0 t.k 4 (rvals t.op), rD (some ⟨t.r, 0, none⟩) t.r 0 t.n 1 (cV t.px), .gen (rowE (Al) gl kl cl 32 4 (rvals (lessL (canR [(⟨0, 0, W, H⟩ : Rect)]) ((ts.take j).drop 0))) true), rD (A) g o n 14 (dvals TS.cells ts), .gen (subE n (TS.pxs ts)), .gen (subE n (TS.ops ts))] ?_
    refine cont_fact (F := (0 < k14 → (A12 : Option Addr) = some ⟨g13, 0, none⟩) ∧ (hidP t.W t.H t.X t.Y t.s t.al t.op ⟨t.ca, t.cb, t.cc, t.cd⟩).length = k14 ∧ k14 ≤ cp15 ∧ cp15 ≤ maxLen) (fun w hT => Row.factsR (hT.ok 0 _ rfl)) (fun hr17_ => ?_)
    obtain ⟨hr17_a, hr17_l, hr17_c, hr17_m⟩ := hr17_
    unfold maxLen at hr17_m
    refine pSt 7 1 rfl rfl <| call_gen (d := 35) (α := Option Addr × Nat × Nat × Nat) (fun x_ => .slice x_.1 x_.2.2.1 x_.2.2.2) (fun x_ => [.gen (rowE (x_.1) x_.2.1 x_.2.2.1 x_.2.2.2 32 4 (rvals (regM lessB (lessL (canR [(⟨0, 0, W, H⟩ : Rect)]) ((ts.take j).drop 0)) (hidP t.W t.H t.X t.Y t.s t.al t.op ⟨t.ca, t.cb, t.cc, t.cd⟩))) true), .gen (rowE (A12) g13 k14 cp15 32 4 (rvals (hidP t.W t.H t.X t.Y t.s t.al t.op ⟨t.ca, t.cb, t.cc, t.cd⟩)) true), rD (t.A) t.g 0 t.k 4 (rvals t.op), rD (some ⟨t.r, 0, none⟩) t.r 0 t.n 1 (cV t.px), .gen (rowE (Al) gl kl cl 32 4 (rvals (lessL (canR [(⟨0, 0, W, H⟩ : Rect)]) ((ts.take j).drop 0))) true), rD (A) g o n 14 (dvals TS.cells ts), .gen (subE n (TS.pxs ts)), .gen (subE n (TS.ops ts))]) (fun x_ => True) (by kernel_rfl) (fun w hT => (refLess Al gl 0 kl cl (lessL (canR [(⟨0, 0, W, H⟩ : Rect)]) ((ts.take j).drop 0)) A12 g13 0 k14 cp15 (hidP t.W t.H t.X t.Y t.s t.al t.op ⟨t.ca, t.cb, t.cc, t.cd⟩) w (hT.viewRo (.cons (i := 3) rfl Vw.rowRd (.cons (i := 0) rfl Vw.rowRd .nil)) rfl) (by omega)).mono fun e w' ⟨A18, g19, k20, cp21, he_, ht_⟩ => ⟨(A18, g19, k20, cp21), he_, trivial, hT.news ht_ rfl⟩) ?_
    rintro ⟨A18, g19, k20, cp21⟩ hf22_
    refine cN [.gen (rowE (A18) g19 k20 cp21 32 4 (rvals (regM lessB (lessL (canR [(⟨0, 0, W, H⟩ : Rect)]) ((ts.take j).drop 0)) (hidP t.W t.H t.X t.Y t.s t.al t.op ⟨t.ca, t.cb, t.cc, t.cd⟩))) true), .gen (rowE (A12) g13 k14 cp15 32 4 (rvals (hidP t.W t.H t.X t.Y t.s t.al t.op ⟨t.ca, t.cb, t.cc, t.cd⟩)) true), rD (t.A) t.g 0 t.k 4 (rvals t.op), rD (some ⟨t.r, 0, none⟩) t.r 0 t.n 1 (cV t.px), .gen (rowE (Al) gl kl cl 32 4 (rvals (lessL (canR [(⟨0, 0, W, H⟩ : Rect)]) ((ts.take j).drop 0))) true), rD (A) g o n 14 (dvals TS.cells ts), .gen (subE n (TS.pxs ts)), .gen (subE n (TS.ops ts))] ?_
    refine cont_fact (F := (0 < k20 → (A18 : Option Addr) = some ⟨g19, 0, none⟩) ∧ (regM lessB (lessL (canR [(⟨0, 0, W, H⟩ : Rect)]) ((ts.take j).drop 0)) (hidP t.W t.H t.X t.Y t.s t.al t.op ⟨t.ca, t.cb, t.cc, t.cd⟩)).length = k20 ∧ k20 ≤ cp21 ∧ cp21 ≤ maxLen) (fun w hT => Row.factsR (hT.ok 0 _ rfl)) (fun hr23_ => ?_)
    obtain ⟨hr23_a, hr23_l, hr23_c, hr23_m⟩ := hr23_
    unfold maxLen at hr23_m
    refine bD [0] 8 0 [(7, .slice A18 k20 cp21)] [] ?_
    refine cDn <| blk_normal <| tNo <| cRg 3 rfl <| bD [0, 0] 2 1 [(28, iQ (IntKind.i64.wrap ((j : Int) + 1)))] [27] ?_
    refine cRc 28 (iQ (IntKind.i64.wrap ((j : Int) + 1))) (iQ ((j : Int) + 1)) rfl (wrapI (by omega) (by omega)) ?_
    refine bD [0] 3 0 [(8, iQ ((j : Int) + 1))] [] ?_
    refine cDn <| tNo <| cont_rowEqR 0 (regM lessB (lessL (canR [(⟨0, 0, W, H⟩ : Rect)]) ((ts.take j).drop 0)) (hidP t.W t.H t.X t.Y t.s t.al t.op ⟨t.ca, t.cb, t.cc, t.cd⟩)) (lessL (canR [(⟨0, 0, W, H⟩ : Rect)]) ((ts.take (j + 1)).drop 0)) rfl (by rw [← lessL_step (by omega) (by omega), ht]; rfl) ?_
    refine cFg 4 rfl <| cFg 3 rfl <| cFg 2 rfl <| cFg 1 rfl ?_
    refine cont_again (j + 1, A18, g19, k20, cp21) (show 0 ≤ (j + 1) ∧ (j + 1) ≤ n from (by omega)) (show n - (j + 1) < n - j from by omega) (by kernel_rfl) (by kernel_rfl)
  replace c10_ := of_decide_eq_false c10_
  refine cFa rfl <| cont_exit <| then_exit <| then_exit <| blk_exit <| tNo <| cSq <| cRg 2 rfl <| bS [0, 0] 2 0 [(6, .slice Al kl cl)] ?_
  refine cDn <| tNo <| cont_ret ?_
  refine ret_one (.inl rfl) rfl 0 (.slice Al kl cl) (by kernel_rfl) (by kernel_rfl) (fun w hT => ?_)
  replace hT := hT.erase 3 (fun e h hw => by cases h; first | rfl | cases hw)
  replace hT := hT.erase 2 (fun e h hw => by cases h; first | rfl | cases hw)
  replace hT := hT.erase 1 (fun e h hw => by cases h; first | rfl | cases hw)
  obtain rfl : j = n := by omega
  rw [List.take_of_length_le (by omega)] at hT
  rw [List.drop_zero, lessL_left] at hT
  exact ⟨_, _, _, _, rfl, hT⟩
theorem refSeenI (A : Option Addr) (g o n cap : Nat) (ts : List TS) (W H : Int) (q : Nat) (w : World) (hT0 : Tab w w [rD (A) g o n 14 (dvals TS.cells ts), .gen (subE n (TS.pxs ts)), .gen (subE n (TS.ops ts))]) (hW : 1 ≤ W ∧ W ≤ 256) (hH : 1 ≤ H ∧ H ≤ 256) (hts : ∀ t ∈ ts, TS.Ok t) (hn : n ≤ 100) (hq : q < n) :
    Calls Tryz.prog 20 #[.slice A n cap, .agg #[iQ 0, iQ 0, iQ W, iQ H], iQ (q : Int)] w fun e w' => ∃ (A_ : Option Addr) (g_ k_ cp_ : Nat), e = .returned (.slice A_ k_ cp_) ∧ Tab w w' [.gen (rowE (A_) g_ k_ cp_ 32 4 (rvals (seenL (⟨0, 0, W, H⟩ : Rect) ts q)) true)] := by
  obtain ⟨hra, hrl⟩ := Rd.factsD TS.size (by decide) (hT0.ok 0 _ rfl)
  have hgt := hts
  refine enter 37 [(0, .slice A n cap), (1, .agg #[iQ 0, iQ 0, iQ W, iQ H]), (2, iQ (q : Int))] [rD (A) g o n 14 (dvals TS.cells ts), .gen (subE n (TS.pxs ts)), .gen (subE n (TS.ops ts))] Tryz.func20 rfl Tryz.ntmps20 rfl (by kernel_rfl) hT0 ?_
  refine cSq <| cRg 2 rfl ?_
  refine batch1 [0, 0] 2 0 (fun b1 => [(0, .slice A n cap), (2, iQ (q : Int)), (4, pT b1)]) (fun b1 => [.cells b1 [iQ 0, iQ 0, iQ W, iQ H] 32 true, rD (A) g o n 14 (dvals TS.cells ts), .gen (subE n (TS.pxs ts)), .gen (subE n (TS.ops ts))]) rfl rfl [0, 2, 4] (fun _ => rfl) (fun b1 => by kernel_rfl) (fun b1 => by kernel_rfl) (fun b1 => ?_)
  refine cDn <| tNo <| cSq <| cRg 3 rfl <| bD [0] 1 2 [(9, .agg #[iQ 0, iQ 0, iQ W, iQ H])] [] ?_
  refine cFg 0 rfl <| pSt 2 1 rfl rfl ?_
  have hcs2_ := canR_small (l := [(⟨0, 0, W, H⟩ : Rect)]) (by simp)
  refine call_gen (d := 10) (α := Option Addr × Nat × Nat × Nat) (fun x_ => .slice x_.1 x_.2.2.1 x_.2.2.2) (fun x_ => [.gen (rowE (x_.1) x_.2.1 x_.2.2.1 x_.2.2.2 32 4 (rvals (canR [(⟨0, 0, W, H⟩ : Rect)])) true), rD (A) g o n 14 (dvals TS.cells ts), .gen (subE n (TS.pxs ts)), .gen (subE n (TS.ops ts))]) (fun x_ => True) (by kernel_rfl) (fun w hT => (refOne17 0 0 W H w).mono fun e w' ⟨A3, g4, k5, cp6, he_, ht_⟩ => ⟨(A3, g4, k5, cp6), he_, trivial, hT.news ht_ rfl⟩) ?_
  rintro ⟨A3, g4, k5, cp6⟩ hf7_
  refine cN [.gen (rowE (A3) g4 k5 cp6 32 4 (rvals (canR [(⟨0, 0, W, H⟩ : Rect)])) true), rD (A) g o n 14 (dvals TS.cells ts), .gen (subE n (TS.pxs ts)), .gen (subE n (TS.ops ts))] ?_
  refine cont_fact (F := (0 < k5 → (A3 : Option Addr) = some ⟨g4, 0, none⟩) ∧ (canR [(⟨0, 0, W, H⟩ : Rect)]).length = k5 ∧ k5 ≤ cp6 ∧ cp6 ≤ maxLen) (fun w hT => Row.factsR (hT.ok 0 _ rfl)) (fun hr8_ => ?_)
  obtain ⟨hr8_a, hr8_l, hr8_c, hr8_m⟩ := hr8_
  unfold maxLen at hr8_m
  refine bD [0] 3 0 [(7, .slice A3 k5 cp6)] [] ?_
  refine cDn <| tNo <| cSq <| cSq <| cRg 2 rfl <| bD [0, 0] 2 0 [(12, .bool (decide ((q : Int) ≥ 0)))] [11] ?_
  refine cDn <| tNo <| cRc 12 (.bool (decide ((q : Int) ≥ 0))) (.bool true) rfl (congrArg Value.bool (decide_eq_true (by omega))) ?_
  refine cTr rfl <| cRg 9 rfl ?_
  have hqk := hts _ (dget_mem (l := ts) (i := q) (by omega))
  obtain ⟨hd1, hd2⟩ := hqk.s_
  obtain ⟨hd3, hd4⟩ := hqk.x_
  obtain ⟨hd5, hd6⟩ := hqk.y_
  have hd7 := hqk.img.w1
  have hd8 := hqk.img.h1
  have hd9 := hqk.w16
  have hd0 := hqk.h16
  refine bD [0, 0, 0] 3 6 [(13, .slice A3 k5 cp6), (14, .slice A n cap), (15, iQ (q : Int))] [] ?_
  refine pSt 4 5 rfl rfl <| cRc 14 (.slice A n cap) (.slice (some ⟨g, o, none⟩) n cap) rfl (by rw [hra (by omega)]) ?_
  refine sem_step 16 (Instr.indexAt 24 (.slice (some ⟨g, o, none⟩) n cap) (iQ (q : Int))) (.pointer (some ⟨g, o + q * 14, none⟩)) (by kernel_rfl) (fun w hT => run_indexAt (e := 87) (sz := 14) _ (by kernel_rfl) (by kernel_rfl) (by omega) (by omega) (by omega) w) ?_
  refine pSt 5 4 rfl rfl <| sem_step 17 (Instr.loadAt 87 (.pointer (some ⟨g, o + q * 14, none⟩))) (.agg #[.bool true, iQ ((dget ts q).W), iQ ((dget ts q).H), .slice (some ⟨(dget ts q).r, 0, none⟩) ((dget ts q).n) ((dget ts q).cap), iQ ((dget ts q).X), iQ ((dget ts q).Y), iQ ((dget ts q).s), iQ ((dget ts q).al), iQ ((dget ts q).ca), iQ ((dget ts q).cb), iQ ((dget ts q).cc), iQ ((dget ts q).cd), .slice ((dget ts q).A) ((dget ts q).k) ((dget ts q).cp), .string ⟨#[]⟩]) (by kernel_rfl) (fun w hT => run_loadN (m := 14) (cs := [.bool true, iQ ((dget ts q).W), iQ ((dget ts q).H), .slice (some ⟨(dget ts q).r, 0, none⟩) ((dget ts q).n) ((dget ts q).cap), iQ ((dget ts q).X), iQ ((dget ts q).Y), iQ ((dget ts q).s), iQ ((dget ts q).al), iQ ((dget ts q).ca), iQ ((dget ts q).cb), iQ ((dget ts q).cc), iQ ((dget ts q).cd), .slice ((dget ts q).A) ((dget ts q).k) ((dget ts q).cp), .string ⟨#[]⟩]) (by kernel_rfl) (by kernel_rfl) rfl (Rd.dcell TS.size (hT.ok 1 _ rfl) (by omega))) ?_
  refine pSt 6 3 rfl rfl <| call_pure (d := 18) (.agg #[iQ ((shwR ((dget ts q).W) ((dget ts q).H) ((dget ts q).X) ((dget ts q).Y) ((dget ts q).s) ((dget ts q).ca) ((dget ts q).cb) ((dget ts q).cc) ((dget ts q).cd)).x0), iQ ((shwR ((dget ts q).W) ((dget ts q).H) ((dget ts q).X) ((dget ts q).Y) ((dget ts q).s) ((dget ts q).ca) ((dget ts q).cb) ((dget ts q).cc) ((dget ts q).cd)).y0), iQ ((shwR ((dget ts q).W) ((dget ts q).H) ((dget ts q).X) ((dget ts q).Y) ((dget ts q).s) ((dget ts q).ca) ((dget ts q).cb) ((dget ts q).cc) ((dget ts q).cd)).x1), iQ ((shwR ((dget ts q).W) ((dget ts q).H) ((dget ts q).X) ((dget ts q).Y) ((dget ts q).s) ((dget ts q).ca) ((dget ts q).cb) ((dget ts q).cc) ((dget ts q).cd)).y1)]) (by kernel_rfl) (fun w hT => refBox13 ((dget ts q).W) ((dget ts q).H) (dget ts q).r ((dget ts q).n) ((dget ts q).cap) ((dget ts q).X) ((dget ts q).Y) ((dget ts q).s) ((dget ts q).al) ((dget ts q).ca) ((dget ts q).cb) ((dget ts q).cc) ((dget ts q).cd) ((dget ts q).A) ((dget ts q).k) ((dget ts q).cp) w (by omega) (by omega) (by omega) (by omega) (by omega)) ?_
  refine pSt 7 2 rfl rfl ?_
  have hcs10_ := canR_small (l := [(⟨(shwR ((dget ts q).W) ((dget ts q).H) ((dget ts q).X) ((dget ts q).Y) ((dget ts q).s) ((dget ts q).ca) ((dget ts q).cb) ((dget ts q).cc) ((dget ts q).cd)).x0, (shwR ((dget ts q).W) ((dget ts q).H) ((dget ts q).X) ((dget ts q).Y) ((dget ts q).s) ((dget ts q).ca) ((dget ts q).cb) ((dget ts q).cc) ((dget ts q).cd)).y0, (shwR ((dget ts q).W) ((dget ts q).H) ((dget ts q).X) ((dget ts q).Y) ((dget ts q).s) ((dget ts q).ca) ((dget ts q).cb) ((dget ts q).cc) ((dget ts q).cd)).x1, (shwR ((dget ts q).W) ((dget ts q).H) ((dget ts q).X) ((dget ts q).Y) ((dget ts q).s) ((dget ts q).ca) ((dget ts q).cb) ((dget ts q).cc) ((dget ts q).cd)).y1⟩ : Rect)]) (by simp)
  refine call_gen (d := 19) (α := Option Addr × Nat × Nat × Nat) (fun x_ => .slice x_.1 x_.2.2.1 x_.2.2.2) (fun x_ => [.gen (rowE (x_.1) x_.2.1 x_.2.2.1 x_.2.2.2 32 4 (rvals (canR [(⟨(shwR ((dget ts q).W) ((dget ts q).H) ((dget ts q).X) ((dget ts q).Y) ((dget ts q).s) ((dget ts q).ca) ((dget ts q).cb) ((dget ts q).cc) ((dget ts q).cd)).x0, (shwR ((dget ts q).W) ((dget ts q).H) ((dget ts q).X) ((dget ts q).Y) ((dget ts q).s) ((dget ts q).ca) ((dget ts q).cb) ((dget ts q).cc) ((dget ts q).cd)).y0, (shwR ((dget ts q).W) ((dget ts q).H) ((dget ts q).X) ((dget ts q).Y) ((dget ts q).s) ((dget ts q).ca) ((dget ts q).cb) ((dget ts q).cc) ((dget ts q).cd)).x1, (shwR ((dget ts q).W) ((dget ts q).H) ((dget ts q).X) ((dget ts q).Y) ((dget ts q).s) ((dget ts q).ca) ((dget ts q).cb) ((dget ts q).cc) ((dget ts q).cd)).y1⟩ : Rect)])) true), .gen (rowE (A3) g4 k5 cp6 32 4 (rvals (canR [(⟨0, 0, W, H⟩ : Rect)])) true), rD (A) g o n 14 (dvals TS.cells ts), .gen (subE n (TS.pxs ts)), .gen (subE n (TS.ops ts))]) (fun x_ => True) (by kernel_rfl) (fun w hT => (refOne17 ((shwR ((dget ts q).W) ((dget ts q).H) ((dget ts q).X) ((dget ts q).Y) ((dget ts q).s) ((dget ts q).ca) ((dget ts q).cb) ((dget ts q).cc) ((dget ts q).cd)).x0) ((shwR ((dget ts q).W) ((dget ts q).H) ((dget ts q).X) ((dget ts q).Y) ((dget ts q).s) ((dget ts q).ca) ((dget ts q).cb) ((dget ts q).cc) ((dget ts q).cd)).y0) ((shwR ((dget ts q).W) ((dget ts q).H) ((dget ts q).X) ((dget ts q).Y) ((dget ts q).s) ((dget ts q).ca) ((dget ts q).cb) ((dget ts q).cc) ((dget ts q).cd)).x1) ((shwR ((dget ts q).W) ((dget ts q).H) ((dget ts q).X) ((dget ts q).Y) ((dget ts q).s) ((dget ts q).ca) ((dget ts q).cb) ((dget ts q).cc) ((dget ts q).cd)).y1) w).mono fun e w' ⟨A11, g12, k13, cp14, he_, ht_⟩ => ⟨(A11, g12, k13, cp14), he_, trivial, hT.news ht_ rfl⟩) ?_
  rintro ⟨A11, g12, k13, cp14⟩ hf15_
  refine cN [.gen (rowE (A11) g12 k13 cp14 32 4 (rvals (canR [(⟨(shwR ((dget ts q).W) ((dget ts q).H) ((dget ts q).X) ((dget ts q).Y) ((dget ts q).s) ((dget ts q).ca) ((dget ts q).cb) ((dget ts q).cc) ((dget ts q).cd)).x0, (shwR ((dget ts q).W) ((dget ts q).H) ((dget ts q).X) ((dget ts q).Y) ((dget ts q).s) ((dget ts q).ca) ((dget ts q).cb) ((dget ts q).cc) ((dget ts q).cd)).y0, (shwR ((dget ts q).W) ((dget ts q).H) ((dget ts q).X) ((dget ts q).Y) ((dget ts q).s) ((dget ts q).ca) ((dget ts q).cb) ((dget ts q).cc) ((dget ts q).cd)).x1, (shwR ((dget ts q).W) ((dget ts q).H) ((dget ts q).X) ((dget ts q).Y) ((dget ts q).s) ((dget ts q).ca) ((dget ts q).cb) ((dget ts q).cc) ((dget ts q).cd)).y1⟩ : Rect)])) true), .gen (rowE (A3) g4 k5 cp6 32 4 (rvals (canR [(⟨0, 0, W, H⟩ : Rect)])) true), rD (A) g o n 14 (dvals TS.cells ts), .gen (subE n (TS.pxs ts)), .gen (subE n (TS.ops ts))] ?_
  refine cont_fact (F := (0 < k13 → (A11 : Option Addr) = some ⟨g12, 0, none⟩) ∧ (canR [(⟨(shwR ((dget ts q).W) ((dget ts q).H) ((dget ts q).X) ((dget ts q).Y) ((dget ts q).s) ((dget ts q).ca) ((dget ts q).cb) ((dget ts q).cc) ((dget ts q).cd)).x0, (shwR ((dget ts q).W) ((dget ts q).H) ((dget ts q).X) ((dget ts q).Y) ((dget ts q).s) ((dget ts q).ca) ((dget ts q).cb) ((dget ts q).cc) ((dget ts q).cd)).y0, (shwR ((dget ts q).W) ((dget ts q).H) ((dget ts q).X) ((dget ts q).Y) ((dget ts q).s) ((dget ts q).ca) ((dget ts q).cb) ((dget ts q).cc) ((dget ts q).cd)).x1, (shwR ((dget ts q).W) ((dget ts q).H) ((dget ts q).X) ((dget ts q).Y) ((dget ts q).s) ((dget ts q).ca) ((dget ts q).cb) ((dget ts q).cc) ((dget ts q).cd)).y1⟩ : Rect)]).length = k13 ∧ k13 ≤ cp14 ∧ cp14 ≤ maxLen) (fun w hT => Row.factsR (hT.ok 0 _ rfl)) (fun hr16_ => ?_)
  obtain ⟨hr16_a, hr16_l, hr16_c, hr16_m⟩ := hr16_
  unfold maxLen at hr16_m
  refine pSt 8 1 rfl rfl <| call_gen (d := 20) (α := Option Addr × Nat × Nat × Nat) (fun x_ => .slice x_.1 x_.2.2.1 x_.2.2.2) (fun x_ => [.gen (rowE (x_.1) x_.2.1 x_.2.2.1 x_.2.2.2 32 4 (rvals (regM andB (canR [(⟨0, 0, W, H⟩ : Rect)]) (canR [(⟨(shwR ((dget ts q).W) ((dget ts q).H) ((dget ts q).X) ((dget ts q).Y) ((dget ts q).s) ((dget ts q).ca) ((dget ts q).cb) ((dget ts q).cc) ((dget ts q).cd)).x0, (shwR ((dget ts q).W) ((dget ts q).H) ((dget ts q).X) ((dget ts q).Y) ((dget ts q).s) ((dget ts q).ca) ((dget ts q).cb) ((dget ts q).cc) ((dget ts q).cd)).y0, (shwR ((dget ts q).W) ((dget ts q).H) ((dget ts q).X) ((dget ts q).Y) ((dget ts q).s) ((dget ts q).ca) ((dget ts q).cb) ((dget ts q).cc) ((dget ts q).cd)).x1, (shwR ((dget ts q).W) ((dget ts q).H) ((dget ts q).X) ((dget ts q).Y) ((dget ts q).s) ((dget ts q).ca) ((dget ts q).cb) ((dget ts q).cc) ((dget ts q).cd)).y1⟩ : Rect)]))) true), .gen (rowE (A11) g12 k13 cp14 32 4 (rvals (canR [(⟨(shwR ((dget ts q).W) ((dget ts q).H) ((dget ts q).X) ((dget ts q).Y) ((dget ts q).s) ((dget ts q).ca) ((dget ts q).cb) ((dget ts q).cc) ((dget ts q).cd)).x0, (shwR ((dget ts q).W) ((dget ts q).H) ((dget ts q).X) ((dget ts q).Y) ((dget ts q).s) ((dget ts q).ca) ((dget ts q).cb) ((dget ts q).cc) ((dget ts q).cd)).y0, (shwR ((dget ts q).W) ((dget ts q).H) ((dget ts q).X) ((dget ts q).Y) ((dget ts q).s) ((dget ts q).ca) ((dget ts q).cb) ((dget ts q).cc) ((dget ts q).cd)).x1, (shwR ((dget ts q).W) ((dget ts q).H) ((dget ts q).X) ((dget ts q).Y) ((dget ts q).s) ((dget ts q).ca) ((dget ts q).cb) ((dget ts q).cc) ((dget ts q).cd)).y1⟩ : Rect)])) true), .gen (rowE (A3) g4 k5 cp6 32 4 (rvals (canR [(⟨0, 0, W, H⟩ : Rect)])) true), rD (A) g o n 14 (dvals TS.cells ts), .gen (subE n (TS.pxs ts)), .gen (subE n (TS.ops ts))]) (fun x_ => True) (by kernel_rfl) (fun w hT => (refCutL A3 g4 0 k5 cp6 (canR [(⟨0, 0, W, H⟩ : Rect)]) A11 g12 0 k13 cp14 (canR [(⟨(shwR ((dget ts q).W) ((dget ts q).H) ((dget ts q).X) ((dget ts q).Y) ((dget ts q).s) ((dget ts q).ca) ((dget ts q).cb) ((dget ts q).cc) ((dget ts q).cd)).x0, (shwR ((dget ts q).W) ((dget ts q).H) ((dget ts q).X) ((dget ts q).Y) ((dget ts q).s) ((dget ts q).ca) ((dget ts q).cb) ((dget ts q).cc) ((dget ts q).cd)).y0, (shwR ((dget ts q).W) ((dget ts q).H) ((dget ts q).X) ((dget ts q).Y) ((dget ts q).s) ((dget ts q).ca) ((dget ts q).cb) ((dget ts q).cc) ((dget ts q).cd)).x1, (shwR ((dget ts q).W) ((dget ts q).H) ((dget ts q).X) ((dget ts q).Y) ((dget ts q).s) ((dget ts q).ca) ((dget ts q).cb) ((dget ts q).cc) ((dget ts q).cd)).y1⟩ : Rect)]) w (hT.viewRo (.cons (i := 1) rfl Vw.rowRd (.cons (i := 0) rfl Vw.rowRd .nil)) rfl) (by omega)).mono fun e w' ⟨A17, g18, k19, cp20, he_, ht_⟩ => ⟨(A17, g18, k19, cp20), he_, trivial, hT.news ht_ rfl⟩) ?_
  rintro ⟨A17, g18, k19, cp20⟩ hf21_
  refine cN [.gen (rowE (A17) g18 k19 cp20 32 4 (rvals (regM andB (canR [(⟨0, 0, W, H⟩ : Rect)]) (canR [(⟨(shwR ((dget ts q).W) ((dget ts q).H) ((dget ts q).X) ((dget ts q).Y) ((dget ts q).s) ((dget ts q).ca) ((dget ts q).cb) ((dget ts q).cc) ((dget ts q).cd)).x0, (shwR ((dget ts q).W) ((dget ts q).H) ((dget ts q).X) ((dget ts q).Y) ((dget ts q).s) ((dget ts q).ca) ((dget ts q).cb) ((dget ts q).cc) ((dget ts q).cd)).y0, (shwR ((dget ts q).W) ((dget ts q).H) ((dget ts q).X) ((dget ts q).Y) ((dget ts q).s) ((dget ts q).ca) ((dget ts q).cb) ((dget ts q).cc) ((dget ts q).cd)).x1, (shwR ((dget ts q).W) ((dget ts q).H) ((dget ts q).X) ((dget ts q).Y) ((dget ts q).s) ((dget ts q).ca) ((dget ts q).cb) ((dget ts q).cc) ((dget ts q).cd)).y1⟩ : Rect)]))) true), .gen (rowE (A11) g12 k13 cp14 32 4 (rvals (canR [(⟨(shwR ((dget ts q).W) ((dget ts q).H) ((dget ts q).X) ((dget ts q).Y) ((dget ts q).s) ((dget ts q).ca) ((dget ts q).cb) ((dget ts q).cc) ((dget ts q).cd)).x0, (shwR ((dget ts q).W) ((dget ts q).H) ((dget ts q).X) ((dget ts q).Y) ((dget ts q).s) ((dget ts q).ca) ((dget ts q).cb) ((dget ts q).cc) ((dget ts q).cd)).y0, (shwR ((dget ts q).W) ((dget ts q).H) ((dget ts q).X) ((dget ts q).Y) ((dget ts q).s) ((dget ts q).ca) ((dget ts q).cb) ((dget ts q).cc) ((dget ts q).cd)).x1, (shwR ((dget ts q).W) ((dget ts q).H) ((dget ts q).X) ((dget ts q).Y) ((dget ts q).s) ((dget ts q).ca) ((dget ts q).cb) ((dget ts q).cc) ((dget ts q).cd)).y1⟩ : Rect)])) true), .gen (rowE (A3) g4 k5 cp6 32 4 (rvals (canR [(⟨0, 0, W, H⟩ : Rect)])) true), rD (A) g o n 14 (dvals TS.cells ts), .gen (subE n (TS.pxs ts)), .gen (subE n (TS.ops ts))] ?_
  refine cont_fact (F := (0 < k19 → (A17 : Option Addr) = some ⟨g18, 0, none⟩) ∧ (regM andB (canR [(⟨0, 0, W, H⟩ : Rect)]) (canR [(⟨(shwR ((dget ts q).W) ((dget ts q).H) ((dget ts q).X) ((dget ts q).Y) ((dget ts q).s) ((dget ts q).ca) ((dget ts q).cb) ((dget ts q).cc) ((dget ts q).cd)).x0, (shwR ((dget ts q).W) ((dget ts q).H) ((dget ts q).X) ((dget ts q).Y) ((dget ts q).s) ((dget ts q).ca) ((dget ts q).cb) ((dget ts q).cc) ((dget ts q).cd)).y0, (shwR ((dget ts q).W) ((dget ts q).H) ((dget ts q).X) ((dget ts q).Y) ((dget ts q).s) ((dget ts q).ca) ((dget ts q).cb) ((dget ts q).cc) ((dget ts q).cd)).x1, (shwR ((dget ts q).W) ((dget ts q).H) ((dget ts q).X) ((dget ts q).Y) ((dget ts q).s) ((dget ts q).ca) ((dget ts q).cb) ((dget ts q).cc) ((dget ts q).cd)).y1⟩ : Rect)])).length = k19 ∧ k19 ≤ cp20 ∧ cp20 ≤ maxLen) (fun w hT => Row.factsR (hT.ok 0 _ rfl)) (fun hr22_ => ?_)
  obtain ⟨hr22_a, hr22_l, hr22_c, hr22_m⟩ := hr22_
  unfold maxLen at hr22_m
  refine bD [0] 9 0 [(7, .slice A17 k19 cp20)] [] ?_
  refine cDn <| tNo <| cSq <| cSq <| cRg 3 rfl <| bD [0, 0] 2 1 [(22, iQ (IntKind.i64.wrap ((q : Int) + 1)))] [21] ?_
  refine cRc 22 (iQ (IntKind.i64.wrap ((q : Int) + 1))) (iQ ((q : Int) + 1)) rfl (wrapI (by omega) (by omega)) ?_
  refine bD [0] 3 0 [(8, iQ ((q : Int) + 1))] [] ?_
  refine cDn <| tNo <| cont_block <| cont_rowEqR 0 (regM andB (canR [(⟨0, 0, W, H⟩ : Rect)]) (canR [(⟨(shwR ((dget ts q).W) ((dget ts q).H) ((dget ts q).X) ((dget ts q).Y) ((dget ts q).s) ((dget ts q).ca) ((dget ts q).cb) ((dget ts q).cc) ((dget ts q).cd)).x0, (shwR ((dget ts q).W) ((dget ts q).H) ((dget ts q).X) ((dget ts q).Y) ((dget ts q).s) ((dget ts q).ca) ((dget ts q).cb) ((dget ts q).cc) ((dget ts q).cd)).y0, (shwR ((dget ts q).W) ((dget ts q).H) ((dget ts q).X) ((dget ts q).Y) ((dget ts q).s) ((dget ts q).ca) ((dget ts q).cb) ((dget ts q).cc) ((dget ts q).cd)).x1, (shwR ((dget ts q).W) ((dget ts q).H) ((dget ts q).X) ((dget ts q).Y) ((dget ts q).s) ((dget ts q).ca) ((dget ts q).cb) ((dget ts q).cc) ((dget ts q).cd)).y1⟩ : Rect)])) (lessL (regM andB (canR [(⟨0, 0, W, H⟩ : Rect)]) (canR [(dget ts q).bx])) ((ts.take (q + 1)).drop (q + 1))) rfl (by rw [List.drop_of_length_le (by rw [List.length_take]; omega)]; rfl) ?_
  refine cRc 8 (iQ ((q : Int) + 1)) (iQ (((q + 1) : Nat) : Int)) rfl (congrArg (Value.int .i64) (by omega)) ?_
  have horeg : IsReg (regM andB (canR [(⟨0, 0, W, H⟩ : Rect)]) (canR [(dget ts q).bx])) (hasL (regM andB (canR [(⟨0, 0, W, H⟩ : Rect)]) (canR [(dget ts q).bx]))) := (regM_isReg (kf := andB) rfl _ _).self
  have hoon : OnImg W H (regM andB (canR [(⟨0, 0, W, H⟩ : Rect)]) (canR [(dget ts q).bx])) := by intro x_ y_ h_; rw [hasL_and, hasL_can, hasL_one] at h_; have := hasB_true.1 (Bool.and_eq_true_iff.1 h_).1; simp only at this; omega
  refine cont_loop (α := Nat × Option Addr × Nat × Nat × Nat) (fun x_ : Nat × Option Addr × Nat × Nat × Nat => (q + 1) ≤ x_.1 ∧ x_.1 ≤ n) (fun x_ : Nat × Option Addr × Nat × Nat × Nat => [(0, .slice A n cap), (7, .slice x_.2.1 x_.2.2.2.1 x_.2.2.2.2), (8, iQ (x_.1 : Int))]) (fun x_ : Nat × Option Addr × Nat × Nat × Nat => [.gen (rowE (x_.2.1) x_.2.2.1 x_.2.2.2.1 x_.2.2.2.2 32 4 (rvals (lessL (regM andB (canR [(⟨0, 0, W, H⟩ : Rect)]) (canR [(dget ts q).bx])) ((ts.take x_.1).drop (q + 1)))) true), .gen (rowE (A11) g12 k13 cp14 32 4 (rvals (canR [(⟨(shwR ((dget ts q).W) ((dget ts q).H) ((dget ts q).X) ((dget ts q).Y) ((dget ts q).s) ((dget ts q).ca) ((dget ts q).cb) ((dget ts q).cc) ((dget ts q).cd)).x0, (shwR ((dget ts q).W) ((dget ts q).H) ((dget ts q).X) ((dget ts q).Y) ((dget ts q).s) ((dget ts q).ca) ((dget ts q).cb) ((dget ts q).cc) ((dget ts q).cd)).y0, (shwR ((dget ts q).W) ((dget ts q).H) ((dget ts q).X) ((dget ts q).Y) ((dget ts q).s) ((dget ts q).ca) ((dget ts q).cb) ((dget ts q).cc) ((dget ts q).cd)).x1, (shwR ((dget ts q).W) ((dget ts q).H) ((dget ts q).X) ((dget ts q).Y) ((dget ts q).s) ((dget ts q).ca) ((dget ts q).cb) ((dget ts q).cc) ((dget ts q).cd)).y1⟩ : Rect)])) true), .gen (rowE (A3) g4 k5 cp6 32 4 (rvals (canR [(⟨0, 0, W, H⟩ : Rect)])) true), rD (A) g o n 14 (dvals TS.cells ts), .gen (subE n (TS.pxs ts)), .gen (subE n (TS.ops ts))]) (fun x_ : Nat × Option Addr × Nat × Nat × Nat => n - x_.1) ((q + 1), A17, g18, k19, cp20) (show (q + 1) ≤ ((q + 1)) ∧ ((q + 1)) ≤ n from ⟨by omega, by omega⟩) (by kernel_rfl) (by kernel_rfl) ?_
  rintro ⟨j, Al, gl, kl, cl⟩ hinv23_
  replace hinv23_ : (q + 1) ≤ j ∧ j ≤ n := hinv23_
  refine cN [.gen (rowE (Al) gl kl cl 32 4 (rvals (lessL (regM andB (canR [(⟨0, 0, W, H⟩ : Rect)]) (canR [(dget ts q).bx])) ((ts.take j).drop (q + 1)))) true), .gen (rowE (A11) g12 k13 cp14 32 4 (rvals (canR [(⟨(shwR ((dget ts q).W) ((dget ts q).H) ((dget ts q).X) ((dget ts q).Y) ((dget ts q).s) ((dget ts q).ca) ((dget ts q).cb) ((dget ts q).cc) ((dget ts q).cd)).x0, (shwR ((dget ts q).W) ((dget ts q).H) ((dget ts q).X) ((dget ts q).Y) ((dget ts q).s) ((dget ts q).ca) ((dget ts q).cb) ((dget ts q).cc) ((dget ts q).cd)).y0, (shwR ((dget ts q).W) ((dget ts q).H) ((dget ts q).X) ((dget ts q).Y) ((dget ts q).s) ((dget ts q).ca) ((dget ts q).cb) ((dget ts q).cc) ((dget ts q).cd)).x1, (shwR ((dget ts q).W) ((dget ts q).H) ((dget ts q).X) ((dget ts q).Y) ((dget ts q).s) ((dget ts q).ca) ((dget ts q).cb) ((dget ts q).cc) ((dget ts q).cd)).y1⟩ : Rect)])) true), .gen (rowE (A3) g4 k5 cp6 32 4 (rvals (canR [(⟨0, 0, W, H⟩ : Rect)])) true), rD (A) g o n 14 (dvals TS.cells ts), .gen (subE n (TS.pxs ts)), .gen (subE n (TS.ops ts))] ?_
  obtain ⟨hj0, hj⟩ := hinv23_
  have hll := lessL_len hW hH horeg hoon ((ts.take j).drop (q + 1))
  refine cSq <| cSq <| cRg 4 rfl <| bD [0, 0, 0, 0] 4 0 [(26, .bool (decide ((j : Int) < (n : Int))))] [23, 24, 25] ?_
  refine cDn <| tNo ?_
  refine cSp 26 (decide ((j : Int) < (n : Int))) rfl (fun c24_ => ?_) (fun c24_ => ?_)
  ·
    replace c24_ := of_decide_eq_true c24_
    refine cTr rfl <| cont_skip <| tNo <| cSq <| cont_block <| cRg 8 rfl ?_
    refine cont_fact (F := (0 < kl → (Al : Option Addr) = some ⟨gl, 0, none⟩) ∧ (lessL (regM andB (canR [(⟨0, 0, W, H⟩ : Rect)]) (canR [(dget ts q).bx])) ((ts.take j).drop (q + 1))).length = kl ∧ kl ≤ cl ∧ cl ≤ maxLen) (fun w hT => Row.factsR (hT.ok 0 _ rfl)) (fun hr25_ => ?_)
    obtain ⟨hr25_a, hr25_l, hr25_c, hr25_m⟩ := hr25_
    unfold maxLen at hr25_m
    have hral := hr25_a
    have htk := hts _ (dget_mem (l := ts) (i := j) (by omega))
    generalize ht : dget ts j = t at *
    obtain ⟨htw1, htw2⟩ : 1 ≤ t.W ∧ t.W ≤ 16 := ⟨htk.img.w1, htk.w16⟩
    obtain ⟨hth1, hth2⟩ : 1 ≤ t.H ∧ t.H ≤ 16 := ⟨htk.img.h1, htk.h16⟩
    obtain ⟨hts1, hts2⟩ := htk.s_
    obtain ⟨htx1, htx2⟩ := htk.x_
    obtain ⟨hty1, hty2⟩ := htk.y_
    obtain ⟨hta1, hta2⟩ := htk.a_
    have htl := htk.img.le
    refine cont_see 4 (rD (some ⟨t.r, 0, none⟩) t.r 0 t.n 1 (cV t.px)) rfl rfl (by rw [← ht]; exact Vw.subAt j (by omega) rfl rfl) rfl ?_
    refine cN [rD (some ⟨t.r, 0, none⟩) t.r 0 t.n 1 (cV t.px), .gen (rowE (Al) gl kl cl 32 4 (rvals (lessL (regM andB (canR [(⟨0, 0, W, H⟩ : Rect)]) (canR [(dget ts q).bx])) ((ts.take j).drop (q + 1)))) true), .gen (rowE (A11) g12 k13 cp14 32 4 (rvals (canR [(⟨(shwR ((dget ts q).W) ((dget ts q).H) ((dget ts q).X) ((dget ts q).Y) ((dget ts q).s) ((dget ts q).ca) ((dget ts q).cb) ((dget ts q).cc) ((dget ts q).cd)).x0, (shwR ((dget ts q).W) ((dget ts q).H) ((dget ts q).X) ((dget ts q).Y) ((dget ts q).s) ((dget ts q).ca) ((dget ts q).cb) ((dget ts q).cc) ((dget ts q).cd)).y0, (shwR ((dget ts q).W) ((dget ts q).H) ((dget ts q).X) ((dget ts q).Y) ((dget ts q).s) ((dget ts q).ca) ((dget ts q).cb) ((dget ts q).cc) ((dget ts q).cd)).x1, (shwR ((dget ts q).W) ((dget ts q).H) ((dget ts q).X) ((dget ts q).Y) ((dget ts q).s) ((dget ts q).ca) ((dget ts q).cb) ((dget ts q).cc) ((dget ts q).cd)).y1⟩ : Rect)])) true), .gen (rowE (A3) g4 k5 cp6 32 4 (rvals (canR [(⟨0, 0, W, H⟩ : Rect)])) true), rD (A) g o n 14 (dvals TS.cells ts), .gen (subE n (TS.pxs ts)), .gen (subE n (TS.ops ts))] ?_
    refine cont_see 6 (rD (t.A) t.g 0 t.k 4 (rvals t.op)) rfl rfl (by rw [← ht]; exact Vw.subAt j (by omega) rfl rfl) rfl ?_
    refine cN [rD (t.A) t.g 0 t.k 4 (rvals t.op), rD (some ⟨t.r, 0, none⟩) t.r 0 t.n 1 (cV t.px), .gen (rowE (Al) gl kl cl 32 4 (rvals (lessL (regM andB (canR [(⟨0, 0, W, H⟩ : Rect)]) (canR [(dget ts q).bx])) ((ts.take j).drop (q + 1)))) true), .gen (rowE (A11) g12 k13 cp14 32 4 (rvals (canR [(⟨(shwR ((dget ts q).W) ((dget ts q).H) ((dget ts q).X) ((dget ts q).Y) ((dget ts q).s) ((dget ts q).ca) ((dget ts q).cb) ((dget ts q).cc) ((dget ts q).cd)).x0, (shwR ((dget ts q).W) ((dget ts q).H) ((dget ts q).X) ((dget ts q).Y) ((dget ts q).s) ((dget ts q).ca) ((dget ts q).cb) ((dget ts q).cc) ((dget ts q).cd)).y0, (shwR ((dget ts q).W) ((dget ts q).H) ((dget ts q).X) ((dget ts q).Y) ((dget ts q).s) ((dget ts q).ca) ((dget ts q).cb) ((dget ts q).cc) ((dget ts q).cd)).x1, (shwR ((dget ts q).W) ((dget ts q).H) ((dget ts q).X) ((dget ts q).Y) ((dget ts q).s) ((dget ts q).ca) ((dget ts q).cb) ((dget ts q).cc) ((dget ts q).cd)).y1⟩ : Rect)])) true), .gen (rowE (A3) g4 k5 cp6 32 4 (rvals (canR [(⟨0, 0, W, H⟩ : Rect)])) true), rD (A) g o n 14 (dvals TS.cells ts), .gen (subE n (TS.pxs ts)), .gen (subE n (TS.ops ts))] ?_
    have hhl : (hidP t.W t.H t.X t.Y t.s t.al t.op ⟨t.ca, t.cb, t.cc, t.cd⟩).length ≤ 6400 := hid_len htk
    refine cN [rD (t.A) t.g 0 t.k 4 (rvals t.op), rD (some ⟨t.r, 0, none⟩) t.r 0 t.n 1 (cV t.px), .gen (rowE (Al) gl kl cl 32 4 (rvals (lessL (regM andB (canR [(⟨0, 0, W, H⟩ : Rect)]) (canR [(dget ts q).bx])) ((ts.take j).drop (q + 1)))) true), .gen (rowE (A11) g12 k13 cp14 32 4 (rvals (canR [(⟨(shwR ((dget ts q).W) ((dget ts q).H) ((dget ts q).X) ((dget ts q).Y) ((dget ts q).s) ((dget ts q).ca) ((dget ts q).cb) ((dget ts q).cc) ((dget ts q).cd)).x0, (shwR ((dget ts q).W) ((dget ts q).H) ((dget ts q).X) ((dget ts q).Y) ((dget ts q).s) ((dget ts q).ca) ((dget ts q).cb) ((dget ts q).cc) ((dget ts q).cd)).y0, (shwR ((dget ts q).W) ((dget ts q).H) ((dget ts q).X) ((dget ts q).Y) ((dget ts q).s) ((dget ts q).ca) ((dget ts q).cb) ((dget ts q).cc) ((dget ts q).cd)).x1, (shwR ((dget ts q).W) ((dget ts q).H) ((dget ts q).X) ((dget ts q).Y) ((dget ts q).s) ((dget ts q).ca) ((dget ts q).cb) ((dget ts q).cc) ((dget ts q).cd)).y1⟩ : Rect)])) true), .gen (rowE (A3) g4 k5 cp6 32 4 (rvals (canR [(⟨0, 0, W, H⟩ : Rect)])) true), rD (A) g o n 14 (dvals TS.cells ts), .gen (subE n (TS.pxs ts)), .gen (subE n (TS.ops ts))] ?_
    refine bD [0, 0, 0] 3 5 [(29, .slice Al kl cl), (30, .slice A n cap), (31, iQ (j : Int))] [] ?_
    refine pSt 4 4 rfl rfl <| cRc 30 (.slice A n cap) (.slice (some ⟨g, o, none⟩) n cap) rfl (by rw [hra (by omega)]) ?_
    refine sem_step 32 (Instr.indexAt 24 (.slice (some ⟨g, o, none⟩) n cap) (iQ (j : Int))) (.pointer (some ⟨g, o + j * 14, none⟩)) (by kernel_rfl) (fun w hT => run_indexAt (e := 87) (sz := 14) _ (by kernel_rfl) (by kernel_rfl) (by omega) (by omega) (by omega) w) ?_
    refine pSt 5 3 rfl rfl <| sem_step 33 (Instr.loadAt 87 (.pointer (some ⟨g, o + j * 14, none⟩))) (.agg #[.bool true, iQ t.W, iQ t.H, sL t.r t.n t.cap, iQ t.X, iQ t.Y, iQ t.s, iQ t.al, iQ t.ca, iQ t.cb, iQ t.cc, iQ t.cd, .slice t.A t.k t.cp, .string ⟨#[]⟩]) (by kernel_rfl) (fun w hT => run_loadN (m := 14) (cs := [.bool true, iQ t.W, iQ t.H, sL t.r t.n t.cap, iQ t.X, iQ t.Y, iQ t.s, iQ t.al, iQ t.ca, iQ t.cb, iQ t.cc, iQ t.cd, .slice t.A t.k t.cp, .string ⟨#[]⟩]) (by kernel_rfl) (by kernel_rfl) rfl (by have h_ := Rd.dcell TS.size (hT.ok 5 _ rfl) (i := j) (by omega); rw [ht] at h_; exact h_)) ?_
    refine pSt 6 2 rfl rfl <| call_gen (d := 34) (α := Option Addr × Nat × Nat × Nat) (fun x_ => .slice x_.1 x_.2.2.1 x_.2.2.2) (fun x_ => [.gen (rowE (x_.1) x_.2.1 x_.2.2.1 x_.2.2.2 32 4 (rvals (hidP t.W t.H t.X t.Y t.s t.al t.op ⟨t.ca, t.cb, t.cc, t.cd⟩)) true), rD (t.A) t.g 0 t.k 4 (rvals t.op), rD (some ⟨t.r, 0, none⟩) t.r 0 t.n 1 (cV t.px), .gen (rowE (Al) gl kl cl 32 4 (rvals (lessL (regM andB (canR [(⟨0, 0, W, H⟩ : Rect)]) (canR [(dget ts q).bx])) ((ts.take j).drop (q + 1)))) true), .gen (rowE (A11) g12 k13 cp14 32 4 (rvals (canR [(⟨(shwR ((dget ts q).W) ((dget ts q).H) ((dget ts q).X) ((dget ts q).Y) ((dget ts q).s) ((dget ts q).ca) ((dget ts q).cb) ((dget ts q).cc) ((dget ts q).cd)).x0, (shwR ((dget ts q).W) ((dget ts q).H) ((dget ts q).X) ((dget ts q).Y) ((dget ts q).s) ((dget ts q).ca) ((dget ts q).cb) ((dget ts q).cc) ((dget ts q).cd)).y0, (shwR ((dget ts q).W) ((dget ts q).H) ((dget ts q).X) ((dget ts q).Y) ((dget ts q).s) ((dget ts q).ca) ((dget ts q).cb) ((dget ts q).cc) ((dget ts q).cd)).x1, (shwR ((dget ts q).W) ((dget ts q).H) ((dget ts q).X) ((dget ts q).Y) ((dget ts q).s) ((dget ts q).ca) ((dget ts q).cb) ((dget ts q).cc) ((dget ts q).cd)).y1⟩ : Rect)])) true), .gen (rowE (A3) g4 k5 cp6 32 4 (rvals (canR [(⟨0, 0, W, H⟩ : Rect)])) true), rD (A) g o n 14 (dvals TS.cells ts), .gen (subE n (TS.pxs ts)), .gen (subE n (TS.ops ts))]) (fun x_ => True) (by kernel_rfl) (fun w hT => (refHides13 t.W t.H t.r t.n t.cap t.px t.X t.Y t.s t.al t.ca t.cb t.cc t.cd t.A t.g 0 t.k t.cp t.op w (hT.viewRo (.cons (i := 1) rfl Vw.rd (.cons (i := 0) rfl Vw.rd .nil)) rfl) htk.img (by omega) (by omega) (by omega) (op_len htk).1).mono fun e w' ⟨A26, g27, k28, cp29, he_, ht_⟩ => ⟨(A26, g27, k28, cp29), he_, trivial, hT.news ht_ rfl⟩) ?_
    rintro ⟨A26, g27, k28, cp29⟩ hf30_
    refine cN [.gen (rowE (A26) g27 k28 cp29 32 4 (rvals (hidP t.W t.H t.X t.Y t.s t.al t.op ⟨t.ca, t.cb, t.cc, t.cd⟩)) true), rD (t.A) t.g 0 t.k 4 (rvals t.op), rD (some ⟨t.r, 0, none⟩) t.r 0 t.n 1 (cV t.px), .gen (rowE (Al) gl kl cl 32 4 (rvals (lessL (regM andB (canR [(⟨0, 0, W, H⟩ : Rect)]) (canR [(dget ts q).bx])) ((ts.take j).drop (q + 1)))) true), .gen (rowE (A11) g12 k13 cp14 32 4 (rvals (canR [(⟨(shwR ((dget ts q).W) ((dget ts q).H) ((dget ts q).X) ((dget ts q).Y) ((dget ts q).s) ((dget ts q).ca) ((dget ts q).cb) ((dget ts q).cc) ((dget ts q).cd)).x0, (shwR ((dget ts q).W) ((dget ts q).H) ((dget ts q).X) ((dget ts q).Y) ((dget ts q).s) ((dget ts q).ca) ((dget ts q).cb) ((dget ts q).cc) ((dget ts q).cd)).y0, (shwR ((dget ts q).W) ((dget ts q).H) ((dget ts q).X) ((dget ts q).Y) ((dget ts q).s) ((dget ts q).ca) ((dget ts q).cb) ((dget ts q).cc) ((dget ts q).cd)).x1, (shwR ((dget ts q).W) ((dget ts q).H) ((dget ts q).X) ((dget ts q).Y) ((dget ts q).s) ((dget ts q).ca) ((dget ts q).cb) ((dget ts q).cc) ((dget ts q).cd)).y1⟩ : Rect)])) true), .gen (rowE (A3) g4 k5 cp6 32 4 (rvals (canR [(⟨0, 0, W, H⟩ : Rect)])) true), rD (A) g o n 14 (dvals TS.cells ts), .gen (subE n (TS.pxs ts)), .gen (subE n (TS.ops ts))] ?_
    refine cont_fact (F := (0 < k28 → (A26 : Option Addr) = some ⟨g27, 0, none⟩) ∧ (hidP t.W t.H t.X t.Y t.s t.al t.op ⟨t.ca, t.cb, t.cc, t.cd⟩).length = k28 ∧ k28 ≤ cp29 ∧ cp29 ≤ maxLen) (fun w hT => Row.factsR (hT.ok 0 _ rfl)) (fun hr31_ => ?_)
    obtain ⟨hr31_a, hr31_l, hr31_c, hr31_m⟩ := hr31_
    unfold maxLen at hr31_m
    refine pSt 7 1 rfl rfl <| call_gen (d := 35) (α := Option Addr × Nat × Nat × Nat) (fun x_ => .slice x_.1 x_.2.2.1 x_.2.2.2) (fun x_ => [.gen (rowE (x_.1) x_.2.1 x_.2.2.1 x_.2.2.2 32 4 (rvals (regM lessB (lessL (regM andB (canR [(⟨0, 0, W, H⟩ : Rect)]) (canR [(dget ts q).bx])) ((ts.take j).drop (q + 1))) (hidP t.W t.H t.X t.Y t.s t.al t.op ⟨t.ca, t.cb, t.cc, t.cd⟩))) true), .gen (rowE (A26) g27 k28 cp29 32 4 (rvals (hidP t.W t.H t.X t.Y t.s t.al t.op ⟨t.ca, t.cb, t.cc, t.cd⟩)) true), rD (t.A) t.g 0 t.k 4 (rvals t.op), rD (some ⟨t.r, 0, none⟩) t.r 0 t.n 1 (cV t.px), .gen (rowE (Al) gl kl cl 32 4 (rvals (lessL (regM andB (canR [(⟨0, 0, W, H⟩ : Rect)]) (canR [(dget ts q).bx])) ((ts.take j).drop (q + 1)))) true), .gen (rowE (A11) g12 k13 cp14 32 4 (rvals (canR [(⟨(shwR ((dget ts q).W) ((dget ts q).H) ((dget ts q).X) ((dget ts q).Y) ((dget ts q).s) ((dget ts q).ca) ((dget ts q).cb) ((dget ts q).cc) ((dget ts q).cd)).x0, (shwR ((dget ts q).W) ((dget ts q).H) ((dget ts q).X) ((dget ts q).Y) ((dget ts q).s) ((dget ts q).ca) ((dget ts q).cb) ((dget ts q).cc) ((dget ts q).cd)).y0, (shwR ((dget ts q).W) ((dget ts q).H) ((dget ts q).X) ((dget ts q).Y) ((dget ts q).s) ((dget ts q).ca) ((dget ts q).cb) ((dget ts q).cc) ((dget ts q).cd)).x1, (shwR ((dget ts q).W) ((dget ts q).H) ((dget ts q).X) ((dget ts q).Y) ((dget ts q).s) ((dget ts q).ca) ((dget ts q).cb) ((dget ts q).cc) ((dget ts q).cd)).y1⟩ : Rect)])) true), .gen (rowE (A3) g4 k5 cp6 32 4 (rvals (canR [(⟨0, 0, W, H⟩ : Rect)])) true), rD (A) g o n 14 (dvals TS.cells ts), .gen (subE n (TS.pxs ts)), .gen (subE n (TS.ops ts))]) (fun x_ => True) (by kernel_rfl) (fun w hT => (refLess Al gl 0 kl cl (lessL (regM andB (canR [(⟨0, 0, W, H⟩ : Rect)]) (canR [(dget ts q).bx])) ((ts.take j).drop (q + 1))) A26 g27 0 k28 cp29 (hidP t.W t.H t.X t.Y t.s t.al t.op ⟨t.ca, t.cb, t.cc, t.cd⟩) w (hT.viewRo (.cons (i := 3) rfl Vw.rowRd (.cons (i := 0) rfl Vw.rowRd .nil)) rfl) (by omega)).mono fun e w' ⟨A32, g33, k34, cp35, he_, ht_⟩ => ⟨(A32, g33, k34, cp35), he_, trivial, hT.news ht_ rfl⟩) ?_
    rintro ⟨A32, g33, k34, cp35⟩ hf36_
    refine cN [.gen (rowE (A32) g33 k34 cp35 32 4 (rvals (regM lessB (lessL (regM andB (canR [(⟨0, 0, W, H⟩ : Rect)]) (canR [(dget ts q).bx])) ((ts.take j).drop (q + 1))) (hidP t.W t.H t.X t.Y t.s t.al t.op ⟨t.ca, t.cb, t.cc, t.cd⟩))) true), .gen (rowE (A26) g27 k28 cp29 32 4 (rvals (hidP t.W t.H t.X t.Y t.s t.al t.op ⟨t.ca, t.cb, t.cc, t.cd⟩)) true), rD (t.A) t.g 0 t.k 4 (rvals t.op), rD (some ⟨t.r, 0, none⟩) t.r 0 t.n 1 (cV t.px), .gen (rowE (Al) gl kl cl 32 4 (rvals (lessL (regM andB (canR [(⟨0, 0, W, H⟩ : Rect)]) (canR [(dget ts q).bx])) ((ts.take j).drop (q + 1)))) true), .gen (rowE (A11) g12 k13 cp14 32 4 (rvals (canR [(⟨(shwR ((dget ts q).W) ((dget ts q).H) ((dget ts q).X) ((dget ts q).Y) ((dget ts q).s) ((dget ts q).ca) ((dget ts q).cb) ((dget ts q).cc) ((dget ts q).cd)).x0, (shwR ((dget ts q).W) ((dget ts q).H) ((dget ts q).X) ((dget ts q).Y) ((dget ts q).s) ((dget ts q).ca) ((dget ts q).cb) ((dget ts q).cc) ((dget ts q).cd)).y0, (shwR ((dget ts q).W) ((dget ts q).H) ((dget ts q).X) ((dget ts q).Y) ((dget ts q).s) ((dget ts q).ca) ((dget ts q).cb) ((dget ts q).cc) ((dget ts q).cd)).x1, (shwR ((dget ts q).W) ((dget ts q).H) ((dget ts q).X) ((dget ts q).Y) ((dget ts q).s) ((dget ts q).ca) ((dget ts q).cb) ((dget ts q).cc) ((dget ts q).cd)).y1⟩ : Rect)])) true), .gen (rowE (A3) g4 k5 cp6 32 4 (rvals (canR [(⟨0, 0, W, H⟩ : Rect)])) true), rD (A) g o n 14 (dvals TS.cells ts), .gen (subE n (TS.pxs ts)), .gen (subE n (TS.ops ts))] ?_
    refine cont_fact (F := (0 < k34 → (A32 : Option Addr) = some ⟨g33, 0, none⟩) ∧ (regM lessB (lessL (regM andB (canR [(⟨0, 0, W, H⟩ : Rect)]) (canR [(dget ts q).bx])) ((ts.take j).drop (q + 1))) (hidP t.W t.H t.X t.Y t.s t.al t.op ⟨t.ca, t.cb, t.cc, t.cd⟩)).length = k34 ∧ k34 ≤ cp35 ∧ cp35 ≤ maxLen) (fun w hT => Row.factsR (hT.ok 0 _ rfl)) (fun hr37_ => ?_)
    obtain ⟨hr37_a, hr37_l, hr37_c, hr37_m⟩ := hr37_
    unfold maxLen at hr37_m
    refine bD [0] 8 0 [(7, .slice A32 k34 cp35)] [] ?_
    refine cDn <| blk_normal <| tNo <| cRg 3 rfl <| bD [0, 0] 2 1 [(28, iQ (IntKind.i64.wrap ((j : Int) + 1)))] [27] ?_
    refine cRc 28 (iQ (IntKind.i64.wrap ((j : Int) + 1))) (iQ ((j : Int) + 1)) rfl (wrapI (by omega) (by omega)) ?_
    refine bD [0] 3 0 [(8, iQ ((j : Int) + 1))] [] ?_
    refine cDn <| tNo <| cont_rowEqR 0 (regM lessB (lessL (regM andB (canR [(⟨0, 0, W, H⟩ : Rect)]) (canR [(dget ts q).bx])) ((ts.take j).drop (q + 1))) (hidP t.W t.H t.X t.Y t.s t.al t.op ⟨t.ca, t.cb, t.cc, t.cd⟩)) (lessL (regM andB (canR [(⟨0, 0, W, H⟩ : Rect)]) (canR [(dget ts q).bx])) ((ts.take (j + 1)).drop (q + 1))) rfl (by rw [← lessL_step (by omega) (by omega), ht]; rfl) ?_
    refine cFg 4 rfl <| cFg 3 rfl <| cFg 2 rfl <| cFg 1 rfl ?_
    refine cont_again (j + 1, A32, g33, k34, cp35) (show (q + 1) ≤ (j + 1) ∧ (j + 1) ≤ n from (by omega)) (show n - (j + 1) < n - j from by omega) (by kernel_rfl) (by kernel_rfl)
  replace c24_ := of_decide_eq_false c24_
  refine cFa rfl <| cont_exit <| then_exit <| then_exit <| blk_exit <| tNo <| cSq <| cRg 2 rfl <| bS [0, 0] 2 0 [(6, .slice Al kl cl)] ?_
  refine cDn <| tNo <| cont_ret ?_
  refine ret_one (.inl rfl) rfl 0 (.slice Al kl cl) (by kernel_rfl) (by kernel_rfl) (fun w hT => ?_)
  replace hT := hT.erase 5 (fun e h hw => by cases h; first | rfl | cases hw)
  replace hT := hT.erase 4 (fun e h hw => by cases h; first | rfl | cases hw)
  replace hT := hT.erase 3 (fun e h hw => by cases h; first | rfl | cases hw)
  replace hT := hT.erase 2 (fun e h hw => by cases h; first | rfl | cases hw)
  replace hT := hT.erase 1 (fun e h hw => by cases h; first | rfl | cases hw)
  obtain rfl : j = n := by omega
  rw [List.take_of_length_le (by omega)] at hT
  rw [lessL_seen] at hT
  exact ⟨_, _, _, _, rfl, hT⟩
theorem planSeen (K : Int) (A : Option Addr) (g o n cap : Nat) (its : List IT) (ts : List TS) (W H : Int) (w : World) (hT0 : Tab w w [rD (A) g o n 14 (dvals IT.cells its), .gen (subE n (IT.hds 116 its)), .gen (subE n (IT.pxs its)), .gen (subE n (TS.ops ts))]) (hmap : its.map (·.t) = ts) (hts : ∀ t ∈ ts, TS.Ok t) (hn : n ≤ 100) (hW : 1 ≤ W ∧ W ≤ 256) (hH : 1 ≤ H ∧ H ≤ 256) :
    Calls Tryz.prog 18 #[.agg #[iQ K, .slice A n cap], .agg #[iQ 0, iQ 0, iQ W, iQ H]] w fun e w' => ∃ (rs_ : List RS) (r_ : Nat), e = .returned (sL r_ n n) ∧ (rs_.length = n ∧ SeenOk (⟨0, 0, W, H⟩ : Rect) ts n rs_) ∧ Tab w w' [.gen (bunO n (RS.rws rs_)), oE r_ n n 23 1 (dvals RS.cells rs_.reverse)] := by
  obtain ⟨hra, hrl⟩ := Rd.factsD IT.size (by decide) (hT0.ok 0 _ rfl)
  refine enter 14 [(0, .agg #[iQ K, .slice A n cap]), (1, .agg #[iQ 0, iQ 0, iQ W, iQ H])] [rD (A) g o n 14 (dvals IT.cells its), .gen (subE n (IT.hds 116 its)), .gen (subE n (IT.pxs its)), .gen (subE n (TS.ops ts))] Tryz.func18 rfl Tryz.ntmps18 rfl (by kernel_rfl) hT0 ?_
  refine cSq <| cRg 3 rfl ?_
  refine batch2 [0, 0, 0] 3 0 (fun b1 b2 => [(2, pT b1), (3, pT b2)]) (fun b1 b2 => [.cells b2 [iQ 0, iQ 0, iQ W, iQ H] 32 true, .cells b1 [iQ K, .slice A n cap] 28 true, rD (A) g o n 14 (dvals IT.cells its), .gen (subE n (IT.hds 116 its)), .gen (subE n (IT.pxs its)), .gen (subE n (TS.ops ts))]) rfl rfl [2, 3] (fun _ _ => rfl) (fun b1 b2 => by kernel_rfl) (fun b1 b2 => by kernel_rfl) (fun b1 b2 => ?_)
  refine cDn <| tNo <| cSq <| cRg 8 rfl <| bS [1, 0] 2 6 [(8, .agg #[iQ K, .slice A n cap]), (9, .agg #[iQ 0, iQ 0, iQ W, iQ H])] ?_
  refine cFg 0 rfl <| cFg 0 rfl <| pSt 3 5 rfl rfl <| call_gen (d := 10) (α := List RS × Nat × Option Addr × Nat × Nat × Nat) (fun x_ => .tuple #[sL x_.2.1 n n, .slice x_.2.2.1 x_.2.2.2.2.1 x_.2.2.2.2.2]) (fun x_ => [.gen (bunO n (RS.rws x_.1)), .gen (rowE (x_.2.2.1) x_.2.2.2.1 x_.2.2.2.2.1 x_.2.2.2.2.2 32 4 (rvals (leftL (⟨0, 0, W, H⟩ : Rect) ts)) true), .gen (rowE (some ⟨x_.2.1, 0, none⟩) x_.2.1 n n 23 1 (dvals RS.cells x_.1.reverse) true), rD (A) g o n 14 (dvals IT.cells its), .gen (subE n (IT.hds 116 its)), .gen (subE n (IT.pxs its)), .gen (subE n (TS.ops ts))]) (fun x_ => x_.1.length = n ∧ SeenOk (⟨0, 0, W, H⟩ : Rect) ts n x_.1) (by kernel_rfl) (fun w hT => (planSplit K A g o n cap its ts W H w (hT.viewRo (.cons (i := 0) rfl Vw.rd (.cons (i := 1) rfl Vw.subSub (.cons (i := 2) rfl Vw.subSub (.cons (i := 3) rfl Vw.subSub .nil)))) rfl) hmap hts (by omega) (by omega) (by omega)).mono fun e w' ⟨rs3, r4, A5, g6, k7, cp8, he_, hf_, ht_⟩ => ⟨(rs3, r4, A5, g6, k7, cp8), he_, hf_, hT.news ht_ rfl⟩) ?_
  rintro ⟨rs3, r4, A5, g6, k7, cp8⟩ hf9_
  replace hf9_ : rs3.length = n ∧ SeenOk (⟨0, 0, W, H⟩ : Rect) ts n rs3 := hf9_
  refine cN [.gen (bunO n (RS.rws rs3)), .gen (rowE (A5) g6 k7 cp8 32 4 (rvals (leftL (⟨0, 0, W, H⟩ : Rect) ts)) true), oE r4 n n 23 1 (dvals RS.cells rs3.reverse), rD (A) g o n 14 (dvals IT.cells its), .gen (subE n (IT.hds 116 its)), .gen (subE n (IT.pxs its)), .gen (subE n (TS.ops ts))] ?_
  refine cont_fact (F := (0 < k7 → (A5 : Option Addr) = some ⟨g6, 0, none⟩) ∧ (leftL (⟨0, 0, W, H⟩ : Rect) ts).length = k7 ∧ k7 ≤ cp8 ∧ cp8 ≤ maxLen) (fun w hT => Row.factsR (hT.ok 1 _ rfl)) (fun hr10_ => ?_)
  obtain ⟨hr10_a, hr10_l, hr10_c, hr10_m⟩ := hr10_
  unfold maxLen at hr10_m
  obtain ⟨hrsl, hrsO⟩ := hf9_
  have hrvl : (rs3.reverse).length = n := by rw [List.length_reverse]; exact hrsl
  have hlfl := leftL_len (W := W) (H := H) (by omega) (by omega) ts
  refine bS [0, 0, 0, 0, 0] 8 0 [(5, sL r4 n n)] ?_
  refine cDn <| tNo <| cSq <| cRg 2 rfl <| bS [0, 0] 2 0 [(4, sL r4 n n)] ?_
  refine cDn <| tNo <| cont_ret ?_
  refine ret_one (.inl rfl) rfl 0 (sL r4 n n) (by kernel_rfl) (by kernel_rfl) (fun w hT => ?_)
  replace hT := hT.erase 6 (fun e h hw => by cases h; first | rfl | cases hw)
  replace hT := hT.erase 5 (fun e h hw => by cases h; first | rfl | cases hw)
  replace hT := hT.erase 4 (fun e h hw => by cases h; first | rfl | cases hw)
  replace hT := hT.erase 3 (fun e h hw => by cases h; first | rfl | cases hw)
  replace hT := hT.erase 1 (fun e h hw => by cases h; first | rfl | cases hw)
  exact ⟨_, _, rfl, ⟨hrsl, hrsO⟩, hT⟩
theorem planGround (K : Int) (A : Option Addr) (g o n cap : Nat) (its : List IT) (ts : List TS) (W H : Int) (w : World) (hT0 : Tab w w [rD (A) g o n 14 (dvals IT.cells its), .gen (subE n (IT.hds 116 its)), .gen (subE n (IT.pxs its)), .gen (subE n (TS.ops ts))]) (hmap : its.map (·.t) = ts) (hts : ∀ t ∈ ts, TS.Ok t) (hn : n ≤ 100) (hW : 1 ≤ W ∧ W ≤ 256) (hH : 1 ≤ H ∧ H ≤ 256) :
    Calls Tryz.prog 21 #[.agg #[iQ K, .slice A n cap], .agg #[iQ 0, iQ 0, iQ W, iQ H]] w fun e w' => ∃ (A_ : Option Addr) (g_ k_ cp_ : Nat), e = .returned (.slice A_ k_ cp_) ∧ Tab w w' [.gen (rowE (A_) g_ k_ cp_ 32 4 (rvals (leftL (⟨0, 0, W, H⟩ : Rect) ts)) true)] := by
  obtain ⟨hra, hrl⟩ := Rd.factsD IT.size (by decide) (hT0.ok 0 _ rfl)
  refine enter 14 [(0, .agg #[iQ K, .slice A n cap]), (1, .agg #[iQ 0, iQ 0, iQ W, iQ H])] [rD (A) g o n 14 (dvals IT.cells its), .gen (subE n (IT.hds 116 its)), .gen (subE n (IT.pxs its)), .gen (subE n (TS.ops ts))] Tryz.func21 rfl Tryz.ntmps21 rfl (by kernel_rfl) hT0 ?_
  refine cSq <| cRg 3 rfl ?_
  refine batch2 [0, 0, 0] 3 0 (fun b1 b2 => [(2, pT b1), (3, pT b2)]) (fun b1 b2 => [.cells b2 [iQ 0, iQ 0, iQ W, iQ H] 32 true, .cells b1 [iQ K, .slice A n cap] 28 true, rD (A) g o n 14 (dvals IT.cells its), .gen (subE n (IT.hds 116 its)), .gen (subE n (IT.pxs its)), .gen (subE n (TS.ops ts))]) rfl rfl [2, 3] (fun _ _ => rfl) (fun b1 b2 => by kernel_rfl) (fun b1 b2 => by kernel_rfl) (fun b1 b2 => ?_)
  refine cDn <| tNo <| cSq <| cRg 8 rfl <| bS [1, 0] 2 6 [(8, .agg #[iQ K, .slice A n cap]), (9, .agg #[iQ 0, iQ 0, iQ W, iQ H])] ?_
  refine cFg 0 rfl <| cFg 0 rfl <| pSt 3 5 rfl rfl <| call_gen (d := 10) (α := List RS × Nat × Option Addr × Nat × Nat × Nat) (fun x_ => .tuple #[sL x_.2.1 n n, .slice x_.2.2.1 x_.2.2.2.2.1 x_.2.2.2.2.2]) (fun x_ => [.gen (bunO n (RS.rws x_.1)), .gen (rowE (x_.2.2.1) x_.2.2.2.1 x_.2.2.2.2.1 x_.2.2.2.2.2 32 4 (rvals (leftL (⟨0, 0, W, H⟩ : Rect) ts)) true), .gen (rowE (some ⟨x_.2.1, 0, none⟩) x_.2.1 n n 23 1 (dvals RS.cells x_.1.reverse) true), rD (A) g o n 14 (dvals IT.cells its), .gen (subE n (IT.hds 116 its)), .gen (subE n (IT.pxs its)), .gen (subE n (TS.ops ts))]) (fun x_ => x_.1.length = n ∧ SeenOk (⟨0, 0, W, H⟩ : Rect) ts n x_.1) (by kernel_rfl) (fun w hT => (planSplit K A g o n cap its ts W H w (hT.viewRo (.cons (i := 0) rfl Vw.rd (.cons (i := 1) rfl Vw.subSub (.cons (i := 2) rfl Vw.subSub (.cons (i := 3) rfl Vw.subSub .nil)))) rfl) hmap hts (by omega) (by omega) (by omega)).mono fun e w' ⟨rs3, r4, A5, g6, k7, cp8, he_, hf_, ht_⟩ => ⟨(rs3, r4, A5, g6, k7, cp8), he_, hf_, hT.news ht_ rfl⟩) ?_
  rintro ⟨rs3, r4, A5, g6, k7, cp8⟩ hf9_
  replace hf9_ : rs3.length = n ∧ SeenOk (⟨0, 0, W, H⟩ : Rect) ts n rs3 := hf9_
  refine cN [.gen (bunO n (RS.rws rs3)), .gen (rowE (A5) g6 k7 cp8 32 4 (rvals (leftL (⟨0, 0, W, H⟩ : Rect) ts)) true), oE r4 n n 23 1 (dvals RS.cells rs3.reverse), rD (A) g o n 14 (dvals IT.cells its), .gen (subE n (IT.hds 116 its)), .gen (subE n (IT.pxs its)), .gen (subE n (TS.ops ts))] ?_
  refine cont_fact (F := (0 < k7 → (A5 : Option Addr) = some ⟨g6, 0, none⟩) ∧ (leftL (⟨0, 0, W, H⟩ : Rect) ts).length = k7 ∧ k7 ≤ cp8 ∧ cp8 ≤ maxLen) (fun w hT => Row.factsR (hT.ok 1 _ rfl)) (fun hr10_ => ?_)
  obtain ⟨hr10_a, hr10_l, hr10_c, hr10_m⟩ := hr10_
  unfold maxLen at hr10_m
  obtain ⟨hrsl, hrsO⟩ := hf9_
  have hrvl : (rs3.reverse).length = n := by rw [List.length_reverse]; exact hrsl
  have hlfl := leftL_len (W := W) (H := H) (by omega) (by omega) ts
  refine bS [0, 0, 0, 0, 0] 8 0 [(6, .slice A5 k7 cp8)] ?_
  refine cDn <| tNo <| cSq <| cRg 2 rfl <| bS [0, 0] 2 0 [(4, .slice A5 k7 cp8)] ?_
  refine cDn <| tNo <| cont_ret ?_
  refine ret_one (.inl rfl) rfl 0 (.slice A5 k7 cp8) (by kernel_rfl) (by kernel_rfl) (fun w hT => ?_)
  replace hT := hT.erase 6 (fun e h hw => by cases h; first | rfl | cases hw)
  replace hT := hT.erase 5 (fun e h hw => by cases h; first | rfl | cases hw)
  replace hT := hT.erase 4 (fun e h hw => by cases h; first | rfl | cases hw)
  replace hT := hT.erase 3 (fun e h hw => by cases h; first | rfl | cases hw)
  replace hT := hT.erase 2 (fun e h hw => by cases h; first | rfl | cases hw)
  replace hT := hT.erase 0 (fun e h hw => by cases h; first | rfl | cases hw)
  exact ⟨_, _, _, _, rfl, hT⟩
theorem refBox17 (a b : Int) (w : World) (ha : -9223372036854775808 ≤ a ∧ a ≤ 9223372036854775807) (hb : -9223372036854775808 ≤ b ∧ b ≤ 9223372036854775807) :
    Calls Tryz.prog 10 #[iQ a, iQ b] w fun e w' => e = .returned (.agg #[iQ 0, iQ 0, iQ (1 + aroundI a 16), iQ (1 + aroundI b 16)]) ∧ Below w.heap.size w w' := by
 refine enter 12 [(0, iq a), (1, iq b)] [] Tryz.func10 rfl Tryz.ntmps10 rfl (by kernel_rfl) (Tab.start w) ?_
 refine cSq <| cRg 1 rfl ?_
 refine batch1 [0] 1 0 (fun b1 => [(0, iq a), (1, iq b), (4, .pointer (pB b1))]) (fun b1 => [.cells b1 [iq 0, iq 0, iq 0, iq 0] 32 true]) rfl rfl [0, 1, 4] (fun _ => rfl) (fun b1 => by kernel_rfl) (fun b1 => by kernel_rfl) (fun b1 => ?_)
 refine cDn <| tNo <| cSq <| cRg 8 rfl <| bD [0] 1 7 [(5, iq a)] [] ?_
 refine pSt 2 6 rfl rfl <| call_pure (d := 6) (iq (aroundI a 16)) (by kernel_rfl) (fun w hT => refAround a 16 w (by omega) (by omega)) ?_
 have hq2_ := aroundI_range a (m := 16) (by omega)
 refine bD [0] 3 5 [(7, iq (IntKind.i64.wrap (1 + (aroundI a 16))))] [] ?_
 refine cRc 7 (iq (IntKind.i64.wrap (1 + (aroundI a 16)))) (iq (1 + (aroundI a 16))) rfl (wrapI (by omega) (by omega)) ?_
 refine bD [0] 4 4 [(8, iq b)] [] ?_
 refine pSt 5 3 rfl rfl <| call_pure (d := 9) (iq (aroundI b 16)) (by kernel_rfl) (fun w hT => refAround b 16 w (by omega) (by omega)) ?_
 have hq3_ := aroundI_range b (m := 16) (by omega)
 refine bD [0] 6 2 [(10, iq (IntKind.i64.wrap (1 + (aroundI b 16))))] [] ?_
 refine cRc 10 (iq (IntKind.i64.wrap (1 + (aroundI b 16)))) (iq (1 + (aroundI b 16))) rfl (wrapI (by omega) (by omega)) ?_
 refine batch0 [0, 0] 8 0 [(4, .pointer (pB b1))] [.cells b1 [iq 0, iq 0, iq (1 + (aroundI a 16)), iq (1 + (aroundI b 16))] 32 true] rfl rfl (by kernel_rfl) (by kernel_rfl) ?_
 refine cDn <| tNo <| cont_ret ?_
 refine ret_one (.inl rfl) rfl 0 (.agg #[iq 0, iq 0, iq (1 + (aroundI a 16)), iq (1 + (aroundI b 16))]) (by kernel_rfl) (by kernel_rfl) (fun w hT => ?_)
 exact ⟨rfl, hT.post rfl⟩
end Go.Proofs.YtlfahohbkgdabaaGreat
namespace Go.Proofs.YtlfahohbkgdabaaGreat
open Go Go.RowKit
set_option maxRecDepth 100000
set_option maxHeartbeats 8000000
theorem walkPlanSeen (A : Option Addr) (g o n cap : Nat) (xs : List V17) (qw qh : Int) (w : World) (hr : Rd w A g o n 16 (dvals V17.cells xs)) (hl : xs.length = n) (hc : n ≤ cap) (hm : cap ≤ maxLen) (hg : ∀ d ∈ xs, V17.Good w d) (hqw : -9223372036854775808 ≤ qw ∧ qw ≤ 9223372036854775807) (hqh : -9223372036854775808 ≤ qh ∧ qh ≤ 9223372036854775807) :
    Calls Tryz.prog 4 #[.slice A n cap, iQ qw, iQ qh] w fun e w' => e = .returned (.bool true) ∧ Below w.heap.size w w' := by
  unfold maxLen at hm
  obtain ⟨hra, _⟩ := Rd.factsD V17.size (by decide) hr
  have hge : ∀ i, i < n → V17.Good w (dget xs i) := fun i hi => hg _ (dget_mem (by omega))
  have hgpv : ∀ d ∈ xs, V17P d := fun d hd => (hg d hd).pure
  refine enter 59 [(0, .slice A n cap), (1, iQ qw), (2, iQ qh)] [rD (A) g o n 16 (dvals V17.cells xs), sB3 n xs, sB14 n xs, sB15 n xs] Tryz.func4 rfl Tryz.ntmps4 rfl (by kernel_rfl) (Tab.olds (fun i_ e_ he_ => by
    match i_, he_ with
    | 0, he_ => cases he_; exact ⟨hr, rfl, rfl⟩
    | 1, he_ => cases he_; exact ⟨fun i_ hi_ => (hge i_ hi_).r3, rfl, rfl⟩
    | 2, he_ => cases he_; exact ⟨fun i_ hi_ => (hge i_ hi_).r14, rfl, rfl⟩
    | 3, he_ => cases he_; exact ⟨fun i_ hi_ => (hge i_ hi_).r15, rfl, rfl⟩
    | _ + 4, he_ => cases he_)) ?_
  refine cSq <| cRg 1 rfl <| bD [0] 1 0 [] [6] ?_
  refine cDn <| tNo <| cSq <| cRg 3 rfl <| bD [0] 1 2 [(13, .slice A n cap)] [] ?_
  refine pSt 2 1 rfl rfl <| call_gen (d := 14) (α := Option Addr × Nat × Nat × Nat × List TS) (fun x_ => .slice x_.1 x_.2.2.1 x_.2.2.2.1) (fun x_ => [.gen (bunO x_.2.2.1 (TS.pxs x_.2.2.2.2)), .gen (bunO x_.2.2.1 (TS.ops x_.2.2.2.2)), .gen (rowE (x_.1) x_.2.1 x_.2.2.1 x_.2.2.2.1 87 14 (dvals TS.cells x_.2.2.2.2) true), rD (A) g o n 16 (dvals V17.cells xs), sB3 n xs, sB14 n xs, sB15 n xs]) (fun x_ => x_.2.2.1 ≤ 5 ∧ ∀ t ∈ x_.2.2.2.2, TS.Ok t) (by kernel_rfl) (fun w hT => (refGood17 A g o n cap xs w (hT.viewRo (.cons (i := 0) rfl Vw.rd (.cons (i := 1) rfl Vw.subSub (.cons (i := 2) rfl Vw.subSub (.cons (i := 3) rfl Vw.subSub .nil)))) rfl) hgpv).mono fun e w' ⟨A1, g2, k3, cp4, ts5, he_, hf_, ht_⟩ => ⟨(A1, g2, k3, cp4, ts5), he_, hf_, hT.news ht_ rfl⟩) ?_
  rintro ⟨A1, g2, k3, cp4, ts5⟩ hf6_
  replace hf6_ : k3 ≤ 5 ∧ ∀ t ∈ ts5, TS.Ok t := hf6_
  refine cN [.gen (bunO k3 (TS.pxs ts5)), .gen (bunO k3 (TS.ops ts5)), .gen (rowE (A1) g2 k3 cp4 87 14 (dvals TS.cells ts5) true), rD (A) g o n 16 (dvals V17.cells xs), sB3 n xs, sB14 n xs, sB15 n xs] ?_
  refine cont_fact (F := (0 < k3 → (A1 : Option Addr) = some ⟨g2, 0, none⟩) ∧ ts5.length = k3 ∧ k3 ≤ cp4 ∧ cp4 ≤ maxLen) (fun w hT => Row.factsD TS.size (by decide) (hT.ok 2 _ rfl)) (fun hr7_ => ?_)
  obtain ⟨hr7_a, hr7_l, hr7_c, hr7_m⟩ := hr7_
  unfold maxLen at hr7_m
  obtain ⟨hgl, hgt⟩ := hf6_
  refine bD [0] 3 0 [(7, .slice A1 k3 cp4)] [] ?_
  refine cDn <| tNo <| cSq <| cRg 8 rfl <| cFg 6 rfl <| cFg 5 rfl <| cFg 4 rfl <| cFg 3 rfl <| bD [0] 1 7 [(16, .slice A1 k3 cp4)] [] ?_
  refine pSt 2 6 rfl rfl <| call_gen (d := 17) (α := Option Addr × Nat × Nat × List IT) (fun x_ => .tuple #[.agg #[iQ 0, .slice x_.1 k3 x_.2.2.1], .bool true]) (fun x_ => [.gen (bunO k3 (IT.pxs x_.2.2.2)), .gen (bunO k3 (IT.hds 116 x_.2.2.2)), .gen (rowE (x_.1) x_.2.1 k3 x_.2.2.1 94 14 (dvals IT.cells x_.2.2.2) true), .gen (bunO k3 (TS.pxs ts5)), .gen (bunO k3 (TS.ops ts5)), .gen (rowE (A1) g2 k3 cp4 87 14 (dvals TS.cells ts5) true)]) (fun x_ => x_.2.2.2.map (·.t) = ts5) (by kernel_rfl) (fun w hT => (shot A1 g2 0 k3 cp4 ts5 w (hT.viewRo (.cons (i := 2) rfl Vw.rowRd (.cons (i := 0) rfl Vw.bunSub .nil)) rfl) hgt (by omega)).mono fun e w' ⟨A8, g9, cp10, its11, he_, hf_, ht_⟩ => ⟨(A8, g9, cp10, its11), he_, hf_, hT.news ht_ rfl⟩) ?_
  rintro ⟨A8, g9, cp10, its11⟩ hf12_
  replace hf12_ : its11.map (·.t) = ts5 := hf12_
  refine cN [.gen (bunO k3 (IT.pxs its11)), .gen (bunO k3 (IT.hds 116 its11)), .gen (rowE (A8) g9 k3 cp10 94 14 (dvals IT.cells its11) true), .gen (bunO k3 (TS.pxs ts5)), .gen (bunO k3 (TS.ops ts5)), .gen (rowE (A1) g2 k3 cp4 87 14 (dvals TS.cells ts5) true)] ?_
  refine cont_fact (F := (0 < k3 → (A8 : Option Addr) = some ⟨g9, 0, none⟩) ∧ its11.length = k3 ∧ k3 ≤ cp10 ∧ cp10 ≤ maxLen) (fun w hT => Row.factsD IT.size (by decide) (hT.ok 2 _ rfl)) (fun hr13_ => ?_)
  obtain ⟨hr13_a, hr13_l, hr13_c, hr13_m⟩ := hr13_
  unfold maxLen at hr13_m
  have hmapS := hf12_
  refine batch1 [0, 0, 0, 0, 0, 0] 8 0 (fun b14 => [(1, iQ qw), (2, iQ qh), (7, .slice A1 k3 cp4), (8, pT b14), (9, .bool true)]) (fun b14 => [.cells b14 [iQ 0, .slice A8 k3 cp10] 28 true, .gen (bunO k3 (IT.pxs its11)), .gen (bunO k3 (IT.hds 116 its11)), .gen (rowE (A8) g9 k3 cp10 94 14 (dvals IT.cells its11) true), .gen (bunO k3 (TS.pxs ts5)), .gen (bunO k3 (TS.ops ts5)), .gen (rowE (A1) g2 k3 cp4 87 14 (dvals TS.cells ts5) true)]) rfl rfl [1, 2, 7, 8, 9] (fun _ => rfl) (fun b14 => by kernel_rfl) (fun b14 => by kernel_rfl) (fun b14 => ?_)
  refine cDn <| tNo <| cSq <| cSq <| cRg 2 rfl <| bD [0, 0] 2 0 [(21, .bool false)] [20] ?_
  refine cDn <| tNo <| cFa rfl <| cont_skip <| tNo <| cSq <| cRg 5 rfl <| bD [0, 0] 2 3 [(22, iQ qw), (23, iQ qh)] [] ?_
  refine pSt 3 2 rfl rfl <| call_pure (d := 24) (.agg #[iQ 0, iQ 0, iQ (1 + aroundI qw 16), iQ (1 + aroundI qh 16)]) (by kernel_rfl) (fun w hT => refBox17 qw qh w (by omega) (by omega)) ?_
  have hq15_ := aroundI_range qw (m := 16) (by omega)
  have hq16_ := aroundI_range qh (m := 16) (by omega)
  refine batch1 [0, 0] 5 0 (fun b17 => [(7, .slice A1 k3 cp4), (8, pT b14), (10, pT b17)]) (fun b17 => [.cells b17 [iQ 0, iQ 0, iQ (1 + aroundI qw 16), iQ (1 + aroundI qh 16)] 32 true, .cells b14 [iQ 0, .slice A8 k3 cp10] 28 true, .gen (bunO k3 (IT.pxs its11)), .gen (bunO k3 (IT.hds 116 its11)), .gen (rowE (A8) g9 k3 cp10 94 14 (dvals IT.cells its11) true), .gen (bunO k3 (TS.pxs ts5)), .gen (bunO k3 (TS.ops ts5)), .gen (rowE (A1) g2 k3 cp4 87 14 (dvals TS.cells ts5) true)]) rfl rfl [7, 8, 10] (fun _ => rfl) (fun b17 => by kernel_rfl) (fun b17 => by kernel_rfl) (fun b17 => ?_)
  refine cDn <| tNo <| cSq <| cRg 4 rfl <| bD [1, 0] 2 2 [(25, .agg #[iQ 0, .slice A8 k3 cp10]), (26, .agg #[iQ 0, iQ 0, iQ (1 + aroundI qw 16), iQ (1 + aroundI qh 16)])] [] ?_
  refine pSt 3 1 rfl rfl <| call_gen (d := 27) (α := List RS × Nat) (fun x_ => sL x_.2 k3 k3) (fun x_ => [.gen (bunO k3 (RS.rws x_.1)), .gen (rowE (some ⟨x_.2, 0, none⟩) x_.2 k3 k3 23 1 (dvals RS.cells x_.1.reverse) true), .cells b17 [iQ 0, iQ 0, iQ (1 + aroundI qw 16), iQ (1 + aroundI qh 16)] 32 true, .cells b14 [iQ 0, .slice A8 k3 cp10] 28 true, .gen (bunO k3 (IT.pxs its11)), .gen (bunO k3 (IT.hds 116 its11)), .gen (rowE (A8) g9 k3 cp10 94 14 (dvals IT.cells its11) true), .gen (bunO k3 (TS.pxs ts5)), .gen (bunO k3 (TS.ops ts5)), .gen (rowE (A1) g2 k3 cp4 87 14 (dvals TS.cells ts5) true)]) (fun x_ => x_.1.length = k3 ∧ SeenOk (⟨0, 0, 1 + aroundI qw 16, 1 + aroundI qh 16⟩ : Rect) ts5 k3 x_.1) (by kernel_rfl) (fun w hT => (planSeen 0 A8 g9 0 k3 cp10 its11 ts5 (1 + aroundI qw 16) (1 + aroundI qh 16) w (hT.viewRo (.cons (i := 4) rfl Vw.rowRd (.cons (i := 3) rfl Vw.bunSub (.cons (i := 2) rfl Vw.bunSub (.cons (i := 6) rfl Vw.bunSub .nil)))) rfl) hmapS hgt (by omega) (by omega) (by omega)).mono fun e w' ⟨rs18, r19, he_, hf_, ht_⟩ => ⟨(rs18, r19), he_, hf_, hT.news ht_ rfl⟩) ?_
  rintro ⟨rs18, r19⟩ hf20_
  replace hf20_ : rs18.length = k3 ∧ SeenOk (⟨0, 0, 1 + aroundI qw 16, 1 + aroundI qh 16⟩ : Rect) ts5 k3 rs18 := hf20_
  refine cN [.gen (bunO k3 (RS.rws rs18)), oE r19 k3 k3 23 1 (dvals RS.cells rs18.reverse), .cells b17 [iQ 0, iQ 0, iQ (1 + aroundI qw 16), iQ (1 + aroundI qh 16)] 32 true, .cells b14 [iQ 0, .slice A8 k3 cp10] 28 true, .gen (bunO k3 (IT.pxs its11)), .gen (bunO k3 (IT.hds 116 its11)), .gen (rowE (A8) g9 k3 cp10 94 14 (dvals IT.cells its11) true), .gen (bunO k3 (TS.pxs ts5)), .gen (bunO k3 (TS.ops ts5)), .gen (rowE (A1) g2 k3 cp4 87 14 (dvals TS.cells ts5) true)] ?_
  obtain ⟨hrsl, hrsO⟩ := hf20_
  have hrvl : (rs18.reverse).length = k3 := by rw [List.length_reverse]; exact hrsl
  refine bD [0] 4 0 [(11, sL r19 k3 k3)] [] ?_
  refine cDn <| tNo <| cSq <| cSq <| cRg 5 rfl <| bD [0, 0, 0, 0, 0] 5 0 [(32, .bool ((k3 : Int) != (k3 : Int)))] [28, 29, 30, 31] ?_
  refine cDn <| tNo <| cRc 32 (.bool ((k3 : Int) != (k3 : Int))) (.bool false) rfl (congrArg Value.bool (bne_eq_false_iff_eq.2 (by omega))) ?_
  refine cFa rfl <| cont_skip <| tNo <| cSq <| cSq <| cRg 1 rfl <| bD [0] 1 0 [(12, iQ 0)] [] ?_
  refine cDn <| tNo <| cont_block <| cont_loop (α := Nat) (fun x_ : Nat => x_ ≤ k3) (fun x_ : Nat => [(7, .slice A1 k3 cp4), (8, pT b14), (10, pT b17), (11, sL r19 k3 k3), (12, iQ (x_ : Int))]) (fun x_ : Nat => [.gen (bunO k3 (RS.rws rs18)), oE r19 k3 k3 23 1 (dvals RS.cells rs18.reverse), .cells b17 [iQ 0, iQ 0, iQ (1 + aroundI qw 16), iQ (1 + aroundI qh 16)] 32 true, .cells b14 [iQ 0, .slice A8 k3 cp10] 28 true, .gen (bunO k3 (IT.pxs its11)), .gen (bunO k3 (IT.hds 116 its11)), .gen (rowE (A8) g9 k3 cp10 94 14 (dvals IT.cells its11) true), .gen (bunO k3 (TS.pxs ts5)), .gen (bunO k3 (TS.ops ts5)), .gen (rowE (A1) g2 k3 cp4 87 14 (dvals TS.cells ts5) true)]) (fun x_ : Nat => k3 - x_) 0 (by omega) (by kernel_rfl) (by kernel_rfl) ?_
  rintro i hinv22_
  replace hinv22_ : i ≤ k3 := hinv22_
  refine cN [.gen (bunO k3 (RS.rws rs18)), oE r19 k3 k3 23 1 (dvals RS.cells rs18.reverse), .cells b17 [iQ 0, iQ 0, iQ (1 + aroundI qw 16), iQ (1 + aroundI qh 16)] 32 true, .cells b14 [iQ 0, .slice A8 k3 cp10] 28 true, .gen (bunO k3 (IT.pxs its11)), .gen (bunO k3 (IT.hds 116 its11)), .gen (rowE (A8) g9 k3 cp10 94 14 (dvals IT.cells its11) true), .gen (bunO k3 (TS.pxs ts5)), .gen (bunO k3 (TS.ops ts5)), .gen (rowE (A1) g2 k3 cp4 87 14 (dvals TS.cells ts5) true)] ?_
  have hi := hinv22_
  refine cSq <| cSq <| cRg 4 rfl <| bD [0, 0, 0, 0] 4 0 [(36, .bool (decide ((i : Int) < (k3 : Int))))] [33, 34, 35] ?_
  refine cDn <| tNo ?_
  refine cSp 36 (decide ((i : Int) < (k3 : Int))) rfl (fun c23_ => ?_) (fun c23_ => ?_)
  ·
    replace c23_ := of_decide_eq_true c23_
    refine cTr rfl <| cont_skip <| tNo <| cSq <| cont_block <| cSq ?_
    obtain ⟨r9, hr9⟩ : ∃ y_ : RS, y_ = dget rs18 (k3 - 1 - i) := ⟨_, rfl⟩
    have hre : dget rs18.reverse i = r9 := by rw [dget_rev (by omega), hr9, hrsl]
    have hx9 : r9.xs = seenL (⟨0, 0, 1 + aroundI qw 16, 1 + aroundI qh 16⟩ : Rect) ts5 i := by rw [hr9, hrsO (k3 - 1 - i) (by omega), show k3 - 1 - (k3 - 1 - i) = i by omega]
    have hsl9 := seenL_len (W := (1 + aroundI qw 16)) (H := (1 + aroundI qh 16)) ⟨by omega, by omega⟩ ⟨by omega, by omega⟩ ts5 i
    rw [← hx9] at hsl9
    refine cont_see 0 (rD (r9.A) r9.g 0 r9.n 4 (rvals r9.xs)) rfl rfl (by rw [← hr9.symm]; exact Vw.bunAt (k3 - 1 - i) (by omega) rfl rfl) rfl ?_
    refine cN [rD (r9.A) r9.g 0 r9.n 4 (rvals r9.xs), .gen (bunO k3 (RS.rws rs18)), oE r19 k3 k3 23 1 (dvals RS.cells rs18.reverse), .cells b17 [iQ 0, iQ 0, iQ (1 + aroundI qw 16), iQ (1 + aroundI qh 16)] 32 true, .cells b14 [iQ 0, .slice A8 k3 cp10] 28 true, .gen (bunO k3 (IT.pxs its11)), .gen (bunO k3 (IT.hds 116 its11)), .gen (rowE (A8) g9 k3 cp10 94 14 (dvals IT.cells its11) true), .gen (bunO k3 (TS.pxs ts5)), .gen (bunO k3 (TS.ops ts5)), .gen (rowE (A1) g2 k3 cp4 87 14 (dvals TS.cells ts5) true)] ?_
    refine cont_fact (F := (0 < r9.n → (r9.A : Option Addr) = some ⟨r9.g, 0, none⟩) ∧ r9.xs.length = r9.n) (fun w hT => Rd.factsR (hT.ok 0 _ rfl)) (fun hl24_ => ?_)
    obtain ⟨hl24_a, hl24_l⟩ := hl24_
    refine cN [rD (r9.A) r9.g 0 r9.n 4 (rvals r9.xs), .gen (bunO k3 (RS.rws rs18)), oE r19 k3 k3 23 1 (dvals RS.cells rs18.reverse), .cells b17 [iQ 0, iQ 0, iQ (1 + aroundI qw 16), iQ (1 + aroundI qh 16)] 32 true, .cells b14 [iQ 0, .slice A8 k3 cp10] 28 true, .gen (bunO k3 (IT.pxs its11)), .gen (bunO k3 (IT.hds 116 its11)), .gen (rowE (A8) g9 k3 cp10 94 14 (dvals IT.cells its11) true), .gen (bunO k3 (TS.pxs ts5)), .gen (bunO k3 (TS.ops ts5)), .gen (rowE (A1) g2 k3 cp4 87 14 (dvals TS.cells ts5) true)] ?_
    have hsl8 : (seenL (⟨0, 0, 1 + aroundI qw 16, 1 + aroundI qh 16⟩ : Rect) ts5 i).length ≤ 65536 := hx9 ▸ hsl9
    refine drawn_enter 10 [] rfl (by kernel_rfl) ?_
    refine tD 0 [] [(0, 0), (1, 0), (4, 0), (5, 3), (6, 0)] 5 [6, 5, 4, 1, 0] [(39, sL r19 k3 k3), (40, iQ (i : Int)), (43, .slice A1 k3 cp4), (44, .agg #[iQ 0, iQ 0, iQ (1 + aroundI qw 16), iQ (1 + aroundI qh 16)]), (45, iQ (i : Int))] [] ?_
    refine sT 0 [] 2 4 41 (Instr.indexAt 44 (sL r19 k3 k3) (iQ (i : Int))) (.pointer (some ⟨r19, i, none⟩)) (fun w hT => run_indexAt (e := 23) (sz := 1) _ (by kernel_rfl) (by kernel_rfl) (by omega) (by omega) (by omega) w) ?_
    refine sT 0 [] 3 3 42 (Instr.loadAt 23 (.pointer (some ⟨r19, i, none⟩))) (.slice r9.A r9.n r9.cap) (fun w hT => run_load1 (by kernel_rfl) (Rd.dcell1z RS.size (Row.rd (hT 2 _ rfl)) (i := i) (by omega) (by rw [hre]; rfl))) ?_
    refine dOn 7 2 rfl (by kernel_rfl) ?_
    refine call_gen (d := 46) (α := Option Addr × Nat × Nat × Nat) (fun x_ => .slice x_.1 x_.2.2.1 x_.2.2.2) (fun x_ => [.gen (rowE (x_.1) x_.2.1 x_.2.2.1 x_.2.2.2 32 4 (rvals (seenL (⟨0, 0, 1 + aroundI qw 16, 1 + aroundI qh 16⟩ : Rect) ts5 i)) true), rD (r9.A) r9.g 0 r9.n 4 (rvals r9.xs), .gen (bunO k3 (RS.rws rs18)), oE r19 k3 k3 23 1 (dvals RS.cells rs18.reverse), .cells b17 [iQ 0, iQ 0, iQ (1 + aroundI qw 16), iQ (1 + aroundI qh 16)] 32 true, .cells b14 [iQ 0, .slice A8 k3 cp10] 28 true, .gen (bunO k3 (IT.pxs its11)), .gen (bunO k3 (IT.hds 116 its11)), .gen (rowE (A8) g9 k3 cp10 94 14 (dvals IT.cells its11) true), .gen (bunO k3 (TS.pxs ts5)), .gen (bunO k3 (TS.ops ts5)), .gen (rowE (A1) g2 k3 cp4 87 14 (dvals TS.cells ts5) true)]) (fun x_ => True) (by kernel_rfl) (fun w hT => (refSeenI A1 g2 0 k3 cp4 ts5 (1 + aroundI qw 16) (1 + aroundI qh 16) i w (hT.viewRo (.cons (i := 10) rfl Vw.rowRd (.cons (i := 8) rfl Vw.bunSub (.cons (i := 9) rfl Vw.bunSub .nil))) rfl) ⟨by omega, by omega⟩ ⟨by omega, by omega⟩ hgt (by omega) (by omega)).mono fun e w' ⟨A25, g26, k27, cp28, he_, ht_⟩ => ⟨(A25, g26, k27, cp28), he_, trivial, hT.news ht_ rfl⟩) ?_
    rintro ⟨A25, g26, k27, cp28⟩ hf29_
    refine cN [.gen (rowE (A25) g26 k27 cp28 32 4 (rvals (seenL (⟨0, 0, 1 + aroundI qw 16, 1 + aroundI qh 16⟩ : Rect) ts5 i)) true), rD (r9.A) r9.g 0 r9.n 4 (rvals r9.xs), .gen (bunO k3 (RS.rws rs18)), oE r19 k3 k3 23 1 (dvals RS.cells rs18.reverse), .cells b17 [iQ 0, iQ 0, iQ (1 + aroundI qw 16), iQ (1 + aroundI qh 16)] 32 true, .cells b14 [iQ 0, .slice A8 k3 cp10] 28 true, .gen (bunO k3 (IT.pxs its11)), .gen (bunO k3 (IT.hds 116 its11)), .gen (rowE (A8) g9 k3 cp10 94 14 (dvals IT.cells its11) true), .gen (bunO k3 (TS.pxs ts5)), .gen (bunO k3 (TS.ops ts5)), .gen (rowE (A1) g2 k3 cp4 87 14 (dvals TS.cells ts5) true)] ?_
    refine cont_fact (F := (0 < k27 → (A25 : Option Addr) = some ⟨g26, 0, none⟩) ∧ (seenL (⟨0, 0, 1 + aroundI qw 16, 1 + aroundI qh 16⟩ : Rect) ts5 i).length = k27 ∧ k27 ≤ cp28 ∧ cp28 ≤ maxLen) (fun w hT => Row.factsR (hT.ok 0 _ rfl)) (fun hr30_ => ?_)
    obtain ⟨hr30_a, hr30_l, hr30_c, hr30_m⟩ := hr30_
    unfold maxLen at hr30_m
    refine dNx 1 [] (by kernel_rfl) ?_
    refine dOn 8 1 rfl (by kernel_rfl) ?_
    refine call_pure (d := 47) (.bool (decide (r9.xs = (seenL (⟨0, 0, 1 + aroundI qw 16, 1 + aroundI qh 16⟩ : Rect) ts5 i)))) (by kernel_rfl) (fun w hT => refSame r9.A r9.g 0 r9.n r9.cap r9.xs A25 g26 0 k27 cp28 (seenL (⟨0, 0, 1 + aroundI qw 16, 1 + aroundI qh 16⟩ : Rect) ts5 i) w (hT.viewRo (.cons (i := 1) rfl Vw.rd (.cons (i := 0) rfl Vw.rowRd .nil)) rfl) (by omega)) ?_
    refine dNx 1 [] (by kernel_rfl) ?_
    refine tD 1 [] [(9, 0)] 0 [9, 8, 7, 3, 2, 6, 5, 4, 1, 0] [(48, .bool (!(decide (r9.xs = (seenL (⟨0, 0, 1 + aroundI qw 16, 1 + aroundI qh 16⟩ : Rect) ts5 i)))))] [] ?_
    refine drawn_done (by kernel_rfl) ?_
    refine tNo <| cRc 48 (.bool (!(decide (r9.xs = (seenL (⟨0, 0, 1 + aroundI qw 16, 1 + aroundI qh 16⟩ : Rect) ts5 i))))) (.bool false) rfl (congrArg Value.bool (by rw [hx9]; simp)) ?_
    refine cFa rfl <| cont_skip <| blk_normal <| tNo <| cRg 3 rfl <| bD [0, 0] 2 1 [(38, iQ (IntKind.i64.wrap ((i : Int) + 1)))] [37] ?_
    refine cRc 38 (iQ (IntKind.i64.wrap ((i : Int) + 1))) (iQ ((i : Int) + 1)) rfl (wrapI (by omega) (by omega)) ?_
    refine bD [0] 3 0 [(12, iQ ((i : Int) + 1))] [] ?_
    refine cDn <| tNo <| cFg 1 rfl <| cFg 0 rfl ?_
    refine cont_again (i + 1) (show (i + 1) ≤ k3 from (by omega)) (show k3 - (i + 1) < k3 - i from by omega) (by kernel_rfl) (by kernel_rfl)
  replace c23_ := of_decide_eq_false c23_
  refine cFa rfl <| cont_exit <| then_exit <| then_exit <| blk_exit <| tNo <| cSq ?_
  have hlg9 := leftL_len (W := (1 + aroundI qw 16)) (H := (1 + aroundI qh 16)) ⟨by omega, by omega⟩ ⟨by omega, by omega⟩ ts5
  refine drawn_enter 11 [] rfl (by kernel_rfl) ?_
  refine tD 0 [] [(0, 3), (1, 2), (3, 0), (4, 2)] 7 [4, 3, 1, 0] [(49, .agg #[iQ 0, .slice A8 k3 cp10]), (50, .agg #[iQ 0, iQ 0, iQ (1 + aroundI qw 16), iQ (1 + aroundI qh 16)]), (52, .slice A1 k3 cp4), (53, .agg #[iQ 0, iQ 0, iQ (1 + aroundI qw 16), iQ (1 + aroundI qh 16)])] [] ?_
  refine dOn 2 6 rfl (by kernel_rfl) ?_
  refine call_gen (d := 51) (α := Option Addr × Nat × Nat × Nat) (fun x_ => .slice x_.1 x_.2.2.1 x_.2.2.2) (fun x_ => [.gen (rowE (x_.1) x_.2.1 x_.2.2.1 x_.2.2.2 32 4 (rvals (leftL (⟨0, 0, 1 + aroundI qw 16, 1 + aroundI qh 16⟩ : Rect) ts5)) true), .gen (bunO k3 (RS.rws rs18)), oE r19 k3 k3 23 1 (dvals RS.cells rs18.reverse), .cells b17 [iQ 0, iQ 0, iQ (1 + aroundI qw 16), iQ (1 + aroundI qh 16)] 32 true, .cells b14 [iQ 0, .slice A8 k3 cp10] 28 true, .gen (bunO k3 (IT.pxs its11)), .gen (bunO k3 (IT.hds 116 its11)), .gen (rowE (A8) g9 k3 cp10 94 14 (dvals IT.cells its11) true), .gen (bunO k3 (TS.pxs ts5)), .gen (bunO k3 (TS.ops ts5)), .gen (rowE (A1) g2 k3 cp4 87 14 (dvals TS.cells ts5) true)]) (fun x_ => True) (by kernel_rfl) (fun w hT => (planGround 0 A8 g9 0 k3 cp10 its11 ts5 (1 + aroundI qw 16) (1 + aroundI qh 16) w (hT.viewRo (.cons (i := 6) rfl Vw.rowRd (.cons (i := 5) rfl Vw.bunSub (.cons (i := 4) rfl Vw.bunSub (.cons (i := 8) rfl Vw.bunSub .nil)))) rfl) hmapS hgt (by omega) (by omega) (by omega)).mono fun e w' ⟨A32, g33, k34, cp35, he_, ht_⟩ => ⟨(A32, g33, k34, cp35), he_, trivial, hT.news ht_ rfl⟩) ?_
  rintro ⟨A32, g33, k34, cp35⟩ hf36_
  refine cN [.gen (rowE (A32) g33 k34 cp35 32 4 (rvals (leftL (⟨0, 0, 1 + aroundI qw 16, 1 + aroundI qh 16⟩ : Rect) ts5)) true), .gen (bunO k3 (RS.rws rs18)), oE r19 k3 k3 23 1 (dvals RS.cells rs18.reverse), .cells b17 [iQ 0, iQ 0, iQ (1 + aroundI qw 16), iQ (1 + aroundI qh 16)] 32 true, .cells b14 [iQ 0, .slice A8 k3 cp10] 28 true, .gen (bunO k3 (IT.pxs its11)), .gen (bunO k3 (IT.hds 116 its11)), .gen (rowE (A8) g9 k3 cp10 94 14 (dvals IT.cells its11) true), .gen (bunO k3 (TS.pxs ts5)), .gen (bunO k3 (TS.ops ts5)), .gen (rowE (A1) g2 k3 cp4 87 14 (dvals TS.cells ts5) true)] ?_
  refine cont_fact (F := (0 < k34 → (A32 : Option Addr) = some ⟨g33, 0, none⟩) ∧ (leftL (⟨0, 0, 1 + aroundI qw 16, 1 + aroundI qh 16⟩ : Rect) ts5).length = k34 ∧ k34 ≤ cp35 ∧ cp35 ≤ maxLen) (fun w hT => Row.factsR (hT.ok 0 _ rfl)) (fun hr37_ => ?_)
  obtain ⟨hr37_a, hr37_l, hr37_c, hr37_m⟩ := hr37_
  unfold maxLen at hr37_m
  refine dNx 1 [] (by kernel_rfl) ?_
  refine dOn 5 5 rfl (by kernel_rfl) ?_
  refine call_gen (d := 54) (α := Option Addr × Nat × Nat × Nat) (fun x_ => .slice x_.1 x_.2.2.1 x_.2.2.2) (fun x_ => [.gen (rowE (x_.1) x_.2.1 x_.2.2.1 x_.2.2.2 32 4 (rvals (leftL (⟨0, 0, 1 + aroundI qw 16, 1 + aroundI qh 16⟩ : Rect) ts5)) true), .gen (rowE (A32) g33 k34 cp35 32 4 (rvals (leftL (⟨0, 0, 1 + aroundI qw 16, 1 + aroundI qh 16⟩ : Rect) ts5)) true), .gen (bunO k3 (RS.rws rs18)), oE r19 k3 k3 23 1 (dvals RS.cells rs18.reverse), .cells b17 [iQ 0, iQ 0, iQ (1 + aroundI qw 16), iQ (1 + aroundI qh 16)] 32 true, .cells b14 [iQ 0, .slice A8 k3 cp10] 28 true, .gen (bunO k3 (IT.pxs its11)), .gen (bunO k3 (IT.hds 116 its11)), .gen (rowE (A8) g9 k3 cp10 94 14 (dvals IT.cells its11) true), .gen (bunO k3 (TS.pxs ts5)), .gen (bunO k3 (TS.ops ts5)), .gen (rowE (A1) g2 k3 cp4 87 14 (dvals TS.cells ts5) true)]) (fun x_ => True) (by kernel_rfl) (fun w hT => (refSeenG A1 g2 0 k3 cp4 ts5 (1 + aroundI qw 16) (1 + aroundI qh 16) w (hT.viewRo (.cons (i := 10) rfl Vw.rowRd (.cons (i := 8) rfl Vw.bunSub (.cons (i := 9) rfl Vw.bunSub .nil))) rfl) ⟨by omega, by omega⟩ ⟨by omega, by omega⟩ hgt (by omega)).mono fun e w' ⟨A38, g39, k40, cp41, he_, ht_⟩ => ⟨(A38, g39, k40, cp41), he_, trivial, hT.news ht_ rfl⟩) ?_
  rintro ⟨A38, g39, k40, cp41⟩ hf42_
  refine cN [.gen (rowE (A38) g39 k40 cp41 32 4 (rvals (leftL (⟨0, 0, 1 + aroundI qw 16, 1 + aroundI qh 16⟩ : Rect) ts5)) true), .gen (rowE (A32) g33 k34 cp35 32 4 (rvals (leftL (⟨0, 0, 1 + aroundI qw 16, 1 + aroundI qh 16⟩ : Rect) ts5)) true), .gen (bunO k3 (RS.rws rs18)), oE r19 k3 k3 23 1 (dvals RS.cells rs18.reverse), .cells b17 [iQ 0, iQ 0, iQ (1 + aroundI qw 16), iQ (1 + aroundI qh 16)] 32 true, .cells b14 [iQ 0, .slice A8 k3 cp10] 28 true, .gen (bunO k3 (IT.pxs its11)), .gen (bunO k3 (IT.hds 116 its11)), .gen (rowE (A8) g9 k3 cp10 94 14 (dvals IT.cells its11) true), .gen (bunO k3 (TS.pxs ts5)), .gen (bunO k3 (TS.ops ts5)), .gen (rowE (A1) g2 k3 cp4 87 14 (dvals TS.cells ts5) true)] ?_
  refine cont_fact (F := (0 < k40 → (A38 : Option Addr) = some ⟨g39, 0, none⟩) ∧ (leftL (⟨0, 0, 1 + aroundI qw 16, 1 + aroundI qh 16⟩ : Rect) ts5).length = k40 ∧ k40 ≤ cp41 ∧ cp41 ≤ maxLen) (fun w hT => Row.factsR (hT.ok 0 _ rfl)) (fun hr43_ => ?_)
  obtain ⟨hr43_a, hr43_l, hr43_c, hr43_m⟩ := hr43_
  unfold maxLen at hr43_m
  refine dNx 2 [] (by kernel_rfl) ?_
  refine dOn 6 4 rfl (by kernel_rfl) ?_
  refine call_pure (d := 55) (.bool (decide ((leftL (⟨0, 0, 1 + aroundI qw 16, 1 + aroundI qh 16⟩ : Rect) ts5) = (leftL (⟨0, 0, 1 + aroundI qw 16, 1 + aroundI qh 16⟩ : Rect) ts5)))) (by kernel_rfl) (fun w hT => refSame A32 g33 0 k34 cp35 (leftL (⟨0, 0, 1 + aroundI qw 16, 1 + aroundI qh 16⟩ : Rect) ts5) A38 g39 0 k40 cp41 (leftL (⟨0, 0, 1 + aroundI qw 16, 1 + aroundI qh 16⟩ : Rect) ts5) w (hT.viewRo (.cons (i := 1) rfl Vw.rowRd (.cons (i := 0) rfl Vw.rowRd .nil)) rfl) (by omega)) ?_
  refine dNx 2 [] (by kernel_rfl) ?_
  refine tD 2 [] [(7, 0)] 3 [7, 6, 5, 2, 4, 3, 1, 0] [(56, .bool (decide ((leftL (⟨0, 0, 1 + aroundI qw 16, 1 + aroundI qh 16⟩ : Rect) ts5) = (leftL (⟨0, 0, 1 + aroundI qw 16, 1 + aroundI qh 16⟩ : Rect) ts5))))] [] ?_
  refine cRc 56 (.bool (decide ((leftL (⟨0, 0, 1 + aroundI qw 16, 1 + aroundI qh 16⟩ : Rect) ts5) = (leftL (⟨0, 0, 1 + aroundI qw 16, 1 + aroundI qh 16⟩ : Rect) ts5)))) (.bool true) rfl (congrArg Value.bool (by simp)) ?_
  refine dOn 8 2 rfl (by kernel_rfl) ?_
  refine call_pure (d := 57) (.bool true) (by kernel_rfl) (fun w hT => lives17  w) ?_
  refine dNx 2 [] (by kernel_rfl) ?_
  refine tD 2 [] [(9, 0), (10, 0)] 0 [10, 9, 8, 7, 6, 5, 2, 4, 3, 1, 0] [(6, .bool true)] [58] ?_
  refine drawn_done (by kernel_rfl) ?_
  refine tNo <| cont_ret ?_
  refine ret_one (.inl rfl) rfl 0 (.bool true) (by kernel_rfl) (by kernel_rfl) (fun w hT => ?_)
  exact ⟨rfl, hT.post rfl⟩
end Go.Proofs.YtlfahohbkgdabaaGreat
