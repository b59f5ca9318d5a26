/- Texts of this proof's own, put together: what each holds is told ahead of it. -/
import Derived.Test.YtlfahohbkgdabaaGreatPqG0
import Derived.Test.YtlfahohbkgdabaaGreatProg
import Derived.Maps.AppendAt
import Derived.Laws.CopyRow
set_option linter.unusedSimpArgs false
set_option linter.unusedVariables false
namespace Go.Proofs.YtlfahohbkgdabaaGreat
open Go Go.RowKit
set_option maxRecDepth 100000
set_option maxHeartbeats 8000000
theorem imgBox (m : Nat) (W H : Int) (r n cap : Nat) (px : List Int) (w : World) (hI : ImgR 116 w m W H r n cap px) (hok : ImgOk W H n px) :
    Calls Tryz.prog 57 #[pT m] w fun e w' => e = .returned (.agg #[iQ 0, iQ 0, iQ W, iQ H]) ∧ Below w.heap.size w w' := by
 refine enter 12 [(0, .pointer (pB m))] [.ro m [iq W, iq H, .slice (pB r) n cap] 116, rD (pB r) r 0 n 1 (cV px)] Tryz.func57 rfl Tryz.ntmps57 rfl (by kernel_rfl) hI.tab ?_
 refine zSR 1 <| bW [0] 1 0 (fun b1 => [(0, .pointer (pB m)), (2, .pointer (pB b1))]) (fun b1 => [.cells b1 [iq 0, iq 0, iq 0, iq 0] 32 true, .ro m [iq W, iq H, .slice (pB r) n cap] 116, rD (pB r) r 0 n 1 (cV px)]) [0, 2] fun b1 => ?_
 refine zDNS <| drawn_enter 10 [0] rfl (by kernel_rfl) ?_
 refine tD 0 [0] [(0, 0), (4, 0), (1, 0), (5, 0), (2, 0), (6, 0), (3, 1), (7, 1), (8, 0)] 1 [8, 7, 3, 6, 2, 5, 1, 4, 0] [(11, .agg #[iq 0, iq 0, iq W, iq H])] [3, 4, 5, 6, 7, 8, 9, 10] <| dO 9 0 <| oS 0 [(2, .pointer (pB b1))] [.cells b1 [iq 0, iq 0, iq W, iq H] 32 true, .ro m [iq W, iq H, .slice (pB r) n cap] 116, rD (pB r) r 0 n 1 (cV px)] <| dX 0 [0] <| dD <| zNr <| rA rfl 0 (.agg #[iq 0, iq 0, iq W, iq H]) fun w hT => ?_
 exact ⟨rfl, hT.post rfl⟩
theorem imgAt (m : Nat) (W H : Int) (r n cap : Nat) (px : List Int) (x y : Int) (w : World) (hI : ImgR 116 w m W H r n cap px) (hok : ImgOk W H n px) :
    Calls Tryz.prog 31 #[pT m, iQ x, iQ y] w fun e w' => e = .returned (.tuple #[cQ (atC W H px x y), .bool (hasB 0 0 W H x y)]) ∧ Below w.heap.size w w' := by
 have hw1 := hok.w1
 have hw2 := hok.w2
 have hh1 := hok.h1
 have hh2 := hok.h2
 have hnum := hok.num
 have hlen := hok.len
 have hle := hok.le
 have hcap := hI.cap
 refine enter 28 [(0, .pointer (pB m)), (1, iq x), (2, iq y)] [.ro m [iq W, iq H, .slice (pB r) n cap] 116, rD (pB r) r 0 n 1 (cV px)] Tryz.func31 rfl Tryz.ntmps31 rfl (by kernel_rfl) hI.tab ?_
 refine zSR 2 <| bD [0, 0] 2 0 [] [6, 7] <| zDNSSR 6 <| bD [0] 1 5 [(8, .pointer (pB m))] [] <| pS 2 4 <| cP 9 (.agg #[iq 0, iq 0, iq W, iq H]) (fun w hT => imgBox m W H r n cap px  w ⟨hT.ok 0 _ rfl, hT.ok 1 _ rfl, by omega⟩ hok) <| bD [0, 0] 4 2 [(10, iq x), (11, iq y)] [] <| pS 5 1 <| cP 12 (.bool (hasB 0 0 W H x y)) (fun w hT => rectHas 0 0 W H x y w) <| bD [0] 6 0 [(13, .bool (!(hasB 0 0 W H x y)))] [] <| zDN <| cSp 13 _ rfl (fun c1_ => ?_) fun c1_ => ?_
 ·
  replace c1_ : (hasB 0 0 W H x y) = false := by simpa using c1_
  refine zTSR 2 <| bS [0, 0] 2 0 [(6, cQ 0), (7, .bool false)] <| zDNrt <| rB rfl 0 0 (cQ 0) (.bool false) fun w hT => ?_
  exact ⟨by simp [atC, *], hT.post rfl⟩
 replace c1_ : (hasB 0 0 W H x y) = true := by simpa using c1_
 obtain ⟨hx0, hx1, hy0, hy1⟩ := hasB_true.1 c1_
 have hpl := hok.place hx0 hx1 hy0 hy1
 refine cFa rfl <| cont_skip <| zN <| cSq <| drawn_enter 16 [] rfl (by kernel_rfl) ?_
 refine tD 0 [] [(0, 0), (4, 0), (5, 0), (10, 0), (1, 0), (6, 0), (2, 0), (7, 0), (3, 0), (8, 0), (9, 0)] 5 [9, 8, 3, 7, 2, 6, 1, 10, 5, 4, 0] [(17, .slice (pB r) n cap), (23, iq (IntKind.i64.wrap (y * W))), (24, iq x)] [14, 15, 16, 18, 19, 20, 21, 22] <| wI 23 (y * W) <| tD 0 [] [(11, 0)] 4 [11, 9, 8, 3, 7, 2, 6, 1, 10, 5, 4, 0] [(25, iq (IntKind.i64.wrap ((y * W) + x)))] [] <| wI 25 ((y * W) + x) <| sT 0 [] 12 3 26 (Instr.indexAt 50 (.slice (pB r) n cap) (iq ((y * W) + x))) (.pointer (some ⟨r, Int.toNat ((y * W) + x), none⟩)) (fun w hT => rI 52 1 w) <| sT 0 [] 13 2 27 (Instr.loadAt 52 (.pointer (some ⟨r, Int.toNat ((y * W) + x), none⟩))) (cQ (px.getD (Int.toNat ((y * W) + x)) 0)) (fun w hT => rL (Rd.cell0 (hT 1 _ rfl) (Int.toNat ((y * W) + x)) _ (ivals_get (by omega)))) <| tD 0 [] [(14, 0), (15, 0)] 0 [15, 14, 13, 12, 11, 9, 8, 3, 7, 2, 6, 1, 10, 5, 4, 0] [(6, cQ (px.getD (Int.toNat ((y * W) + x)) 0)), (7, .bool true)] [] <| dD <| zNr <| rB rfl 0 0 (cQ (px.getD (Int.toNat ((y * W) + x)) 0)) (.bool true) fun w hT => ?_
 exact ⟨by simp [atC, *], hT.post rfl⟩
theorem imgNew (W H : Int) (w : World) (hgood : 1 ≤ W ∧ W ≤ 256 ∧ 1 ≤ H ∧ H ≤ 256) :
    Calls Tryz.prog 51 #[iQ W, iQ H] w fun e w' => ∃ (b r n : Nat), e = .returned (.tuple #[pT b, iQ 0]) ∧ (n : Int) = W * H ∧ NewImg 116 52 w w' b W H r n n (List.replicate n 0) := by
 have hm : W * H ≤ 256 * 256 := mul_le_of (by omega) (by omega) (by omega) (by omega)
 have hm0 : 0 ≤ W * H := Int.mul_nonneg (by omega) (by omega)
 obtain ⟨n, hn⟩ : ∃ n : Nat, (n : Int) = W * H := ⟨(W * H).toNat, by omega⟩
 refine eN [(0, iq W), (1, iq H)] Tryz.func51 Tryz.ntmps51 rfl (Tab.start w) ?_
 refine zSR 2 <| bD [0, 0] 2 0 [] [4, 5] <| zDNSSR 10 <| bD [0, 0, 0, 0, 0] 5 5 [(10, .bool (decide ((mn W H) < 1)))] [6, 7, 8, 9] <| sD 10 rfl (fun c1_ => ?_) fun c1_ => ?_
 ·
  exfalso; unfold mn at *; omega
 refine bD [0, 0, 0, 0, 0] 10 0 [(15, .bool (decide ((mx W H) > 256)))] [11, 12, 13, 14] <| zDN <| sD 15 rfl (fun c2_ => ?_) fun c2_ => ?_
 ·
  exfalso; unfold mx at *; omega
 refine zFKNSR 10 <| bS [0, 0, 0, 0, 0] 5 5 [(16, iq W), (17, iq H), (20, iq (IntKind.i64.wrap (W * H)))] <| rC 20 (iq (n : Int)) rfl (by rw [hn]; exact wrapI (by omega) (by omega)) <| pS 6 4 <| sSW 21 (Instr.makeSlice 50 (iq (n : Int)) (iq (n : Int))) (fun r3 => .slice (pB r3) n n) (fun r3 => [.gen (rowE (pB r3) r3 n n 52 1 (cV (List.replicate n 0)) true)]) (fun _ => True) (by kernel_rfl) (fun w hT => make_row hT (bytes := 4) n (by kernel_rfl) (by kernel_rfl) (by omega) (by omega)) (fun r3 _ => ?_)
 refine bW [0, 0, 0, 0] 10 0 (fun b4 => [(4, .pointer (pB b4)), (5, iq 0)]) (fun b4 => [.cells b4 [iq W, iq H, .slice (pB r3) n n] 116 true, .gen (rowE (pB r3) r3 n n 52 1 (cV (List.replicate n 0)) true)]) [4, 5] fun b4 => ?_
 refine zDNr <| rB rfl 0 0 (.pointer (pB b4)) (iq 0) fun w hT => ?_
 exact ⟨_, _, n, rfl, hn, newImg_of_tab hT⟩
theorem imgRow (m : Nat) (W H : Int) (r n cap : Nat) (px : List Int) (y x0 x1 : Int) (w : World) (hI : ImgR 116 w m W H r n cap px) (hok : ImgOk W H n px) (hin : 0 ≤ y ∧ y < H ∧ 0 ≤ x0 ∧ x0 ≤ x1 ∧ x1 ≤ W) :
    Calls Tryz.prog 106 #[pT m, iQ y, iQ x0, iQ x1] w fun e w' => e = .returned (.slice (sliceA r 0 (Int.toNat (y * W + x0)) cap 1) (Int.toNat (y * W + x1) - Int.toNat (y * W + x0)) (cap - Int.toNat (y * W + x0))) ∧ Below w.heap.size w w' := by
 have hw1 := hok.w1
 have hw2 := hok.w2
 have hh1 := hok.h1
 have hh2 := hok.h2
 have hnum := hok.num
 have hlen := hok.len
 have hle := hok.le
 have hcap := hI.cap
 have hp0 := hok.place (x := 0) (y := y) (by omega) (by omega) (by omega) (by omega)
 have hp1 := hok.place (x := W - 1) (y := y) (by omega) (by omega) (by omega) (by omega)
 refine enter 30 [(0, .pointer (pB m)), (1, iq y), (2, iq x0), (3, iq x1)] [.ro m [iq W, iq H, .slice (pB r) n cap] 116, rD (pB r) r 0 n 1 (cV px)] Tryz.func106 rfl Tryz.ntmps106 rfl (by kernel_rfl) hI.tab ?_
 refine zSR 1 <| bD [0] 1 0 [] [8] <| zDNS <| drawn_enter 22 [] rfl (by kernel_rfl) ?_
 refine tD 0 [] [(0, 0), (4, 0), (5, 0), (10, 0), (12, 0), (13, 0), (18, 0), (1, 0), (6, 0), (14, 0), (2, 0), (7, 0), (15, 0), (3, 0), (8, 0), (16, 0), (9, 0)] 5 [9, 16, 8, 3, 15, 7, 2, 14, 6, 1, 18, 13, 12, 10, 5, 4, 0] [(12, .slice (pB r) n cap), (18, iq (IntKind.i64.wrap (y * W))), (19, iq x0), (21, iq y), (25, iq W), (27, iq x1)] [9, 10, 11, 13, 14, 15, 16, 17, 22, 23, 24] <| wI 18 (y * W) <| tD 0 [] [(11, 0)] 4 [11, 9, 16, 8, 3, 15, 7, 2, 14, 6, 1, 18, 13, 12, 10, 5, 4, 0] [(20, iq (IntKind.i64.wrap ((y * W) + x0)))] [] <| wI 20 ((y * W) + x0) <| tD 0 [] [(17, 0)] 3 [17, 11, 9, 16, 8, 3, 15, 7, 2, 14, 6, 1, 18, 13, 12, 10, 5, 4, 0] [(26, iq (IntKind.i64.wrap (y * W)))] [] <| wI 26 (y * W) <| tD 0 [] [(19, 0)] 2 [19, 17, 11, 9, 16, 8, 3, 15, 7, 2, 14, 6, 1, 18, 13, 12, 10, 5, 4, 0] [(28, iq (IntKind.i64.wrap ((y * W) + x1)))] [] <| wI 28 ((y * W) + x1) <| sT 0 [] 20 1 29 (Instr.sliceAt 50 (.slice (pB r) n cap) (some (iq ((y * W) + x0))) (some (iq ((y * W) + x1))) none) (.slice (sliceA r 0 (Int.toNat ((y * W) + x0)) cap 1) ((Int.toNat ((y * W) + x1)) - (Int.toNat ((y * W) + x0))) (cap - (Int.toNat ((y * W) + x0)))) (fun w hT => run_slice2 (e := 52) (sz := 1) _ _ (by kernel_rfl) (by kernel_rfl) (by omega) (by omega) (by omega) (by omega) (by omega) w) <| tD 0 [] [(21, 0)] 0 [21, 20, 19, 17, 11, 9, 16, 8, 3, 15, 7, 2, 14, 6, 1, 18, 13, 12, 10, 5, 4, 0] [(8, .slice (sliceA r 0 (Int.toNat ((y * W) + x0)) cap 1) ((Int.toNat ((y * W) + x1)) - (Int.toNat ((y * W) + x0))) (cap - (Int.toNat ((y * W) + x0))))] [] <| dD <| zNr <| rA rfl 0 (.slice (sliceA r 0 (Int.toNat ((y * W) + x0)) cap 1) ((Int.toNat ((y * W) + x1)) - (Int.toNat ((y * W) + x0))) (cap - (Int.toNat ((y * W) + x0)))) fun w hT => ?_
 exact ⟨rfl, hT.post rfl⟩
theorem imgFill (m : Nat) (W H : Int) (r n cap : Nat) (px : List Int) (a b c d col : Int) (w : World) (hI : Img 116 52 w m W H r n cap px) (hok : ImgOk W H n px) (hc : InC col) :
    Calls Tryz.prog 86 #[pT m, .agg #[iQ a, iQ b, iQ c, iQ d], cQ col] w fun e w' => e = .returned (iQ (fillN W H a b c d col)) ∧ KeepBut w w' r ∧ Row w' (some ⟨r, 0, none⟩) r n cap 52 1 (cV (fillA W H px a b c d col)) := by
 have hw1 := hok.w1
 have hw2 := hok.w2
 have hh1 := hok.h1
 have hh2 := hok.h2
 have hnum := hok.num
 have hlen := hok.len
 have hle := hok.le
 have hcap := hI.row.capLe
 obtain ⟨hc0, hc1⟩ := hc
 obtain ⟨hq1, hq2, hq3, hq4, hq5, hq6⟩ := cut_in a b c d (W := W) (H := H) (by omega) (by omega)
 refine enter 44 [(0, .pointer (pB m)), (1, .agg #[iq a, iq b, iq c, iq d]), (2, cQ col)] [.ro m [iq W, iq H, .slice (pB r) n cap] 116, .gen (rowE (pB r) r n cap 52 1 (cV px) false)] Tryz.func86 rfl Tryz.ntmps86 rfl (by kernel_rfl) hI.tabRw ?_
 refine zSR 2 <| bW [0, 0] 2 0 (fun b1 => [(0, .pointer (pB m)), (2, cQ col), (4, .pointer (pB b1))]) (fun b1 => [.cells b1 [iq a, iq b, iq c, iq d] 32 true, .ro m [iq W, iq H, .slice (pB r) n cap] 116, .gen (rowE (pB r) r n cap 52 1 (cV px) false)]) [0, 2, 4] fun b1 => ?_
 refine zDNSSR 3 <| bD [0] 1 2 [(10, cQ col)] [] <| pS 2 1 <| cP 11 (.bool (mayB col)) (fun w hT => colorMay col w (by omega) (by omega)) <| bD [0] 3 0 [(12, .bool (!(mayB col)))] [] <| zDN <| cSp 12 _ rfl (fun c2_ => ?_) fun c2_ => ?_
 ·
  replace c2_ : (mayB col) = false := by simpa using c2_
  refine zTSR 1 <| bS [0] 1 0 [(6, iq 0)] <| fG 0 <| zDNrt <| rA rfl 0 (iq 0) fun w hT => ?_
  refine ⟨by simp [fillN, *], hT.keep 1 rfl rfl, ?_⟩
  have hR := hT.ok 1 _ rfl
  rw [fillA, if_neg (by simp [*])]
  exact hR
 replace c2_ : (mayB col) = true := by simpa using c2_
 refine cFa rfl <| cont_skip <| zN <| cSq <| drawn_enter 5 [0] rfl (by kernel_rfl) ?_
 refine tD 0 [0] [(1, 0)] 4 [1] [(14, .pointer (pB m))] [] <| drawn_two 0 2 3 rfl (by kernel_rfl) ?_ ?_
 ·
  refine oS 0 [(0, .pointer (pB m)), (2, cQ col), (4, .pointer (pB b1)), (13, .agg #[iq a, iq b, iq c, iq d]), (14, .pointer (pB m))] [.cells b1 [iq a, iq b, iq c, iq d] 32 true, .ro m [iq W, iq H, .slice (pB r) n cap] 116, .gen (rowE (pB r) r n cap 52 1 (cV px) false)] <| dX 0 [0] <| dO 2 2 <| cP 15 (.agg #[iq 0, iq 0, iq W, iq H]) (fun w hT => imgBox m W H r n cap px  w ⟨hT.ok 1 _ rfl, Row.rd (hT.ok 2 _ rfl), Row.capLe (hT.ok 2 _ rfl)⟩ hok) <| dX 0 [0] <| dO 3 1 <| cP 16 (.agg #[iq ((cutR a b c d 0 0 W H).x0), iq ((cutR a b c d 0 0 W H).y0), iq ((cutR a b c d 0 0 W H).x1), iq ((cutR a b c d 0 0 W H).y1)]) (fun w hT => rectCut a b c d 0 0 W H w) <| dX 0 [0] <| dO 4 0 <| oS 0 [(0, .pointer (pB m)), (2, cQ col), (4, .pointer (pB b1))] [.cells b1 [iq ((cutR a b c d 0 0 W H).x0), iq ((cutR a b c d 0 0 W H).y0), iq ((cutR a b c d 0 0 W H).x1), iq ((cutR a b c d 0 0 W H).y1)] 32 true, .ro m [iq W, iq H, .slice (pB r) n cap] 116, .gen (rowE (pB r) r n cap 52 1 (cV px) false)] <| dX 0 [0] <| dD <| zN <| zSSR 3 <| bD [0, 0, 0] 3 0 [(7, iq ((cutR a b c d 0 0 W H).y0))] [17, 18] <| zDNB <| cont_rowEq (k := .u32) 2 (px) (fillP W px (cutR a b c d 0 0 W H).x0 (cutR a b c d 0 0 W H).y0 (cutR a b c d 0 0 W H).x1 (cutR a b c d 0 0 W H).y0 col) rfl ((fillP_none W px _ _ _ _ col (.inr (by omega))).symm) ?_
  refine cL (α := Int) (fun x_ : Int => (cutR a b c d 0 0 W H).y0 ≤ x_ ∧ x_ ≤ (cutR a b c d 0 0 W H).y1) (fun x_ : Int => [(0, .pointer (pB m)), (2, cQ col), (4, .pointer (pB b1)), (7, iq x_)]) (fun x_ : Int => [.cells b1 [iq ((cutR a b c d 0 0 W H).x0), iq ((cutR a b c d 0 0 W H).y0), iq ((cutR a b c d 0 0 W H).x1), iq ((cutR a b c d 0 0 W H).y1)] 32 true, .ro m [iq W, iq H, .slice (pB r) n cap] 116, .gen (rowE (pB r) r n cap 52 1 (cV (fillP W px (cutR a b c d 0 0 W H).x0 (cutR a b c d 0 0 W H).y0 (cutR a b c d 0 0 W H).x1 x_ col)) false)]) (fun x_ : Int => ((cutR a b c d 0 0 W H).y1 - x_).toNat) ((cutR a b c d 0 0 W H).y0) (⟨by omega, by omega⟩) ?_
  rintro y hinv3_
  replace hinv3_ : (cutR a b c d 0 0 W H).y0 ≤ y ∧ y ≤ (cutR a b c d 0 0 W H).y1 := hinv3_
  obtain ⟨hy0, hy1⟩ := hinv3_
  refine zSSR 4 <| bD [0, 0, 0, 0] 4 0 [(22, .bool (decide (y < ((cutR a b c d 0 0 W H).y1))))] [19, 20, 21] <| zDN <| sD 22 rfl (fun c4_ => ?_) fun c4_ => ?_
  ·
   refine zTKNSBSR 8 ?_
   have hp0 := hok.place (x := 0) (y := y) (by omega) (by omega) (by omega) (by omega)
   have hp1 := hok.place (x := W - 1) (y := y) (by omega) (by omega) (by omega) (by omega)
   refine bD [0, 0, 0, 0, 0, 0] 6 2 [(25, .pointer (pB m)), (26, iq y), (28, iq ((cutR a b c d 0 0 W H).x0)), (30, iq ((cutR a b c d 0 0 W H).x1))] [27, 29] <| pS 7 1 <| cP 31 (.slice (sliceA r 0 (Int.toNat (y * W + ((cutR a b c d 0 0 W H).x0))) cap 1) (Int.toNat (y * W + ((cutR a b c d 0 0 W H).x1)) - Int.toNat (y * W + ((cutR a b c d 0 0 W H).x0))) (cap - Int.toNat (y * W + ((cutR a b c d 0 0 W H).x0)))) (fun w hT => imgRow m W H r n cap (fillP W px (cutR a b c d 0 0 W H).x0 (cutR a b c d 0 0 W H).y0 (cutR a b c d 0 0 W H).x1 y col) y ((cutR a b c d 0 0 W H).x0) ((cutR a b c d 0 0 W H).x1) w ⟨hT.ok 1 _ rfl, Row.rd (hT.ok 2 _ rfl), Row.capLe (hT.ok 2 _ rfl)⟩ (hok.fill _ _ _ _ ⟨hc0, hc1⟩) (by omega)) <| bD [0] 8 0 [(8, .slice (sliceA r 0 (Int.toNat (y * W + ((cutR a b c d 0 0 W H).x0))) cap 1) (Int.toNat (y * W + ((cutR a b c d 0 0 W H).x1)) - Int.toNat (y * W + ((cutR a b c d 0 0 W H).x0))) (cap - Int.toNat (y * W + ((cutR a b c d 0 0 W H).x0))))] [] <| zDNSR 3 <| bD [0, 0, 0] 3 0 [(33, iq (((Int.toNat (y * W + ((cutR a b c d 0 0 W H).x1)) - Int.toNat (y * W + ((cutR a b c d 0 0 W H).x0))) : Nat) : Int)), (34, iq 0)] [32] <| zDNB <| cont_rowEq (k := .u32) 2 (fillP W px (cutR a b c d 0 0 W H).x0 (cutR a b c d 0 0 W H).y0 (cutR a b c d 0 0 W H).x1 y col) (fillP W (fillP W px (cutR a b c d 0 0 W H).x0 (cutR a b c d 0 0 W H).y0 (cutR a b c d 0 0 W H).x1 y col) (cutR a b c d 0 0 W H).x0 y ((cutR a b c d 0 0 W H).x0 + ((0 : Nat) : Int)) (y + 1) col) rfl ((fillP_none W _ _ _ _ _ col (.inl (by omega))).symm) ?_
   refine cL (α := Nat) (fun x_ : Nat => x_ ≤ Int.toNat ((cutR a b c d 0 0 W H).x1 - (cutR a b c d 0 0 W H).x0)) (fun x_ : Nat => [(0, .pointer (pB m)), (2, cQ col), (4, .pointer (pB b1)), (7, iq y), (8, .slice (sliceA r 0 (Int.toNat (y * W + ((cutR a b c d 0 0 W H).x0))) cap 1) (Int.toNat (y * W + ((cutR a b c d 0 0 W H).x1)) - Int.toNat (y * W + ((cutR a b c d 0 0 W H).x0))) (cap - Int.toNat (y * W + ((cutR a b c d 0 0 W H).x0)))), (33, iq (((Int.toNat (y * W + ((cutR a b c d 0 0 W H).x1)) - Int.toNat (y * W + ((cutR a b c d 0 0 W H).x0))) : Nat) : Int)), (34, iq (x_ : Int))]) (fun x_ : Nat => [.cells b1 [iq ((cutR a b c d 0 0 W H).x0), iq ((cutR a b c d 0 0 W H).y0), iq ((cutR a b c d 0 0 W H).x1), iq ((cutR a b c d 0 0 W H).y1)] 32 true, .ro m [iq W, iq H, .slice (pB r) n cap] 116, .gen (rowE (pB r) r n cap 52 1 (cV (fillP W (fillP W px (cutR a b c d 0 0 W H).x0 (cutR a b c d 0 0 W H).y0 (cutR a b c d 0 0 W H).x1 y col) (cutR a b c d 0 0 W H).x0 y ((cutR a b c d 0 0 W H).x0 + (x_ : Int)) (y + 1) col)) false)]) (fun x_ : Nat => Int.toNat ((cutR a b c d 0 0 W H).x1 - (cutR a b c d 0 0 W H).x0) - x_) 0 (by omega) ?_
   rintro i hinv5_
   replace hinv5_ : i ≤ Int.toNat ((cutR a b c d 0 0 W H).x1 - (cutR a b c d 0 0 W H).x0) := hinv5_
   refine zSR 1 <| bD [0] 1 0 [(35, .bool (decide ((i : Int) < (((Int.toNat (y * W + ((cutR a b c d 0 0 W H).x1)) - Int.toNat (y * W + ((cutR a b c d 0 0 W H).x0))) : Nat) : Int))))] [] <| zDNS <| sD 35 rfl (fun c6_ => ?_) fun c6_ => ?_
   ·
    refine zTKNSBSR 2 <| bD [0, 0] 2 0 [(9, iq (i : Int))] [36] <| zDNR 5 <| bD [0, 0, 0] 3 2 [(37, .slice (sliceA r 0 (Int.toNat (y * W + ((cutR a b c d 0 0 W H).x0))) cap 1) (Int.toNat (y * W + ((cutR a b c d 0 0 W H).x1)) - Int.toNat (y * W + ((cutR a b c d 0 0 W H).x0))) (cap - Int.toNat (y * W + ((cutR a b c d 0 0 W H).x0)))), (38, iq (i : Int)), (39, cQ col)] [] <| pS 4 1 <| rC 37 (.slice (some ⟨r, 0 + (Int.toNat (y * W + ((cutR a b c d 0 0 W H).x0))) * 1, none⟩) (Int.toNat (y * W + ((cutR a b c d 0 0 W H).x1)) - Int.toNat (y * W + ((cutR a b c d 0 0 W H).x0))) (cap - Int.toNat (y * W + ((cutR a b c d 0 0 W H).x0)))) rfl (by rw [sliceA_pos (by omega)]) <| sS 40 (Instr.indexAt 50 (.slice (some ⟨r, 0 + (Int.toNat (y * W + ((cutR a b c d 0 0 W H).x0))) * 1, none⟩) (Int.toNat (y * W + ((cutR a b c d 0 0 W H).x1)) - Int.toNat (y * W + ((cutR a b c d 0 0 W H).x0))) (cap - Int.toNat (y * W + ((cutR a b c d 0 0 W H).x0)))) (iq (i : Int))) (.pointer (some ⟨r, 0 + (Int.toNat (y * W + ((cutR a b c d 0 0 W H).x0))) * 1 + i, none⟩)) (fun w hT => rI 52 1 w) <| pS 5 0 <| sem_stepU (Instr.storeAt 52 (.pointer (some ⟨r, 0 + (Int.toNat (y * W + ((cutR a b c d 0 0 W H).x0))) * 1 + i, none⟩)) (cQ col)) (fun _ => [.cells b1 [iq ((cutR a b c d 0 0 W H).x0), iq ((cutR a b c d 0 0 W H).y0), iq ((cutR a b c d 0 0 W H).x1), iq ((cutR a b c d 0 0 W H).y1)] 32 true, .ro m [iq W, iq H, .slice (pB r) n cap] 116, .gen (rowE (pB r) r n cap 52 1 (cV ((fillP W (fillP W px (cutR a b c d 0 0 W H).x0 (cutR a b c d 0 0 W H).y0 (cutR a b c d 0 0 W H).x1 y col) (cutR a b c d 0 0 W H).x0 y ((cutR a b c d 0 0 W H).x0 + (i : Int)) (y + 1) col).set (0 + (Int.toNat (y * W + ((cutR a b c d 0 0 W H).x0))) * 1 + i) col)) false)]) (fun _ => True) (by kernel_rfl) (fun w hT => store_row hT (i := 2) rfl (by kernel_rfl) (by simp only [fillP_length]; omega)) (fun _ _ => ?_)
    refine zDbNR 2 <| bD [0] 1 1 [(41, iq (IntKind.i64.wrap ((i : Int) + 1)))] [] <| wI 41 ((i : Int) + 1) <| bD [0] 2 0 [(34, iq ((i : Int) + 1))] [] <| zDN <| cont_rowEq (k := .u32) 2 ((fillP W (fillP W px (cutR a b c d 0 0 W H).x0 (cutR a b c d 0 0 W H).y0 (cutR a b c d 0 0 W H).x1 y col) (cutR a b c d 0 0 W H).x0 y ((cutR a b c d 0 0 W H).x0 + (i : Int)) (y + 1) col).set (0 + (Int.toNat (y * W + ((cutR a b c d 0 0 W H).x0))) * 1 + i) col) (fillP W (fillP W px (cutR a b c d 0 0 W H).x0 (cutR a b c d 0 0 W H).y0 (cutR a b c d 0 0 W H).x1 y col) (cutR a b c d 0 0 W H).x0 y ((cutR a b c d 0 0 W H).x0 + ((i + 1 : Nat) : Int)) (y + 1) col) rfl (by rw [fillP_set W _ _ y ((cutR a b c d 0 0 W H).x0 + (i : Int)) col (by omega) (by omega) (by omega) (by omega) (by omega) _ (by omega)]; congr 1; omega) ?_
    refine cA (i + 1) (show (i + 1) ≤ Int.toNat ((cutR a b c d 0 0 W H).x1 - (cutR a b c d 0 0 W H).x0) from (by omega))
   refine cFa rfl <| cont_exit <| then_exit <| then_exit <| blk_exit <| zbNR 3 <| bD [0, 0] 2 1 [(24, iq (IntKind.i64.wrap (y + 1)))] [23] <| wI 24 (y + 1) <| bD [0] 3 0 [(7, iq (y + 1))] [] <| zDN <| cont_rowEq (k := .u32) 2 (fillP W (fillP W px (cutR a b c d 0 0 W H).x0 (cutR a b c d 0 0 W H).y0 (cutR a b c d 0 0 W H).x1 y col) (cutR a b c d 0 0 W H).x0 y ((cutR a b c d 0 0 W H).x0 + (i : Int)) (y + 1) col) (fillP W px (cutR a b c d 0 0 W H).x0 (cutR a b c d 0 0 W H).y0 (cutR a b c d 0 0 W H).x1 (y + 1) col) rfl (by rw [show (cutR a b c d 0 0 W H).x0 + (i : Int) = (cutR a b c d 0 0 W H).x1 by omega]; exact fillP_row W px (cutR a b c d 0 0 W H).x0 (cutR a b c d 0 0 W H).y0 (cutR a b c d 0 0 W H).x1 y col (by omega)) ?_
   refine cA (y + 1) (show (cutR a b c d 0 0 W H).y0 ≤ (y + 1) ∧ (y + 1) ≤ (cutR a b c d 0 0 W H).y1 from ⟨by omega, by omega⟩)
  refine zFXxxeNSR 3 <| bS [0] 1 2 [(42, .agg #[iq ((cutR a b c d 0 0 W H).x0), iq ((cutR a b c d 0 0 W H).y0), iq ((cutR a b c d 0 0 W H).x1), iq ((cutR a b c d 0 0 W H).y1)])] <| fG 0 <| pS 2 1 <| cP 43 (iq (areaI ((cutR a b c d 0 0 W H).x0) ((cutR a b c d 0 0 W H).y0) ((cutR a b c d 0 0 W H).x1) ((cutR a b c d 0 0 W H).y1))) (fun w hT => rectArea ((cutR a b c d 0 0 W H).x0) ((cutR a b c d 0 0 W H).y0) ((cutR a b c d 0 0 W H).x1) ((cutR a b c d 0 0 W H).y1) w (by omega) (by omega) (by omega) (by omega)) <| bS [0] 3 0 [(6, iq (areaI ((cutR a b c d 0 0 W H).x0) ((cutR a b c d 0 0 W H).y0) ((cutR a b c d 0 0 W H).x1) ((cutR a b c d 0 0 W H).y1)))] <| zDNr <| rA rfl 0 (iq (areaI ((cutR a b c d 0 0 W H).x0) ((cutR a b c d 0 0 W H).y0) ((cutR a b c d 0 0 W H).x1) ((cutR a b c d 0 0 W H).y1))) fun w hT => ?_
  refine ⟨by simp [fillN, *], hT.keep 1 rfl rfl, ?_⟩
  have hR := hT.ok 1 _ rfl
  rw [show y = (cutR a b c d 0 0 W H).y1 by omega] at hR
  rw [fillA, if_pos ‹mayB col = true›]
  exact hR
 refine cP 15 (.agg #[iq 0, iq 0, iq W, iq H]) (fun w hT => imgBox m W H r n cap px  w ⟨hT.ok 1 _ rfl, Row.rd (hT.ok 2 _ rfl), Row.capLe (hT.ok 2 _ rfl)⟩ hok) <| dX 0 [0] <| dO 0 2 <| oS 0 [(0, .pointer (pB m)), (2, cQ col), (4, .pointer (pB b1)), (13, .agg #[iq a, iq b, iq c, iq d]), (15, .agg #[iq 0, iq 0, iq W, iq H])] [.cells b1 [iq a, iq b, iq c, iq d] 32 true, .ro m [iq W, iq H, .slice (pB r) n cap] 116, .gen (rowE (pB r) r n cap 52 1 (cV px) false)] <| dX 0 [0] <| dO 3 1 <| cP 16 (.agg #[iq ((cutR a b c d 0 0 W H).x0), iq ((cutR a b c d 0 0 W H).y0), iq ((cutR a b c d 0 0 W H).x1), iq ((cutR a b c d 0 0 W H).y1)]) (fun w hT => rectCut a b c d 0 0 W H w) <| dX 0 [0] <| dO 4 0 <| oS 0 [(0, .pointer (pB m)), (2, cQ col), (4, .pointer (pB b1))] [.cells b1 [iq ((cutR a b c d 0 0 W H).x0), iq ((cutR a b c d 0 0 W H).y0), iq ((cutR a b c d 0 0 W H).x1), iq ((cutR a b c d 0 0 W H).y1)] 32 true, .ro m [iq W, iq H, .slice (pB r) n cap] 116, .gen (rowE (pB r) r n cap 52 1 (cV px) false)] <| dX 0 [0] <| dD <| zN <| zSSR 3 <| bD [0, 0, 0] 3 0 [(7, iq ((cutR a b c d 0 0 W H).y0))] [17, 18] <| zDNB <| cont_rowEq (k := .u32) 2 (px) (fillP W px (cutR a b c d 0 0 W H).x0 (cutR a b c d 0 0 W H).y0 (cutR a b c d 0 0 W H).x1 (cutR a b c d 0 0 W H).y0 col) rfl ((fillP_none W px _ _ _ _ col (.inr (by omega))).symm) ?_
 refine cL (α := Int) (fun x_ : Int => (cutR a b c d 0 0 W H).y0 ≤ x_ ∧ x_ ≤ (cutR a b c d 0 0 W H).y1) (fun x_ : Int => [(0, .pointer (pB m)), (2, cQ col), (4, .pointer (pB b1)), (7, iq x_)]) (fun x_ : Int => [.cells b1 [iq ((cutR a b c d 0 0 W H).x0), iq ((cutR a b c d 0 0 W H).y0), iq ((cutR a b c d 0 0 W H).x1), iq ((cutR a b c d 0 0 W H).y1)] 32 true, .ro m [iq W, iq H, .slice (pB r) n cap] 116, .gen (rowE (pB r) r n cap 52 1 (cV (fillP W px (cutR a b c d 0 0 W H).x0 (cutR a b c d 0 0 W H).y0 (cutR a b c d 0 0 W H).x1 x_ col)) false)]) (fun x_ : Int => ((cutR a b c d 0 0 W H).y1 - x_).toNat) ((cutR a b c d 0 0 W H).y0) (⟨by omega, by omega⟩) ?_
 rintro y hinv7_
 replace hinv7_ : (cutR a b c d 0 0 W H).y0 ≤ y ∧ y ≤ (cutR a b c d 0 0 W H).y1 := hinv7_
 obtain ⟨hy0, hy1⟩ := hinv7_
 refine zSSR 4 <| bD [0, 0, 0, 0] 4 0 [(22, .bool (decide (y < ((cutR a b c d 0 0 W H).y1))))] [19, 20, 21] <| zDN <| sD 22 rfl (fun c8_ => ?_) fun c8_ => ?_
 ·
  refine zTKNSBSR 8 ?_
  have hp0 := hok.place (x := 0) (y := y) (by omega) (by omega) (by omega) (by omega)
  have hp1 := hok.place (x := W - 1) (y := y) (by omega) (by omega) (by omega) (by omega)
  refine bD [0, 0, 0, 0, 0, 0] 6 2 [(25, .pointer (pB m)), (26, iq y), (28, iq ((cutR a b c d 0 0 W H).x0)), (30, iq ((cutR a b c d 0 0 W H).x1))] [27, 29] <| pS 7 1 <| cP 31 (.slice (sliceA r 0 (Int.toNat (y * W + ((cutR a b c d 0 0 W H).x0))) cap 1) (Int.toNat (y * W + ((cutR a b c d 0 0 W H).x1)) - Int.toNat (y * W + ((cutR a b c d 0 0 W H).x0))) (cap - Int.toNat (y * W + ((cutR a b c d 0 0 W H).x0)))) (fun w hT => imgRow m W H r n cap (fillP W px (cutR a b c d 0 0 W H).x0 (cutR a b c d 0 0 W H).y0 (cutR a b c d 0 0 W H).x1 y col) y ((cutR a b c d 0 0 W H).x0) ((cutR a b c d 0 0 W H).x1) w ⟨hT.ok 1 _ rfl, Row.rd (hT.ok 2 _ rfl), Row.capLe (hT.ok 2 _ rfl)⟩ (hok.fill _ _ _ _ ⟨hc0, hc1⟩) (by omega)) <| bD [0] 8 0 [(8, .slice (sliceA r 0 (Int.toNat (y * W + ((cutR a b c d 0 0 W H).x0))) cap 1) (Int.toNat (y * W + ((cutR a b c d 0 0 W H).x1)) - Int.toNat (y * W + ((cutR a b c d 0 0 W H).x0))) (cap - Int.toNat (y * W + ((cutR a b c d 0 0 W H).x0))))] [] <| zDNSR 3 <| bD [0, 0, 0] 3 0 [(33, iq (((Int.toNat (y * W + ((cutR a b c d 0 0 W H).x1)) - Int.toNat (y * W + ((cutR a b c d 0 0 W H).x0))) : Nat) : Int)), (34, iq 0)] [32] <| zDNB <| cont_rowEq (k := .u32) 2 (fillP W px (cutR a b c d 0 0 W H).x0 (cutR a b c d 0 0 W H).y0 (cutR a b c d 0 0 W H).x1 y col) (fillP W (fillP W px (cutR a b c d 0 0 W H).x0 (cutR a b c d 0 0 W H).y0 (cutR a b c d 0 0 W H).x1 y col) (cutR a b c d 0 0 W H).x0 y ((cutR a b c d 0 0 W H).x0 + ((0 : Nat) : Int)) (y + 1) col) rfl ((fillP_none W _ _ _ _ _ col (.inl (by omega))).symm) ?_
  refine cL (α := Nat) (fun x_ : Nat => x_ ≤ Int.toNat ((cutR a b c d 0 0 W H).x1 - (cutR a b c d 0 0 W H).x0)) (fun x_ : Nat => [(0, .pointer (pB m)), (2, cQ col), (4, .pointer (pB b1)), (7, iq y), (8, .slice (sliceA r 0 (Int.toNat (y * W + ((cutR a b c d 0 0 W H).x0))) cap 1) (Int.toNat (y * W + ((cutR a b c d 0 0 W H).x1)) - Int.toNat (y * W + ((cutR a b c d 0 0 W H).x0))) (cap - Int.toNat (y * W + ((cutR a b c d 0 0 W H).x0)))), (33, iq (((Int.toNat (y * W + ((cutR a b c d 0 0 W H).x1)) - Int.toNat (y * W + ((cutR a b c d 0 0 W H).x0))) : Nat) : Int)), (34, iq (x_ : Int))]) (fun x_ : Nat => [.cells b1 [iq ((cutR a b c d 0 0 W H).x0), iq ((cutR a b c d 0 0 W H).y0), iq ((cutR a b c d 0 0 W H).x1), iq ((cutR a b c d 0 0 W H).y1)] 32 true, .ro m [iq W, iq H, .slice (pB r) n cap] 116, .gen (rowE (pB r) r n cap 52 1 (cV (fillP W (fillP W px (cutR a b c d 0 0 W H).x0 (cutR a b c d 0 0 W H).y0 (cutR a b c d 0 0 W H).x1 y col) (cutR a b c d 0 0 W H).x0 y ((cutR a b c d 0 0 W H).x0 + (x_ : Int)) (y + 1) col)) false)]) (fun x_ : Nat => Int.toNat ((cutR a b c d 0 0 W H).x1 - (cutR a b c d 0 0 W H).x0) - x_) 0 (by omega) ?_
  rintro i hinv9_
  replace hinv9_ : i ≤ Int.toNat ((cutR a b c d 0 0 W H).x1 - (cutR a b c d 0 0 W H).x0) := hinv9_
  refine zSR 1 <| bD [0] 1 0 [(35, .bool (decide ((i : Int) < (((Int.toNat (y * W + ((cutR a b c d 0 0 W H).x1)) - Int.toNat (y * W + ((cutR a b c d 0 0 W H).x0))) : Nat) : Int))))] [] <| zDNS <| sD 35 rfl (fun c10_ => ?_) fun c10_ => ?_
  ·
   refine zTKNSBSR 2 <| bD [0, 0] 2 0 [(9, iq (i : Int))] [36] <| zDNR 5 <| bD [0, 0, 0] 3 2 [(37, .slice (sliceA r 0 (Int.toNat (y * W + ((cutR a b c d 0 0 W H).x0))) cap 1) (Int.toNat (y * W + ((cutR a b c d 0 0 W H).x1)) - Int.toNat (y * W + ((cutR a b c d 0 0 W H).x0))) (cap - Int.toNat (y * W + ((cutR a b c d 0 0 W H).x0)))), (38, iq (i : Int)), (39, cQ col)] [] <| pS 4 1 <| rC 37 (.slice (some ⟨r, 0 + (Int.toNat (y * W + ((cutR a b c d 0 0 W H).x0))) * 1, none⟩) (Int.toNat (y * W + ((cutR a b c d 0 0 W H).x1)) - Int.toNat (y * W + ((cutR a b c d 0 0 W H).x0))) (cap - Int.toNat (y * W + ((cutR a b c d 0 0 W H).x0)))) rfl (by rw [sliceA_pos (by omega)]) <| sS 40 (Instr.indexAt 50 (.slice (some ⟨r, 0 + (Int.toNat (y * W + ((cutR a b c d 0 0 W H).x0))) * 1, none⟩) (Int.toNat (y * W + ((cutR a b c d 0 0 W H).x1)) - Int.toNat (y * W + ((cutR a b c d 0 0 W H).x0))) (cap - Int.toNat (y * W + ((cutR a b c d 0 0 W H).x0)))) (iq (i : Int))) (.pointer (some ⟨r, 0 + (Int.toNat (y * W + ((cutR a b c d 0 0 W H).x0))) * 1 + i, none⟩)) (fun w hT => rI 52 1 w) <| pS 5 0 <| sem_stepU (Instr.storeAt 52 (.pointer (some ⟨r, 0 + (Int.toNat (y * W + ((cutR a b c d 0 0 W H).x0))) * 1 + i, none⟩)) (cQ col)) (fun _ => [.cells b1 [iq ((cutR a b c d 0 0 W H).x0), iq ((cutR a b c d 0 0 W H).y0), iq ((cutR a b c d 0 0 W H).x1), iq ((cutR a b c d 0 0 W H).y1)] 32 true, .ro m [iq W, iq H, .slice (pB r) n cap] 116, .gen (rowE (pB r) r n cap 52 1 (cV ((fillP W (fillP W px (cutR a b c d 0 0 W H).x0 (cutR a b c d 0 0 W H).y0 (cutR a b c d 0 0 W H).x1 y col) (cutR a b c d 0 0 W H).x0 y ((cutR a b c d 0 0 W H).x0 + (i : Int)) (y + 1) col).set (0 + (Int.toNat (y * W + ((cutR a b c d 0 0 W H).x0))) * 1 + i) col)) false)]) (fun _ => True) (by kernel_rfl) (fun w hT => store_row hT (i := 2) rfl (by kernel_rfl) (by simp only [fillP_length]; omega)) (fun _ _ => ?_)
   refine zDbNR 2 <| bD [0] 1 1 [(41, iq (IntKind.i64.wrap ((i : Int) + 1)))] [] <| wI 41 ((i : Int) + 1) <| bD [0] 2 0 [(34, iq ((i : Int) + 1))] [] <| zDN <| cont_rowEq (k := .u32) 2 ((fillP W (fillP W px (cutR a b c d 0 0 W H).x0 (cutR a b c d 0 0 W H).y0 (cutR a b c d 0 0 W H).x1 y col) (cutR a b c d 0 0 W H).x0 y ((cutR a b c d 0 0 W H).x0 + (i : Int)) (y + 1) col).set (0 + (Int.toNat (y * W + ((cutR a b c d 0 0 W H).x0))) * 1 + i) col) (fillP W (fillP W px (cutR a b c d 0 0 W H).x0 (cutR a b c d 0 0 W H).y0 (cutR a b c d 0 0 W H).x1 y col) (cutR a b c d 0 0 W H).x0 y ((cutR a b c d 0 0 W H).x0 + ((i + 1 : Nat) : Int)) (y + 1) col) rfl (by rw [fillP_set W _ _ y ((cutR a b c d 0 0 W H).x0 + (i : Int)) col (by omega) (by omega) (by omega) (by omega) (by omega) _ (by omega)]; congr 1; omega) ?_
   refine cA (i + 1) (show (i + 1) ≤ Int.toNat ((cutR a b c d 0 0 W H).x1 - (cutR a b c d 0 0 W H).x0) from (by omega))
  refine cFa rfl <| cont_exit <| then_exit <| then_exit <| blk_exit <| zbNR 3 <| bD [0, 0] 2 1 [(24, iq (IntKind.i64.wrap (y + 1)))] [23] <| wI 24 (y + 1) <| bD [0] 3 0 [(7, iq (y + 1))] [] <| zDN <| cont_rowEq (k := .u32) 2 (fillP W (fillP W px (cutR a b c d 0 0 W H).x0 (cutR a b c d 0 0 W H).y0 (cutR a b c d 0 0 W H).x1 y col) (cutR a b c d 0 0 W H).x0 y ((cutR a b c d 0 0 W H).x0 + (i : Int)) (y + 1) col) (fillP W px (cutR a b c d 0 0 W H).x0 (cutR a b c d 0 0 W H).y0 (cutR a b c d 0 0 W H).x1 (y + 1) col) rfl (by rw [show (cutR a b c d 0 0 W H).x0 + (i : Int) = (cutR a b c d 0 0 W H).x1 by omega]; exact fillP_row W px (cutR a b c d 0 0 W H).x0 (cutR a b c d 0 0 W H).y0 (cutR a b c d 0 0 W H).x1 y col (by omega)) ?_
  refine cA (y + 1) (show (cutR a b c d 0 0 W H).y0 ≤ (y + 1) ∧ (y + 1) ≤ (cutR a b c d 0 0 W H).y1 from ⟨by omega, by omega⟩)
 refine zFXxxeNSR 3 <| bS [0] 1 2 [(42, .agg #[iq ((cutR a b c d 0 0 W H).x0), iq ((cutR a b c d 0 0 W H).y0), iq ((cutR a b c d 0 0 W H).x1), iq ((cutR a b c d 0 0 W H).y1)])] <| fG 0 <| pS 2 1 <| cP 43 (iq (areaI ((cutR a b c d 0 0 W H).x0) ((cutR a b c d 0 0 W H).y0) ((cutR a b c d 0 0 W H).x1) ((cutR a b c d 0 0 W H).y1))) (fun w hT => rectArea ((cutR a b c d 0 0 W H).x0) ((cutR a b c d 0 0 W H).y0) ((cutR a b c d 0 0 W H).x1) ((cutR a b c d 0 0 W H).y1) w (by omega) (by omega) (by omega) (by omega)) <| bS [0] 3 0 [(6, iq (areaI ((cutR a b c d 0 0 W H).x0) ((cutR a b c d 0 0 W H).y0) ((cutR a b c d 0 0 W H).x1) ((cutR a b c d 0 0 W H).y1)))] <| zDNr <| rA rfl 0 (iq (areaI ((cutR a b c d 0 0 W H).x0) ((cutR a b c d 0 0 W H).y0) ((cutR a b c d 0 0 W H).x1) ((cutR a b c d 0 0 W H).y1))) fun w hT => ?_
 refine ⟨by simp [fillN, *], hT.keep 1 rfl rfl, ?_⟩
 have hR := hT.ok 1 _ rfl
 rw [show y = (cutR a b c d 0 0 W H).y1 by omega] at hR
 rw [fillA, if_pos ‹mayB col = true›]
 exact hR
end Go.Proofs.YtlfahohbkgdabaaGreat
namespace Go.Proofs.YtlfahohbkgdabaaGreat
open Go Go.RowKit
section
variable {P : Program}
end
end Go.Proofs.YtlfahohbkgdabaaGreat
namespace Go.Proofs.YtlfahohbkgdabaaGreat
open Go Go.RowKit
structure Vw (e e0 : Ent) : Prop where
  ok : ∀ w, e.ok w → e0.ok w
  blk : ∀ w, e.ok w → ∀ k, e0.blk k → e.blk k
  wr : e0.wr = true → e.wr = true
  own : e0.own = false
structure Mg (e e1 e' : Ent) : Prop where
  ok : ∀ w, e1.ok w → e'.ok w
  blk1 : ∀ k, e1.blk k → e'.blk k
  blk2 : ∀ k, e'.blk k ↔ e.blk k
  own : e'.own = true → e.own = true
  wr : e1.wr = true ∧ e'.wr = true ∧ e.wr = true
inductive VwL (T : List Ent) : List Nat → List Ent → Prop
  | nil : VwL T [] []
  | cons {i : Nat} {s : List Nat} {e e0 : Ent} {T0 : List Ent} : T[i]? = some e → Vw e e0 → VwL T s T0 → VwL T (i :: s) (e0 :: T0)
theorem VwL.get {T : List Ent} {s : List Nat} {T0 : List Ent} (h : VwL T s T0) : ∀ (j : Nat) (e0 : Ent), T0[j]? = some e0 → ∃ i e, s[j]? = some i ∧ T[i]? = some e ∧ Vw e e0 := by
  induction h with
  | nil => intro j e0 h; simp at h
  | cons hi hv _ ih =>
    intro j e0 hj
    cases j with
    | zero => simp at hj; subst hj; exact ⟨_, _, rfl, hi, hv⟩
    | succ j => simpa using ih j e0 (by simpa using hj)
theorem nodup_ne {s : List Nat} (h : s.Nodup) {i j a b : Nat} (hij : i ≠ j) (hi : s[i]? = some a) (hj : s[j]? = some b) : a ≠ b := by
  intro hab
  subst hab
  have h1 := List.getElem?_eq_some_iff.1 hi
  have h2 := List.getElem?_eq_some_iff.1 hj
  obtain ⟨l1, e1⟩ := h1
  obtain ⟨l2, e2⟩ := h2
  exact hij ((List.getElem_inj h).1 (e1.trans e2.symm))
theorem Tab.view {w0 w : World} {T : List Ent} (hT : Tab w0 w T) {s : List Nat} {T0 : List Ent} (h : VwL T s T0) (hn : s.Nodup) : Tab w w T0 := by
  refine ⟨rfl, rfl, rfl, Nat.le_refl _, ?_, fun _ _ _ => rfl, ?_, ?_⟩
  · intro i e0 hi
    obtain ⟨j, e, _, he, hv⟩ := h.get i e0 hi
    exact hv.ok w (hT.ok j e he)
  · intro i e0 hi ho
    obtain ⟨j, e, _, he, hv⟩ := h.get i e0 hi
    rw [hv.own] at ho; cases ho
  · intro i j e0 e0' hij hi hj hw k hk hk'
    obtain ⟨a, e, ha, he, hv⟩ := h.get i e0 hi
    obtain ⟨b, e', hb, he', hv'⟩ := h.get j e0' hj
    exact hT.disj a b e e' (nodup_ne hn hij ha hb) he he' (hw.imp hv.wr hv'.wr) k (hv.blk w (hT.ok a e he) k hk) (hv'.blk w (hT.ok b e' he') k hk')
def allRo : List Ent → Bool
  | [] => true
  | e :: r => !e.wr && allRo r
theorem allRo_get : ∀ {N : List Ent}, allRo N = true → ∀ (i : Nat) (e : Ent), N[i]? = some e → e.wr = false := by
  intro N
  induction N with
  | nil => intro _ i e h; simp at h
  | cons x r ih =>
    intro h i e hi
    simp only [allRo, Bool.and_eq_true, Bool.not_eq_true'] at h
    cases i with
    | zero => simp at hi; subst hi; exact h.1
    | succ i => exact ih h.2 i e (by simpa using hi)
theorem Tab.viewRo {w0 w : World} {T : List Ent} (hT : Tab w0 w T) {s : List Nat} {T0 : List Ent} (h : VwL T s T0) (hn : allRo T0 = true) : Tab w w T0 := by
  refine ⟨rfl, rfl, rfl, Nat.le_refl _, ?_, fun _ _ _ => rfl, ?_, ?_⟩
  · intro i e0 hi
    obtain ⟨j, e, _, he, hv⟩ := h.get i e0 hi
    exact hv.ok w (hT.ok j e he)
  · intro i e0 hi ho
    obtain ⟨j, e, _, he, hv⟩ := h.get i e0 hi
    rw [hv.own] at ho; cases ho
  · intro i j e0 e0' hij hi hj hw
    rw [allRo_get hn i e0 hi, allRo_get hn j e0' hj] at hw
    rcases hw with h | h <;> cases h
theorem Vw.ro {b : Nat} {cs : List Value} {t : TypeId} : Vw (.ro b cs t) (.ro b cs t) := ⟨fun _ h => h, fun _ _ _ h => h, id, rfl⟩
theorem Vw.roc {b : Nat} {cs : List Value} {t : TypeId} {o : Bool} : Vw (.cells b cs t o) (.ro b cs t) := ⟨fun _ h => h, fun _ _ _ h => h, fun _ => rfl, rfl⟩
theorem Vw.rd {A : Option Addr} {g o n sz : Nat} {vals : List Value} : Vw (.gen (rdE A g o n sz vals)) (.gen (rdE A g o n sz vals)) := ⟨fun _ h => h, fun _ _ _ h => h, id, rfl⟩
theorem Vw.rowRd {A : Option Addr} {g n cap sz : Nat} {e : TypeId} {vals : List Value} {o : Bool} : Vw (.gen (rowE A g n cap e sz vals o)) (.gen (rdE A g 0 n sz vals)) :=
  ⟨fun _ h => Row.rd h, fun w hr k h => by
    obtain ⟨h1, h2⟩ := h
    refine ⟨h1, fun hA => ?_⟩
    have hr : Row w A g n cap e sz vals := hr
    have h0 : n = 0 := by
      rcases Nat.eq_zero_or_pos n with h | h
      · exact h
      · have := hr.at_ h; rw [hA] at this; cases this
    have := hr.rd.len
    rw [h0] at this
    exact h2 (List.length_eq_zero_iff.1 (by omega)), fun _ => rfl, rfl⟩
theorem Vw.row {A : Option Addr} {g n cap sz : Nat} {e : TypeId} {vals : List Value} {o : Bool} : Vw (.gen (rowE A g n cap e sz vals o)) (.gen (rowE A g n cap e sz vals false)) := ⟨fun _ h => h, fun _ _ _ h => h, fun _ => rfl, rfl⟩
theorem Mg.row {A : Option Addr} {g n cap sz n' cap' : Nat} {e : TypeId} {vals vals' : List Value} {o : Bool} : Mg (.gen (rowE A g n cap e sz vals o)) (.gen (rowE A g n' cap' e sz vals' false)) (.gen (rowE A g n' cap' e sz vals' o)) := ⟨fun _ h => h, fun _ h => h, fun _ => Iff.rfl, id, rfl, rfl, rfl⟩
inductive MgL (T : List Ent) : List Nat → List Ent → List Ent → Prop
  | nil : MgL T [] [] T
  | skip {i : Nat} {s : List Nat} {e1 : Ent} {O T2 : List Ent} : e1.wr = false → MgL T s O T2 → MgL T (i :: s) (e1 :: O) T2
  | cons {i : Nat} {s : List Nat} {e e1 e' : Ent} {O T2 : List Ent} : T[i]? = some e → Mg e e1 e' → MgL T s O T2 → MgL T (i :: s) (e1 :: O) (T2.set i e')
theorem MgL.get {T : List Ent} {s : List Nat} {O T2 : List Ent} (h : MgL T s O T2) : (T2.length = T.length) ∧ (∀ (j : Nat) (e1 : Ent), O[j]? = some e1 → e1.wr = true → ∃ i e e', s[j]? = some i ∧ T[i]? = some e ∧ Mg e e1 e') ∧
    (∀ (i : Nat) (e' : Ent), T2[i]? = some e' → (∃ (j : Nat) (e1 e : Ent), s[j]? = some i ∧ O[j]? = some e1 ∧ e1.wr = true ∧ T[i]? = some e ∧ Mg e e1 e') ∨ (T[i]? = some e' ∧ ∀ (j : Nat) (e1 : Ent), s[j]? = some i → O[j]? = some e1 → e1.wr = false)) := by
  induction h with
  | nil => exact ⟨rfl, fun j e1 h => by simp at h, fun i e' h => .inr ⟨h, fun j e1 hj => by simp at hj⟩⟩
  | skip hw _ ih =>
    obtain ⟨h1, h2, h3⟩ := ih
    refine ⟨h1, ?_, ?_⟩
    · intro j e1 hj hw1
      cases j with
      | zero => simp at hj; subst hj; rw [hw] at hw1; cases hw1
      | succ j => simpa using h2 j e1 (by simpa using hj) hw1
    · intro i e' hi
      rcases h3 i e' hi with ⟨j, e1, e, a, b, c, d⟩ | ⟨a, b⟩
      · exact .inl ⟨j + 1, e1, e, by simpa using a, by simpa using b, c, d⟩
      · refine .inr ⟨a, fun j e1 hj ho => ?_⟩
        cases j with
        | zero => simp at ho; subst ho; exact hw
        | succ j => exact b j e1 (by simpa using hj) (by simpa using ho)
  | @cons i0 s0 e0 e1' e'0 O0 T20 hi0 hm _ ih =>
    obtain ⟨h1, h2, h3⟩ := ih
    refine ⟨by simpa using h1, ?_, ?_⟩
    · intro j e1 hj hw1
      cases j with
      | zero => simp at hj; subst hj; exact ⟨i0, e0, e'0, rfl, hi0, hm⟩
      | succ j => simpa using h2 j e1 (by simpa using hj) hw1
    · intro i e' hi
      by_cases hii : i0 = i
      · subst hii
        have hlt : i0 < T20.length := by
          rw [h1]
          exact (List.getElem?_eq_some_iff.1 hi0).1
        rw [List.getElem?_set_self hlt] at hi
        cases hi
        exact .inl ⟨0, e1', e0, rfl, rfl, hm.wr.1, hi0, hm⟩
      · rw [List.getElem?_set_ne hii] at hi
        rcases h3 i e' hi with ⟨j, e1, e, a, b, c, d⟩ | ⟨a, b⟩
        · exact .inl ⟨j + 1, e1, e, by simpa using a, by simpa using b, c, d⟩
        · refine .inr ⟨a, fun j e1 hj ho => ?_⟩
          cases j with
          | zero => simp at hj; exact absurd hj hii
          | succ j => exact b j e1 (by simpa using hj) (by simpa using ho)
theorem app_get {α : Type} (N O : List α) {i : Nat} {x : α} (h : (N ++ O)[i]? = some x) : (i < N.length ∧ N[i]? = some x) ∨ (N.length ≤ i ∧ O[i - N.length]? = some x) := by
  by_cases hi : i < N.length
  · rw [List.getElem?_append_left hi] at h; exact .inl ⟨hi, h⟩
  · rw [List.getElem?_append_right (by omega)] at h; exact .inr ⟨by omega, h⟩
theorem Tab.merge {w0 w w' : World} {T : List Ent} (hT : Tab w0 w T) {N O T2 : List Ent} {s : List Nat} (h1 : Tab w w' (N ++ O)) (hM : MgL T s O T2) (hn : s.Nodup) (hN : ∀ (i : Nat) (e : Ent), N[i]? = some e → e.own = true) : Tab w0 w' (N ++ T2) := by
  obtain ⟨hlen, hO, hT2⟩ := hM.get
  have oldO : ∀ (j : Nat) (e1 : Ent), O[j]? = some e1 → (N ++ O)[N.length + j]? = some e1 := fun j e1 h => by
    rw [List.getElem?_append_right (by omega)]; rw [show N.length + j - N.length = j by omega]; exact h
  have oldN : ∀ (j : Nat) (e1 : Ent), N[j]? = some e1 → (N ++ O)[j]? = some e1 := fun j e1 h => by
    rw [List.getElem?_append_left (List.getElem?_eq_some_iff.1 h).1]; exact h
  have newb : ∀ (j : Nat) (e1 : Ent), N[j]? = some e1 → ∀ k, e1.blk k → w.heap.size ≤ k := fun j e1 h => h1.own j e1 (oldN j e1 h) (hN j e1 h)
  have key : ∀ (i : Nat) (e' : Ent), T2[i]? = some e' → ∃ e, T[i]? = some e ∧ (∀ k, e'.blk k ↔ e.blk k) ∧ (e'.wr = e.wr) ∧ (e'.own = true → e.own = true) ∧ e'.ok w' := by
    intro i e' hi
    rcases hT2 i e' hi with ⟨j, e1, e, hs, ho, hw, ht, hm⟩ | ⟨ht, hno⟩
    · exact ⟨e, ht, hm.blk2, hm.wr.2.1.trans hm.wr.2.2.symm, hm.own, hm.ok w' (h1.ok _ _ (oldO j e1 ho))⟩
    · refine ⟨e', ht, fun _ => Iff.rfl, rfl, id, e'.stable w w' (fun k hk => ?_) (hT.ok i e' ht)⟩
      have hlt := e'.inb w k (hT.ok i e' ht) hk
      refine h1.frame k hlt (fun q x hx hw hb => ?_)
      rcases app_get N O hx with ⟨_, hx⟩ | ⟨_, hx⟩
      · have := newb q x hx k hb; omega
      · obtain ⟨i2, e, e2, hs, ht2, hm⟩ := hO _ x hx hw
        have hne : i2 ≠ i := fun h => by
          subst h
          rw [hno _ x hs hx] at hw; cases hw
        exact hT.disj i2 i e e' hne ht2 ht (.inl hm.wr.2.2) k ((hm.blk2 k).1 (hm.blk1 k hb)) hk
  have back : ∀ (i : Nat) (e : Ent), T[i]? = some e → ∃ e', T2[i]? = some e' ∧ (∀ k, e'.blk k ↔ e.blk k) ∧ e'.wr = e.wr := by
    intro i e hi
    have hl : i < T2.length := by rw [hlen]; exact (List.getElem?_eq_some_iff.1 hi).1
    obtain ⟨e2, h2, h3, h4, _⟩ := key i _ (List.getElem?_eq_getElem hl)
    rw [hi] at h2; cases h2
    exact ⟨_, List.getElem?_eq_getElem hl, h3, h4⟩
  refine ⟨h1.os.trans hT.os, h1.tape.trans hT.tape, h1.output.trans hT.output, Nat.le_trans hT.size h1.size, ?_, ?_, ?_, ?_⟩
  · intro i e hi
    rcases app_get N T2 hi with ⟨_, hi⟩ | ⟨_, hi⟩
    · exact h1.ok i e (oldN i e hi)
    · obtain ⟨_, _, _, _, _, h⟩ := key _ e hi; exact h
  · intro k hk hno
    have hk' : k < w.heap.size := Nat.lt_of_lt_of_le hk hT.size
    have hT2no : ∀ (i : Nat) (e : Ent), T[i]? = some e → e.wr = true → ¬ e.blk k := by
      intro i e hi hw hb
      obtain ⟨e', h2, h3, h4⟩ := back i e hi
      refine hno (N.length + i) e' ?_ (h4.trans hw) ((h3 k).2 hb)
      rw [List.getElem?_append_right (by omega), show N.length + i - N.length = i by omega]; exact h2
    refine (h1.frame k hk' (fun q x hx hw hb => ?_)).trans (hT.frame k hk hT2no)
    rcases app_get N O hx with ⟨_, hx⟩ | ⟨_, hx⟩
    · have := newb q x hx k hb; omega
    · obtain ⟨i2, e, e2, hs, ht2, hm⟩ := hO _ x hx hw
      exact hT2no i2 e ht2 hm.wr.2.2 ((hm.blk2 k).1 (hm.blk1 k hb))
  · intro i e hi ho k hk
    rcases app_get N T2 hi with ⟨_, hi⟩ | ⟨_, hi⟩
    · exact Nat.le_trans hT.size (newb i e hi k hk)
    · obtain ⟨e0, h2, h3, _, h5, _⟩ := key _ e hi
      exact hT.own _ e0 h2 (h5 ho) k ((h3 k).1 hk)
  · intro i j e e' hij hi hj hw k hk hk'
    rcases app_get N T2 hi with ⟨hli, hi⟩ | ⟨hli, hi⟩ <;> rcases app_get N T2 hj with ⟨hlj, hj⟩ | ⟨hlj, hj⟩
    · exact h1.disj i j e e' hij (oldN i e hi) (oldN j e' hj) hw k hk hk'
    · obtain ⟨e0, h2, h3, _⟩ := key _ e' hj
      have := newb i e hi k hk
      have := e0.inb w k (hT.ok _ e0 h2) ((h3 k).1 hk')
      omega
    · obtain ⟨e0, h2, h3, _⟩ := key _ e hi
      have := newb j e' hj k hk'
      have := e0.inb w k (hT.ok _ e0 h2) ((h3 k).1 hk)
      omega
    · obtain ⟨e0, h2, h3, h4, _⟩ := key _ e hi
      obtain ⟨f0, g2, g3, g4, _⟩ := key _ e' hj
      exact hT.disj _ _ e0 f0 (by omega) h2 g2 (hw.imp (fun h => h4.symm.trans h) (fun h => g4.symm.trans h)) k ((h3 k).1 hk) ((g3 k).1 hk')
def allOwn : List Ent → Bool
  | [] => true
  | e :: r => e.own && allOwn r
theorem allOwn_get : ∀ {N : List Ent}, allOwn N = true → ∀ (i : Nat) (e : Ent), N[i]? = some e → e.own = true := by
  intro N
  induction N with
  | nil => intro _ i e h; simp at h
  | cons x r ih =>
    intro h i e hi
    simp only [allOwn, Bool.and_eq_true] at h
    cases i with
    | zero => simp at hi; subst hi; exact h.1
    | succ i => exact ih h.2 i e (by simpa using hi)
theorem Tab.news {w0 w w' : World} {T N : List Ent} (hT : Tab w0 w T) (h1 : Tab w w' N) (hN : allOwn N = true) : Tab w0 w' (N ++ T) :=
  hT.merge (O := []) (s := []) (by rw [List.append_nil]; exact h1) .nil List.nodup_nil (allOwn_get hN)
section
variable {dfs : List Deferred}
def dropOk : List Ent → Nat → List Nat → Bool
  | [], _, _ => true
  | e :: r, i, σ => (σ.contains i || !e.wr || e.own) && dropOk r (i + 1) σ
theorem dropOk_get : ∀ {T : List Ent} {i : Nat} {σ : List Nat}, dropOk T i σ = true → ∀ (j : Nat) (e : Ent), T[j]? = some e → i + j ∈ σ ∨ e.wr = false ∨ e.own = true := by
  intro T
  induction T with
  | nil => intro i σ _ j e h; simp at h
  | cons x r ih =>
    intro i σ h j e he
    simp only [dropOk, Bool.and_eq_true, Bool.or_eq_true, List.contains_iff_mem, Bool.not_eq_true'] at h
    cases j with
    | zero =>
      simp at he; subst he
      rcases h.1 with (h1 | h1) | h1
      · exact .inl (by simpa using h1)
      · exact .inr (.inl h1)
      · exact .inr (.inr h1)
    | succ j =>
      have := ih h.2 j e (by simpa using he)
      rwa [show i + 1 + j = i + (j + 1) by omega] at this
theorem Tab.pick {w0 w : World} {T T' : List Ent} (hT : Tab w0 w T) (σ : List Nat) (hn : σ.Nodup) (hm : T'.map some = σ.map fun i => T[i]?) (hd : dropOk T 0 σ = true) : Tab w0 w T' := by
  have key : ∀ (i : Nat) (e : Ent), T'[i]? = some e → ∃ j, σ[i]? = some j ∧ T[j]? = some e := by
    intro i e he
    have h1 : (T'.map some)[i]? = some (some e) := by rw [List.getElem?_map, he]; rfl
    rw [hm, List.getElem?_map] at h1
    cases hs : σ[i]? with
    | none => rw [hs] at h1; cases h1
    | some j => rw [hs] at h1; exact ⟨j, rfl, by simpa using h1⟩
  have back : ∀ (j : Nat) (e : Ent), T[j]? = some e → j ∈ σ → ∃ i : Nat, T'[i]? = some e := by
    intro j e he hj
    obtain ⟨i, hi, hij⟩ := List.mem_iff_getElem.1 hj
    have h1 : (T'.map some)[i]? = some (T[j]?) := by rw [hm, List.getElem?_map, List.getElem?_eq_getElem hi, hij]; rfl
    rw [List.getElem?_map] at h1
    cases ht : T'[i]? with
    | none => rw [ht] at h1; cases h1
    | some x => rw [ht, he] at h1; exact ⟨i, by rw [ht]; simpa using h1⟩
  refine ⟨hT.os, hT.tape, hT.output, hT.size, ?_, ?_, ?_, ?_⟩
  · intro i e he
    obtain ⟨j, _, h⟩ := key i e he
    exact hT.ok j e h
  · intro k hk hno
    refine hT.frame k hk (fun j e he hw hb => ?_)
    rcases dropOk_get hd j e he with h | h | h
    · rw [Nat.zero_add] at h
      obtain ⟨i, hi⟩ := back j e he h
      exact hno i e hi hw hb
    · rw [hw] at h; cases h
    · have := hT.own j e he h k hb; omega
  · intro i e he ho k hk
    obtain ⟨j, _, h⟩ := key i e he
    exact hT.own j e h ho k hk
  · intro i j e e' hij he he'
    obtain ⟨a, ha, h1⟩ := key i e he
    obtain ⟨b, hb, h2⟩ := key j e' he'
    exact hT.disj a b e e' (nodup_ne hn hij ha hb) h1 h2
theorem cont_pick {K : Act → World → Prop} {n : Nat} {w0 : World} {L : List (Nat × Value)} {T : List Ent} (σ : List Nat) (T' : List Ent) (hn : σ.Nodup) (hm : T'.map some = σ.map fun i => T[i]?) (hd : dropOk T 0 σ = true) (h : Cont dfs K n w0 L T') : Cont dfs K n w0 L T :=
  fun a w ha hf hT => h a w ha hf (hT.pick σ hn hm hd)
def Joins (dfs : List Deferred) {α : Type} (Inv : α → Prop) (Lf : α → List (Nat × Value)) (Tf : α → List Ent) (n : Nat) (w0 : World) : Act → World → Prop :=
  fun a w => ∃ y, Inv y ∧ a.defers = dfs ∧ FrOk n a.tmps (Lf y) ∧ Tab w0 w (Tf y)
theorem cont_join {P : Program} {Q : Exit → Act → World → Prop} {n : Nat} {w0 : World} {L : List (Nat × Value)} {T : List Ent} {α : Type} {x y : Code} (Inv : α → Prop) (Lf : α → List (Nat × Value)) (Tf : α → List Ent)
    (hx : Cont dfs (x.wp P (Exit.then (Joins dfs Inv Lf Tf n w0) Q)) n w0 L T) (rest : ∀ z, Inv z → Cont dfs (y.wp P Q) n w0 (Lf z) (Tf z)) : Cont dfs (x.wp P (Exit.then (y.wp P Q) Q)) n w0 L T := by
  intro a w ha hf hT
  refine wp_mono (hx a w ha hf hT) (fun e a' w' hq => ?_)
  cases e with
  | normal =>
    obtain ⟨z, h1, h2, h3, h4⟩ := hq
    exact rest z h1 a' w' h2 h3 h4
  | _ => exact hq
theorem join_to {n : Nat} {w0 : World} {L : List (Nat × Value)} {T : List Ent} {α : Type} {Inv : α → Prop} {Lf : α → List (Nat × Value)} {Tf : α → List Ent} (y : α) (hi : Inv y) (hL : ((Lf y).map fun p => lk L p.1) = ((Lf y).map fun p => some p.2)) (hT : Tf y = T) : Cont dfs (Joins dfs Inv Lf Tf n w0) n w0 L T := by
  subst hT
  exact fun a w ha hf h => ⟨y, hi, ha, hf.prune hL, h⟩
end
end Go.Proofs.YtlfahohbkgdabaaGreat
namespace Go.Proofs.YtlfahohbkgdabaaGreat
open Go Go.RowKit
variable {dfs : List Deferred}
section
variable {P : Program}
theorem cont_fact {K : Act → World → Prop} {n : Nat} {w0 : World} {L : List (Tmp × Value)} {T : List Ent} {F : Prop} (h : ∀ w, Tab w0 w T → F) (hk : F → Cont dfs K n w0 L T) : Cont dfs K n w0 L T :=
  fun a w ha hf hT => hk (h w hT) a w ha hf hT
theorem Tab.fresh {w0 w : World} {T : List Ent} (hT : Tab w0 w T) (e : Ent) (hok : e.ok w) (hb : ∀ k, ¬ e.blk k) : Tab w0 w (e :: T) :=
  hT.push rfl rfl rfl (Nat.le_refl _) (fun _ _ => rfl) hok (fun k hk => absurd hk (hb k))
theorem cont_nilrow {K : Act → World → Prop} {n : Nat} {w0 : World} {L : List (Tmp × Value)} {T : List Ent} (e : TypeId) (sz : Nat) (hk : Cont dfs K n w0 L (.gen (rowE none 0 0 0 e sz [] true) :: T)) : Cont dfs K n w0 L T :=
  fun a w ha hf hT => hk a w ha hf (hT.fresh _ (show Row w none 0 0 0 e sz [] from ⟨⟨by simp, .inl ⟨rfl, rfl⟩⟩, fun h => by omega, fun a ha => by cases ha⟩) (fun k hk => hk.2 rfl))
theorem Row.ofCells {w : World} {b n sz : Nat} {cs : List Value} {e : TypeId} (h : w.heap[b]? = some (.cells cs.toArray e (0, 0))) (hl : cs.length = n * sz) (hn : n ≤ maxLen) : Row w (some ⟨b, 0, none⟩) b n n e sz cs :=
  ⟨⟨hl, .inr ⟨b, n, cs.toArray, rfl, Nat.zero_le _, h, Nat.le_refl _, hn, by simp [hl], by simp [← hl]⟩⟩, fun _ => rfl, fun a ha => by cases ha; rfl⟩
theorem cont_asRow {K : Act → World → Prop} {n' : Nat} {w0 : World} {L : List (Tmp × Value)} {T : List Ent} (i n sz : Nat) {b : Nat} {cs vals : List Value} {e : TypeId} {own : Bool} (hi : T[i]? = some (.cells b cs e own)) (hv : cs = vals) (hl : cs.length = n * sz) (hn : n ≤ maxLen)
    (hk : Cont dfs K n' w0 L (T.set i (.gen (rowE (some ⟨b, 0, none⟩) b n n e sz vals own)))) : Cont dfs K n' w0 L T := by
  subst hv
  intro a w ha hf hT
  refine hk a w ha hf ?_
  have hok : w.heap[b]? = some (.cells cs.toArray e (0, 0)) := hT.ok i _ hi
  exact hT.replace (e := .cells b cs e own) (e' := .gen (rowE (some ⟨b, 0, none⟩) b n n e sz cs own)) hi rfl rfl id (fun k hk => .inl hk.1) (fun k _ hk _ => ⟨hk, by simp⟩) rfl rfl rfl (Nat.le_refl _) (fun _ _ _ => rfl) (Row.ofCells hok hl hn)
theorem Rd.ofCells {w : World} {b m sz : Nat} {cs vals : List Value} {e : TypeId} (h : w.heap[b]? = some (.cells cs.toArray e (0, 0))) (hv : cs = vals) (hl : cs.length = m * sz) : Rd w (some ⟨b, 0, none⟩) b 0 m sz vals := by
  subst hv
  refine ⟨hl, fun _ => rfl, fun j v hj => ?_⟩
  simp only [Nat.zero_add]
  simp [World.cell?, h, hj]
theorem ivals_append (k : IntKind) (xs ys : List Int) : ivals k xs ++ ivals k ys = ivals k (xs ++ ys) := by simp [ivals]
theorem ivals_one (k : IntKind) (xs : List Int) : ∀ u ∈ ivals k xs, u.oneCell' = true := by
  intro u hu
  obtain ⟨x, _, rfl⟩ := List.mem_map.1 hu
  rfl
theorem addr_add (b o j : Nat) : (⟨b, o, none⟩ : Addr).add j = ⟨b, o + j, none⟩ := by unfold Addr.add; split <;> simp_all
theorem append_own {w0 w : World} {T : List Ent} (hT : Tab w0 w T) {t ty e : TypeId} {A : Option Addr} {i g n cap sz bytes n' : Nat} {vals vals' news : List Value} {z : Value} (hi : T[i]? = some (.gen (rowE A g n cap e sz vals true)))
    (ht : P.underlying t = some (.slice e)) (hinf : (P.info? e).map (fun i => (i.zero, i.size, i.bytes)) = some (some z, sz, bytes)) (hzs : z.cells.size = sz) (hsz : 0 < sz) (hby : 0 < bytes)
    {SA : Option Addr} {sg so m sc : Nat} (hsrc : Rd w SA sg so m sz news) (h1 : ∀ u ∈ news, u.oneCell' = true) (hb : (n + m) * bytes ≤ 140737488355328) (hv : vals ++ news = vals') (hn' : n' = n + m) :
    ∃ (x : Option Addr × Nat × Nat) (w' : World), (Builtin.append_ #[t, t] ty #[.slice A n cap, .slice SA m sc]).run P w = .ok (.slice x.1 n' x.2.2) w' ∧ True ∧ Tab w0 w' (T.set i (.gen (rowE x.1 x.2.1 n' x.2.2 e sz vals' true))) := by
  subst hv hn'
  have hrow : Row w A g n cap e sz vals := hT.ok i _ hi
  obtain ⟨inf, hinf1, hinf2⟩ := Option.map_eq_some_iff.1 hinf
  simp only [Prod.mk.injEq] at hinf2
  obtain ⟨hz, hs, hbt⟩ := hinf2
  by_cases hm : m = 0
  · subst hm
    have hnil : news = [] := List.length_eq_zero_iff.1 (by have := hsrc.len; simpa using this)
    subst hnil
    refine ⟨(A, g, cap), w, ?_, trivial, ?_⟩
    · have hle : n ≤ cap := hrow.capLe
      cases A <;> cases SA <;> simp [Builtin.append_, run_underlying ht, sizeOf, typeInfo, hinf1, Builtin.lenOf, hle, Builtin.firstCells, storeCells, loadCells, loadCellsFrom]
    · simp only [List.append_nil, Nat.add_zero]
      have : T.set i (.gen (rowE A g n cap e sz vals true)) = T := by
        obtain ⟨hlt, he⟩ := List.getElem?_eq_some_iff.1 hi
        rw [← he]
        exact List.set_getElem_self hlt
      rw [this]; exact hT
  · have hSA := hsrc.at_ (by omega)
    subst hSA
    have hml : n + m ≤ maxLen := by
      have h2 : (n + m) * 1 ≤ (n + m) * bytes := Nat.mul_le_mul_left _ hby
      unfold maxLen; omega
    obtain ⟨v', w', hr, hown, hg, _, hat⟩ := run_append_own_at (P := P) w 0 t ty e inf z sz bytes ht hinf1 hz hs hbt hzs hsz (.slice A n cap) n vals hrow.own ⟨sg, so, none⟩ m sc news hsrc.len (fun j u hj => by rw [addr_add]; exact hsrc.cell j u hj) h1 hml hb (Nat.zero_le _)
    rcases hown.2 with ⟨hv0, h0⟩ | ⟨g', cap', cur, hv', _, hg', hle, hcm, hcs, htk⟩
    · omega
    · subst hv'
      refine ⟨(some ⟨g', 0, none⟩, g', cap'), w', hr, trivial, ?_⟩
      have hwhere : (k : Nat) → k = g' → (k = g ∧ A ≠ none) ∨ w.heap.size ≤ k := by
        intro k hk
        subst hk
        rcases hat with hat | hat
        · left
          cases A with
          | none => simp [Value.ownBlock] at hat
          | some a =>
            have := hrow.spot a rfl
            subst this
            simp [Value.ownBlock] at hat
            exact ⟨hat, by simp⟩
        · right
          simp [Value.ownBlock] at hat
          omega
      refine hT.replace (e := .gen (rowE A g n cap e sz vals true)) (e' := .gen (rowE (some ⟨g', 0, none⟩) g' (n + m) cap' e sz (vals ++ news) true)) hi rfl rfl id (fun k hk => hwhere k hk.1) (fun k _ hk hlt => ?_) hg.os hg.tape hg.output hg.size (fun k hk hne => ?_) ?_
      · have := hT.own i _ hi rfl k hk
        omega
      · refine hg.block k hk (fun hek => hne ?_)
        cases A with
        | none => simp [Value.ownBlock] at hek
        | some a =>
          have := hrow.spot a rfl
          subst this
          simp [Value.ownBlock] at hek
          exact ⟨hek, by simp⟩
      · exact ⟨hown, fun _ => rfl, fun a ha => by cases ha; rfl⟩
theorem Row.facts {w : World} {A : Option Addr} {g n cap : Nat} {e : TypeId} {k : IntKind} {xs : List Int} (h : Row w A g n cap e 1 (ivals k xs)) : (0 < n → A = some ⟨g, 0, none⟩) ∧ xs.length = n ∧ n ≤ cap ∧ cap ≤ maxLen := by
  refine ⟨h.at_, ?_, h.capLe, ?_⟩
  · have := h.own.1; rw [ivals_length] at this; omega
  · rcases h.own.2 with ⟨h1, _⟩ | ⟨g', cap', cur, hv, _, _, _, hm, _⟩
    · cases h1; unfold maxLen; omega
    · cases hv; exact hm
theorem Rd.flen {w : World} {A : Option Addr} {g o n : Nat} {k : IntKind} {xs : List Int} (h : Rd w A g o n 1 (ivals k xs)) : xs.length = n := by
  have := h.len; rw [ivals_length] at this; omega
theorem Rd.facts {w : World} {A : Option Addr} {g o n : Nat} {k : IntKind} {xs : List Int} (h : Rd w A g o n 1 (ivals k xs)) : (0 < n → A = some ⟨g, o, none⟩) ∧ xs.length = n := ⟨h.at_, h.flen⟩
theorem list_eq_getD {xs ys : List Int} {n : Nat} (hx : xs.length = n) (hy : ys.length = n) (h : ∀ j, j < n → xs.getD j 0 = ys.getD j 0) : xs = ys := by
  apply List.ext_getElem?
  intro j
  by_cases hj : j < n
  · have := h j hj
    rw [List.getD_eq_getElem?_getD, List.getD_eq_getElem?_getD, List.getElem?_eq_getElem (by omega), List.getElem?_eq_getElem (by omega)] at this
    rw [List.getElem?_eq_getElem (by omega), List.getElem?_eq_getElem (by omega)]
    simpa using this
  · rw [List.getElem?_eq_none (by omega), List.getElem?_eq_none (by omega)]
end
theorem fI {K : Act → World → Prop} {n : Nat} {w0 : World} {L : List (Tmp × Value)} {T : List Ent} (i m : Nat) (A : Option Addr) (g c : Nat) (l : List Int) {e : TypeId} {k : IntKind} {own : Bool} (hi : T[i]? = some (.gen (rowE A g m c e 1 (ivals k l) own))) (hk : (0 < m → A = some ⟨g, 0, none⟩) → l.length = m → m ≤ c → c ≤ 2 ^ 63 - 1 → Cont dfs K n w0 L T) : Cont dfs K n w0 L T :=
  cont_fact (fun w hT => Row.facts (show Row w A g m c e 1 (ivals k l) from hT.ok i _ hi)) (fun h => hk h.1 h.2.1 h.2.2.1 h.2.2.2)
end Go.Proofs.YtlfahohbkgdabaaGreat
namespace Go.Proofs.YtlfahohbkgdabaaGreat
open Go Go.RowKit
def aroundI (n m : Int) : Int := (if n < 0 then 0 - (n + 1) else n) % m
theorem aroundI_range (n : Int) {m : Int} (h : 0 < m) : 0 ≤ aroundI n m ∧ aroundI n m < m := ⟨Int.emod_nonneg _ (by omega), Int.emod_lt_of_pos _ h⟩
def goodC (c : Int) : Int := mkC (pa c) (mn (pr c) (pa c)) (mn (pg c) (pa c)) (mn (pb c) (pa c))
theorem parts_mk (a r g b : Int) : pa (mkC a r g b) = clip a ∧ pr (mkC a r g b) = clip r ∧ pg (mkC a r g b) = clip g ∧ pb (mkC a r g b) = clip b := by
  have := clip_range a; have := clip_range r; have := clip_range g; have := clip_range b
  unfold pa pr pg pb mkC
  omega
theorem pa_range {c : Int} (h : InC c) : 0 ≤ pa c ∧ pa c ≤ 255 := by obtain ⟨h1, h2⟩ := h; unfold pa; omega
theorem goodC_may (c : Int) (h : InC c) : mayB (goodC c) = true ∧ InC (goodC c) := by
  refine ⟨?_, mkC_range _ _ _ _⟩
  obtain ⟨h1, h2, h3, h4⟩ := parts_mk (pa c) (mn (pr c) (pa c)) (mn (pg c) (pa c)) (mn (pb c) (pa c))
  have := pa_range h
  unfold mayB
  rw [goodC, h1, h2, h3, h4]
  simp only [Bool.and_eq_true, decide_eq_true_eq]
  unfold clip mn
  omega
def goodP (n : Nat) (xs : List Int) (i : Nat) : List Int := (List.range n).map fun j => if j < i then goodC (xs.getD j 0) else 0
theorem goodP_length (n : Nat) (xs : List Int) (i : Nat) : (goodP n xs i).length = n := by simp [goodP]
theorem goodP_zero (n : Nat) (xs : List Int) : goodP n xs 0 = List.replicate n 0 := by
  apply List.ext_getElem?
  intro j
  simp only [goodP, List.getElem?_map, List.getElem?_range', List.getElem?_replicate]
  by_cases h : j < n <;> simp [h]
theorem goodP_set {n : Nat} {xs : List Int} {i : Nat} (h : i < n) : (goodP n xs i).set i (goodC (xs.getD i 0)) = goodP n xs (i + 1) := by
  apply List.ext_getElem?
  intro j
  rw [List.getElem?_set]
  simp only [goodP, List.getElem?_map, List.length_map, List.length_range]
  by_cases hj : i = j
  · subst hj
    simp [h]
  · simp only [if_neg hj]
    by_cases hn : j < n
    · simp only [List.getElem?_range hn, Option.map_some]
      by_cases h2 : j < i
      · rw [if_pos h2, if_pos (by omega)]
      · rw [if_neg h2, if_neg (by omega)]
    · simp [hn]
theorem goodC_zero : goodC 0 = 0 := by decide
theorem goodP_end {n : Nat} {xs : List Int} {i : Nat} (h : n ≤ i ∨ xs.length ≤ i) : goodP n xs i = goodP n xs n := by
  unfold goodP
  refine List.map_congr_left fun j hj => ?_
  have hjn : j < n := List.mem_range.1 hj
  rw [if_pos hjn]
  split
  · rfl
  · have : xs.length ≤ j := by omega
    rw [List.getD_eq_getElem?_getD, List.getElem?_eq_none this]
    exact goodC_zero.symm
structure GoodIn (a b : Int) (A : Option Addr) (g o n cap : Nat) (xs : List Int) : Prop where
  a : -9223372036854775808 ≤ a ∧ a ≤ 9223372036854775807
  b : -9223372036854775808 ≤ b ∧ b ≤ 9223372036854775807
  len : xs.length = n
  le : n ≤ cap
  mx : cap ≤ maxLen
  rng : ∀ x ∈ xs, InC x
  at_ : 0 < n → A = some ⟨g, o, none⟩
def AllMay (px : List Int) : Prop := ∀ c ∈ px, mayB c = true ∧ InC c
theorem goodP_may {n : Nat} {xs : List Int} (i : Nat) (h : ∀ x ∈ xs, InC x) : AllMay (goodP n xs i) := by
  intro c hc
  obtain ⟨j, _, rfl⟩ := List.mem_map.1 hc
  split
  · refine goodC_may _ ?_
    rw [List.getD_eq_getElem?_getD]
    cases hx : xs[j]? with
    | none => exact ⟨by simp, by simp⟩
    | some x => exact h x (List.mem_of_getElem? hx)
  · exact ⟨by decide, by decide, by decide⟩
theorem AllMay.get {px : List Int} (h : AllMay px) {i : Nat} (hi : i < px.length) : mayB (px.getD i 0) = true ∧ InC (px.getD i 0) := by
  rw [List.getD_eq_getElem?_getD, List.getElem?_eq_getElem hi]
  exact h _ (List.getElem_mem hi)
theorem imgOk_of {W H : Int} {n : Nat} {px : List Int} (hw : 1 ≤ W ∧ W ≤ 256 ∧ 1 ≤ H ∧ H ≤ 256) (hn : (n : Int) = W * H) (hl : px.length = n) (hm : AllMay px) : ImgOk W H n px :=
  ⟨hw.1, hw.2.1, hw.2.2.1, hw.2.2.2, hn, hl, fun c hc => (hm c hc).2⟩
def setL (W H : Int) (px : List Int) (x y c : Int) : List Int := if hasB 0 0 W H x y && mayB c then px.set (y * W + x).toNat c else px
def setE (W H x y c : Int) : Int := if !hasB 0 0 W H x y then 4 else if !mayB c then 1 else 0
theorem ImgOk.setL {W H : Int} {n : Nat} {px : List Int} (h : ImgOk W H n px) (x y : Int) {c : Int} (hc : InC c) : ImgOk W H n (setL W H px x y c) := by
  unfold Go.Proofs.YtlfahohbkgdabaaGreat.setL
  split
  · exact h.set _ hc
  · exact h
theorem place_inv (i : Nat) {W : Int} (hW : 1 ≤ W) : (i : Int) / W * W + (i : Int) % W = i := by
  rw [Int.mul_comm]; exact Int.mul_ediv_add_emod _ _
theorem in_box {W H : Int} {n i : Nat} (hW : 1 ≤ W) (hn : (n : Int) = W * H) (hi : i < n) : hasB 0 0 W H ((i : Int) % W) ((i : Int) / W) = true := by
  have h1 := Int.emod_nonneg (i : Int) (show W ≠ 0 by omega)
  have h2 := Int.emod_lt_of_pos (i : Int) (show 0 < W by omega)
  have h3 := Int.ediv_nonneg (show 0 ≤ (i : Int) by omega) (show 0 ≤ W by omega)
  refine hasB_true.2 ⟨h1, h2, h3, ?_⟩
  exact Int.ediv_lt_of_lt_mul (by omega) (by rw [Int.mul_comm, ← hn]; omega)
theorem setL_at {W H : Int} {n i : Nat} {px : List Int} {c : Int} (hW : 1 ≤ W) (hn : (n : Int) = W * H) (hi : i < n) (hc : mayB c = true) : setL W H px ((i : Int) % W) ((i : Int) / W) c = px.set i c := by
  unfold setL
  rw [in_box hW hn hi, hc, Bool.and_self, if_pos rfl, place_inv i hW]
  rfl
theorem atC_at {W H : Int} {n i : Nat} (px : List Int) (hW : 1 ≤ W) (hn : (n : Int) = W * H) (hi : i < n) : atC W H px ((i : Int) % W) ((i : Int) / W) = px.getD i 0 := by
  unfold atC
  rw [in_box hW hn hi, if_pos rfl, place_inv i hW]
  rfl
def bldP (px : List Int) (i : Nat) : List Int := px.mapIdx fun j c => if j < i then c else 0
theorem bldP_length (px : List Int) (i : Nat) : (bldP px i).length = px.length := by simp [bldP]
theorem bldP_zero (px : List Int) : bldP px 0 = List.replicate px.length 0 := by
  apply List.ext_getElem?
  intro j
  simp only [bldP, List.getElem?_mapIdx, List.getElem?_replicate]
  by_cases h : j < px.length
  · simp [h]
  · simp [h]
theorem bldP_all {px : List Int} {i : Nat} (h : px.length ≤ i) : bldP px i = px := by
  apply List.ext_getElem?
  intro j
  simp only [bldP, List.getElem?_mapIdx]
  by_cases hj : j < px.length
  · simp [hj, show j < i by omega]
  · simp [hj]
theorem bldP_set {px : List Int} {i : Nat} (h : i < px.length) : (bldP px i).set i (px.getD i 0) = bldP px (i + 1) := by
  apply List.ext_getElem?
  intro j
  rw [List.getElem?_set]
  simp only [bldP, List.getElem?_mapIdx, List.length_mapIdx]
  by_cases hj : i = j
  · subst hj
    simp [h]
  · simp only [if_neg hj]
    cases px[j]? with
    | none => rfl
    | some v =>
      simp only [Option.map_some]
      by_cases h2 : j < i
      · rw [if_pos h2, if_pos (by omega)]
      · rw [if_neg h2, if_neg (by omega)]
theorem bldP_may {px : List Int} (h : AllMay px) (i : Nat) : AllMay (bldP px i) := by
  intro c hc
  obtain ⟨j, hj⟩ := List.getElem?_of_mem hc
  simp only [bldP, List.getElem?_mapIdx] at hj
  cases hp : px[j]? with
  | none => rw [hp] at hj; cases hj
  | some v =>
    rw [hp] at hj
    simp only [Option.map_some, Option.some.injEq] at hj
    subst hj
    split
    · exact h v (List.mem_of_getElem? hp)
    · exact ⟨by decide, by decide, by decide⟩
theorem emod_range (i : Nat) {W : Int} (hW : 1 ≤ W) : 0 ≤ (i : Int) % W ∧ (i : Int) % W < W ∧ 0 ≤ (i : Int) / W ∧ (i : Int) / W ≤ i :=
  ⟨Int.emod_nonneg _ (by omega), Int.emod_lt_of_pos _ (by omega), Int.ediv_nonneg (by omega) (by omega), Int.ediv_le_self _ (by omega)⟩
def sameB (W H : Int) (xs : List Int) (W' H' : Int) (ys : List Int) : Bool := decide (W = W' ∧ H = H' ∧ xs = ys)
theorem list_ne_getD {xs ys : List Int} {j : Nat} (h : xs.getD j 0 ≠ ys.getD j 0) : xs ≠ ys := fun e => h (by rw [e])
end Go.Proofs.YtlfahohbkgdabaaGreat
namespace Go.Proofs.YtlfahohbkgdabaaGreat
open Go Go.RowKit
theorem cutR_has (a b c d a' b' c' d' x y : Int) : hasB (cutR a b c d a' b' c' d').x0 (cutR a b c d a' b' c' d').y0 (cutR a b c d a' b' c' d').x1 (cutR a b c d a' b' c' d').y1 x y = true ↔ hasB a b c d x y = true ∧ hasB a' b' c' d' x y = true := by
  unfold cutR
  cases h : emptyB (max a a') (max b b') (min c c') (min d d') with
  | true =>
    have := emptyB_true.1 h
    simp only [if_true, hasB_true]
    omega
  | false =>
    simp only [Bool.false_eq_true, if_false, hasB_true]
    omega
end Go.Proofs.YtlfahohbkgdabaaGreat
namespace Go.Proofs.YtlfahohbkgdabaaGreat
open Go Go.RowKit
set_option maxRecDepth 100000
set_option maxHeartbeats 8000000
theorem refAround (n m : Int) (w : World) (hn : -9223372036854775808 ≤ n ∧ n ≤ 9223372036854775807) (hm : 1 ≤ m ∧ m ≤ 9223372036854775807) :
    Calls Tryz.prog 37 #[iQ n, iQ m] w fun e w' => e = .returned (iQ (aroundI n m)) ∧ Below w.heap.size w w' := by
 refine eN [(0, iq n), (1, iq m)] Tryz.func37 Tryz.ntmps37 rfl (Tab.start w) ?_
 refine zSR 1 <| bD [0] 1 0 [] [4] <| zDNSSR 2 <| bD [0, 0] 2 0 [(6, .bool (decide (n < 0)))] [5] <| zDN <| sD 6 rfl (fun c1_ => ?_) fun c1_ => ?_
 ·
  refine cTr rfl <| cRg 4 rfl <| bD [0, 0] 2 2 [(8, iq (IntKind.i64.wrap (n + 1)))] [7] <| wI 8 (n + 1) <| bD [0] 3 1 [(9, iq (IntKind.i64.wrap (0 - (n + 1))))] [] <| wI 9 (0 - (n + 1)) <| bD [0] 4 0 [(0, iq (0 - (n + 1)))] [] <| zDNSR 4 <| bS [0, 0] 2 2 [(10, iq (0 - (n + 1))), (11, iq m)] <| pS 3 1 <| sS 12 (bopS .rem 3 (.tmp 10) (.tmp 11) (iq (0 - (n + 1))) (iq m)) (iq ((0 - (n + 1)).tmod m)) (fun w hT => run_rem (by omega) w) <| rC 12 (iq ((0 - (n + 1)) % m)) rfl (tmodI (by omega)) <| bS [0] 4 0 [(4, iq ((0 - (n + 1)) % m))] <| zDNr <| rA rfl 0 (iq ((0 - (n + 1)) % m)) fun w hT => ?_
  exact ⟨ret_int (by simp [aroundI, *]), hT.post rfl⟩
 refine zFKNSR 4 <| bS [0, 0] 2 2 [(10, iq n), (11, iq m)] <| pS 3 1 <| sS 12 (bopS .rem 3 (.tmp 10) (.tmp 11) (iq n) (iq m)) (iq (n.tmod m)) (fun w hT => run_rem (by omega) w) <| rC 12 (iq (n % m)) rfl (tmodI (by omega)) <| bS [0] 4 0 [(4, iq (n % m))] <| zDNr <| rA rfl 0 (iq (n % m)) fun w hT => ?_
 exact ⟨ret_int (by simp [aroundI, *]), hT.post rfl⟩
theorem refParts (c : Int) (w : World) (h0 : 0 ≤ c) (h1 : c < 4294967296) :
    Calls Tryz.prog 22 #[cQ c] w fun e w' => e = .returned (.agg #[iQ (pa c), iQ (pr c), iQ (pg c), iQ (pb c)]) ∧ Below w.heap.size w w' := by
 refine eN [(0, cQ c)] Tryz.func22 Tryz.ntmps22 rfl (Tab.start w) ?_
 refine zSR 1 <| bW [0] 1 0 (fun b1 => [(0, cQ c), (2, .pointer (pB b1))]) (fun b1 => [.cells b1 [iq 0, iq 0, iq 0, iq 0] 53 true]) [0, 2] fun b1 => ?_
 refine zDNSR 3 <| bD [0, 0] 2 1 [(5, iq (IntKind.i64.wrap c))] [4] <| wI 5 c <| bD [0] 3 0 [(3, iq c)] [] <| zDNSR 12 <| bD [0, 0] 2 10 [(7, iq (IntKind.i64.wrap (c.tdiv 16777216)))] [6] <| rC 7 (iq (c / 16777216)) rfl (tdivI (by omega) (by omega) (by omega)) <| bD [0, 0] 4 8 [(9, iq (IntKind.i64.wrap (c.tdiv 65536)))] [8] <| rC 9 (iq (c / 65536)) rfl (tdivI (by omega) (by omega) (by omega)) <| bD [0] 5 7 [(10, iq ((c / 65536).tmod 256))] [] <| rC 10 (iq ((c / 65536) % 256)) rfl (tmodI (by omega)) <| bD [0, 0] 7 5 [(12, iq (IntKind.i64.wrap (c.tdiv 256)))] [11] <| rC 12 (iq (c / 256)) rfl (tdivI (by omega) (by omega) (by omega)) <| bD [0] 8 4 [(13, iq ((c / 256).tmod 256))] [] <| rC 13 (iq ((c / 256) % 256)) rfl (tmodI (by omega)) <| bD [0, 0] 10 2 [(15, iq (c.tmod 256))] [14] <| rC 15 (iq (c % 256)) rfl (tmodI (by omega)) <| bZ [0, 0] 12 0 [(2, .pointer (pB b1))] [.cells b1 [iq (c / 16777216), iq ((c / 65536) % 256), iq ((c / 256) % 256), iq (c % 256)] 53 true] <| zDNr <| rA rfl 0 (.agg #[iq (c / 16777216), iq ((c / 65536) % 256), iq ((c / 256) % 256), iq (c % 256)]) fun w hT => ?_
 exact ⟨rfl, hT.post rfl⟩
theorem refMake (a r g b : Int) (w : World) :
    Calls Tryz.prog 23 #[iQ a, iQ r, iQ g, iQ b] w fun e w' => e = .returned (cQ (mkC a r g b)) ∧ Below w.heap.size w w' := by
 have ha : 0 ≤ mn (mx a 0) 255 ∧ mn (mx a 0) 255 ≤ 255 := by unfold mn mx; omega
 have hr : 0 ≤ mn (mx r 0) 255 ∧ mn (mx r 0) 255 ≤ 255 := by unfold mn mx; omega
 have hg : 0 ≤ mn (mx g 0) 255 ∧ mn (mx g 0) 255 ≤ 255 := by unfold mn mx; omega
 have hb : 0 ≤ mn (mx b 0) 255 ∧ mn (mx b 0) 255 ≤ 255 := by unfold mn mx; omega
 refine eN [(0, iq a), (1, iq r), (2, iq g), (3, iq b)] Tryz.func23 Tryz.ntmps23 rfl (Tab.start w) ?_
 refine zSR 1 <| bD [0] 1 0 [] [8] <| zDNSR 4 <| bD [0, 0, 0, 0] 4 0 [(0, iq (mn (mx a 0) 255))] [9, 10, 11] <| zDNSR 4 <| bD [0, 0, 0, 0] 4 0 [(1, iq (mn (mx r 0) 255))] [12, 13, 14] <| zDNSR 4 <| bD [0, 0, 0, 0] 4 0 [(2, iq (mn (mx g 0) 255))] [15, 16, 17] <| zDNSR 4 <| bD [0, 0, 0, 0] 4 0 [(3, iq (mn (mx b 0) 255))] [18, 19, 20] <| zDNSR 12 <| bD [0, 0] 2 10 [(22, iq (IntKind.i64.wrap ((mn (mx a 0) 255) * 16777216)))] [21] <| wI 22 ((mn (mx a 0) 255) * 16777216) <| bD [0, 0] 4 8 [(24, iq (IntKind.i64.wrap ((mn (mx r 0) 255) * 65536)))] [23] <| wI 24 ((mn (mx r 0) 255) * 65536) <| bD [0] 5 7 [(25, iq (IntKind.i64.wrap (((mn (mx a 0) 255) * 16777216) + ((mn (mx r 0) 255) * 65536))))] [] <| wI 25 (((mn (mx a 0) 255) * 16777216) + ((mn (mx r 0) 255) * 65536)) <| bD [0, 0] 7 5 [(27, iq (IntKind.i64.wrap ((mn (mx g 0) 255) * 256)))] [26] <| wI 27 ((mn (mx g 0) 255) * 256) <| bD [0] 8 4 [(28, iq (IntKind.i64.wrap ((((mn (mx a 0) 255) * 16777216) + ((mn (mx r 0) 255) * 65536)) + ((mn (mx g 0) 255) * 256))))] [] <| wI 28 ((((mn (mx a 0) 255) * 16777216) + ((mn (mx r 0) 255) * 65536)) + ((mn (mx g 0) 255) * 256)) <| bS [0, 0] 10 2 [(30, iq (IntKind.i64.wrap (((((mn (mx a 0) 255) * 16777216) + ((mn (mx r 0) 255) * 65536)) + ((mn (mx g 0) 255) * 256)) + (mn (mx b 0) 255))))] <| wI 30 (((((mn (mx a 0) 255) * 16777216) + ((mn (mx r 0) 255) * 65536)) + ((mn (mx g 0) 255) * 256)) + (mn (mx b 0) 255)) <| bS [0] 11 1 [(31, cQ (IntKind.u32.wrap (((((mn (mx a 0) 255) * 16777216) + ((mn (mx r 0) 255) * 65536)) + ((mn (mx g 0) 255) * 256)) + (mn (mx b 0) 255))))] <| wU 31 (((((mn (mx a 0) 255) * 16777216) + ((mn (mx r 0) 255) * 65536)) + ((mn (mx g 0) 255) * 256)) + (mn (mx b 0) 255)) <| bS [0] 12 0 [(8, cQ (((((mn (mx a 0) 255) * 16777216) + ((mn (mx r 0) 255) * 65536)) + ((mn (mx g 0) 255) * 256)) + (mn (mx b 0) 255)))] <| zDNr <| rA rfl 0 (cQ (((((mn (mx a 0) 255) * 16777216) + ((mn (mx r 0) 255) * 65536)) + ((mn (mx g 0) 255) * 256)) + (mn (mx b 0) 255))) fun w hT => ?_
 exact ⟨ret_int (by simp only [mkC, clip, mx_eq, mn_eq]), hT.post rfl⟩
theorem refGood3 (c : Int) (w : World) (h0 : 0 ≤ c) (h1 : c < 4294967296) :
    Calls Tryz.prog 28 #[cQ c] w fun e w' => e = .returned (cQ (goodC c)) ∧ Below w.heap.size w w' := by
 refine eN [(0, cQ c)] Tryz.func28 Tryz.ntmps28 rfl (Tab.start w) ?_
 refine zSR 1 <| bD [0] 1 0 [] [2] <| zDNSR 4 <| bS [0] 1 3 [(4, cQ c)] <| pS 2 2 <| cP 5 (.agg #[iq (pa c), iq (pr c), iq (pg c), iq (pb c)]) (fun w hT => refParts c w (by omega) (by omega)) <| bW [0, 0] 4 0 (fun b1 => [(3, .pointer (pB b1))]) (fun b1 => [.cells b1 [iq (pa c), iq (pr c), iq (pg c), iq (pb c)] 53 true]) [3] fun b1 => ?_
 refine zDNSR 19 <| bS [0, 0, 0, 0, 0, 0, 0, 0, 0, 0, 0, 0, 0, 0, 0, 0, 0] 17 2 [(7, iq (pa c)), (12, iq (mn (pr c) (pa c))), (17, iq (mn (pg c) (pa c))), (22, iq (mn (pb c) (pa c)))] <| fG 0 <| pS 18 1 <| cP 23 (cQ (mkC (pa c) (mn (pr c) (pa c)) (mn (pg c) (pa c)) (mn (pb c) (pa c)))) (fun w hT => refMake (pa c) (mn (pr c) (pa c)) (mn (pg c) (pa c)) (mn (pb c) (pa c)) w) <| bS [0] 19 0 [(2, cQ (mkC (pa c) (mn (pr c) (pa c)) (mn (pg c) (pa c)) (mn (pb c) (pa c))))] <| zDNr <| rA rfl 0 (cQ (mkC (pa c) (mn (pr c) (pa c)) (mn (pg c) (pa c)) (mn (pb c) (pa c)))) fun w hT => ?_
 exact ⟨rfl, hT.post rfl⟩
theorem refNew4 (W H : Int) (w : World) (hwh : 1 ≤ W ∧ W ≤ 256 ∧ 1 ≤ H ∧ H ≤ 256) :
    Calls Tryz.prog 25 #[iQ W, iQ H] w fun e w' => ∃ r n : Nat, e = .returned (.agg #[iQ W, iQ H, sL r n n]) ∧ (n : Int) = W * H ∧ Tab w w' [oE r n n 52 1 (cV (List.replicate n 0))] := by
 have hm : W * H ≤ 256 * 256 := mul_le_of (by omega) (by omega) (by omega) (by omega)
 have hm0 : 0 ≤ W * H := Int.mul_nonneg (by omega) (by omega)
 obtain ⟨n, hn⟩ : ∃ n : Nat, (n : Int) = W * H := ⟨(W * H).toNat, by omega⟩
 refine eN [(0, iq W), (1, iq H)] Tryz.func25 Tryz.ntmps25 rfl (Tab.start w) ?_
 refine zSR 1 <| bW [0] 1 0 (fun b1 => [(0, iq W), (1, iq H), (4, .pointer (pB b1))]) (fun b1 => [.cells b1 [iq 0, iq 0, .slice none 0 0] 59 true]) [0, 1, 4] fun b1 => ?_
 refine zDNSR 8 <| bD [0, 0, 0, 0, 0] 5 3 [(5, iq W), (6, iq H), (9, iq (IntKind.i64.wrap (W * H)))] [7, 8] <| rC 9 (iq (n : Int)) rfl (by rw [hn]; exact wrapI (by omega) (by omega)) <| pS 6 2 <| sSW 10 (Instr.makeSlice 50 (iq (n : Int)) (iq (n : Int))) (fun r2 => .slice (pB r2) n n) (fun r2 => [.gen (rowE (pB r2) r2 n n 52 1 (cV (List.replicate n 0)) true), .cells b1 [iq 0, iq 0, .slice none 0 0] 59 true]) (fun _ => True) (by kernel_rfl) (fun w hT => make_row hT (bytes := 4) n (by kernel_rfl) (by kernel_rfl) (by omega) (by omega)) (fun r2 _ => ?_)
 refine bZ [0, 1] 8 0 [(4, .pointer (pB b1))] [.gen (rowE (pB r2) r2 n n 52 1 (cV (List.replicate n 0)) true), .cells b1 [iq W, iq H, .slice (pB r2) n n] 59 true] <| zDNr <| rA rfl 1 (.agg #[iq W, iq H, .slice (pB r2) n n]) fun w hT => ?_
 replace hT := hT.erase 1 (fun e h hw => by cases h; first | rfl | cases hw)
 exact ⟨_, _, rfl, hn, hT⟩
theorem refGood4 (A1 : Option Addr) (g1 o1 n1 cap1 : Nat) (xs1 : List Int) (a b : Int) (w : World) (hT0 : Tab w w [rD (A1) g1 o1 n1 1 (cV xs1)]) (hh : GoodIn a b A1 g1 o1 n1 cap1 xs1) :
    Calls Tryz.prog 65 #[iQ a, iQ b, .slice A1 n1 cap1] w fun e w' => ∃ r n : Nat, e = .returned (.agg #[iQ (1 + aroundI a 16), iQ (1 + aroundI b 16), sL r n n]) ∧ (n : Int) = (1 + aroundI a 16) * (1 + aroundI b 16) ∧ Tab w w' [oE r n n 52 1 (cV (goodP n xs1 n))] := by
 obtain ⟨ha, hb, hl1, hc1, hm1, hx1, hat1⟩ := hh
 unfold maxLen at hm1
 have hr1a := hat1
 refine eN [(0, iq a), (1, iq b), (2, .slice A1 n1 cap1)] Tryz.func65 Tryz.ntmps65 rfl hT0 ?_
 refine zSR 1 <| bW [0] 1 0 (fun b1 => [(0, iq a), (1, iq b), (2, .slice A1 n1 cap1), (6, .pointer (pB b1))]) (fun b1 => [.cells b1 [iq 0, iq 0, .slice none 0 0] 59 true, rD (A1) g1 o1 n1 1 (cV xs1)]) [0, 1, 2, 6] fun b1 => ?_
 refine zDNSR 9 <| bD [0] 1 8 [(9, iq a)] [] <| pS 2 7 <| cP 10 (iq (aroundI a 16)) (fun w hT => refAround a 16 w (by omega) (by omega)) ?_
 have hq2_ := aroundI_range a (m := 16) (by omega)
 refine bD [0] 3 6 [(11, iq (IntKind.i64.wrap (1 + (aroundI a 16))))] [] <| wI 11 (1 + (aroundI a 16)) <| bD [0] 4 5 [(12, iq b)] [] <| pS 5 4 <| cP 13 (iq (aroundI b 16)) (fun w hT => refAround b 16 w (by omega) (by omega)) ?_
 have hq3_ := aroundI_range b (m := 16) (by omega)
 refine bD [0] 6 3 [(14, iq (IntKind.i64.wrap (1 + (aroundI b 16))))] [] <| wI 14 (1 + (aroundI b 16)) <| pS 7 2 <| cG (d := 15) (α := Nat × Nat) (fun x_ => .agg #[iq (1 + (aroundI a 16)), iq (1 + (aroundI b 16)), .slice (pB x_.1) x_.2 x_.2]) (fun x_ => [.gen (rowE (pB x_.1) x_.1 x_.2 x_.2 52 1 (cV (List.replicate x_.2 0)) true), .cells b1 [iq 0, iq 0, .slice none 0 0] 59 true, rD (A1) g1 o1 n1 1 (cV xs1)]) (fun x_ => (x_.2 : Int) = (1 + (aroundI a 16)) * (1 + (aroundI b 16))) (fun w hT => (refNew4 (1 + (aroundI a 16)) (1 + (aroundI b 16)) w (by omega)).mono fun e w' ⟨r4, n5, he_, hf_, ht_⟩ => ⟨(r4, n5), he_, hf_, hT.news ht_ rfl⟩) ?_
 rintro ⟨r4, n5⟩ hf6_
 replace hf6_ : (n5 : Int) = (1 + (aroundI a 16)) * (1 + (aroundI b 16)) := hf6_
 refine bW [0, 0] 9 0 (fun b7 => [(2, .slice A1 n1 cap1), (6, .pointer (pB b1)), (7, .pointer (pB b7))]) (fun b7 => [.cells b7 [iq (1 + (aroundI a 16)), iq (1 + (aroundI b 16)), .slice (pB r4) n5 n5] 59 true, .gen (rowE (pB r4) r4 n5 n5 52 1 (cV (List.replicate n5 0)) true), .cells b1 [iq 0, iq 0, .slice none 0 0] 59 true, rD (A1) g1 o1 n1 1 (cV xs1)]) [2, 6, 7] fun b7 => ?_
 refine zDNSSR 1 <| bD [0] 1 0 [(8, iq 0)] [] <| zDNB <| cont_rowEq (k := .u32) 1 (List.replicate n5 0) (goodP n5 xs1 0) rfl ((goodP_zero _ _).symm) ?_
 refine cL (α := Nat) (fun x_ : Nat => x_ ≤ n1 ∧ x_ ≤ n5) (fun x_ : Nat => [(2, .slice A1 n1 cap1), (6, .pointer (pB b1)), (7, .pointer (pB b7)), (8, iq (x_ : Int))]) (fun x_ : Nat => [.cells b7 [iq (1 + (aroundI a 16)), iq (1 + (aroundI b 16)), .slice (pB r4) n5 n5] 59 true, .gen (rowE (pB r4) r4 n5 n5 52 1 (cV (goodP n5 xs1 x_)) true), .cells b1 [iq 0, iq 0, .slice none 0 0] 59 true, rD (A1) g1 o1 n1 1 (cV xs1)]) (fun x_ : Nat => n1 - x_) 0 (⟨by omega, by omega⟩) ?_
 rintro i hinv8_
 replace hinv8_ : i ≤ n1 ∧ i ≤ n5 := hinv8_
 obtain ⟨hi1, hi2⟩ := hinv8_
 have hxi : i < n1 → 0 ≤ xs1.getD i 0 ∧ xs1.getD i 0 < 4294967296 := fun h => hx1 _ (by rw [List.getD_eq_getElem?_getD, List.getElem?_eq_getElem (by omega)]; simp)
 refine zSSR 11 <| bD [0, 0, 0, 0, 0] 5 6 [(20, .bool (decide ((i : Int) < (n1 : Int))))] [16, 17, 18, 19] <| sD 20 rfl (fun c9_ => ?_) fun c9_ => ?_
 ·
  refine bD [0, 0, 0, 0, 0, 0] 11 0 [(21, iq (i : Int)), (22, .pointer (some ⟨b7, 2, none⟩)), (23, .slice (pB r4) n5 n5), (24, iq (n5 : Int)), (25, .bool (decide ((i : Int) < (n5 : Int)))), (26, .bool (decide ((i : Int) < (n5 : Int))))] [] <| zDN <| cSp 26 _ rfl (fun c10_ => ?_) fun c10_ => ?_
  ·
   refine rC 25 (.bool true) rfl (congrArg Value.bool c10_) ?_
   replace c10_ := of_decide_eq_true c10_
   refine cTr rfl <| cont_skip <| zN <| cSq <| cont_block <| drawn_enter 10 [1] rfl (by kernel_rfl) ?_
   refine tD 0 [1] [(0, 0), (2, 0), (3, 0), (4, 0), (1, 0)] 5 [1, 4, 3, 2, 0] [(30, .slice (pB r4) n5 n5), (31, iq (i : Int)), (32, .slice A1 n1 cap1), (33, iq (i : Int))] [29] <| rC 32 (.slice (some ⟨g1, o1, none⟩) n1 cap1) rfl (by rw [hat1 (by omega)]) <| sT 0 [1] 5 4 34 (Instr.indexAt 50 (.slice (some ⟨g1, o1, none⟩) n1 cap1) (iq (i : Int))) (.pointer (some ⟨g1, o1 + i, none⟩)) (fun w hT => rI 52 1 w) <| sT 0 [1] 6 3 35 (Instr.loadAt 52 (.pointer (some ⟨g1, o1 + i, none⟩))) (cQ (xs1.getD i 0)) (fun w hT => rL (Rd.cell (hT 3 _ rfl) (i) _ (ivals_get (by omega)))) <| dO 7 2 <| cP 36 (cQ (goodC (xs1.getD i 0))) (fun w hT => refGood3 (xs1.getD i 0) w (by omega) (by omega)) <| dX 0 [1] <| sT 0 [1] 8 1 37 (Instr.indexAt 50 (.slice (pB r4) n5 n5) (iq (i : Int))) (.pointer (some ⟨r4, i, none⟩)) (fun w hT => rI 52 1 w) <| dO 9 0 <| sem_stepU (Instr.storeAt 52 (.pointer (some ⟨r4, i, none⟩)) (cQ (goodC (xs1.getD i 0)))) (fun _ => [.cells b7 [iq (1 + (aroundI a 16)), iq (1 + (aroundI b 16)), .slice (pB r4) n5 n5] 59 true, .gen (rowE (pB r4) r4 n5 n5 52 1 (cV ((goodP n5 xs1 i).set i (goodC (xs1.getD i 0)))) true), .cells b1 [iq 0, iq 0, .slice none 0 0] 59 true, rD (A1) g1 o1 n1 1 (cV xs1)]) (fun _ => True) (by kernel_rfl) (fun w hT => store_row hT (i := 1) rfl (by kernel_rfl) (by simp only [goodP_length]; omega)) (fun _ _ => ?_)
   refine dX 0 [1] <| dD <| zbNR 3 <| bD [0, 0] 2 1 [(28, iq (IntKind.i64.wrap ((i : Int) + 1)))] [27] <| wI 28 ((i : Int) + 1) <| bD [0] 3 0 [(8, iq ((i : Int) + 1))] [] <| zDN <| cont_rowEq (k := .u32) 1 ((goodP n5 xs1 i).set i (goodC (xs1.getD i 0))) (goodP n5 xs1 (i + 1)) rfl (goodP_set (by omega)) ?_
   refine cA (i + 1) (show (i + 1) ≤ n1 ∧ (i + 1) ≤ n5 from ⟨by omega, by omega⟩)
  refine rC 25 (.bool false) rfl (congrArg Value.bool c10_) ?_
  replace c10_ := of_decide_eq_false c10_
  refine zFXxxeNSR 2 <| bZ [0, 2] 2 0 [(6, .pointer (pB b1))] [.cells b7 [iq (1 + (aroundI a 16)), iq (1 + (aroundI b 16)), .slice (pB r4) n5 n5] 59 true, .gen (rowE (pB r4) r4 n5 n5 52 1 (cV (goodP n5 xs1 i)) true), .cells b1 [iq (1 + (aroundI a 16)), iq (1 + (aroundI b 16)), .slice (pB r4) n5 n5] 59 true, rD (A1) g1 o1 n1 1 (cV xs1)] <| fG 0 <| zDNr <| rA rfl 1 (.agg #[iq (1 + (aroundI a 16)), iq (1 + (aroundI b 16)), .slice (pB r4) n5 n5]) fun w hT => ?_
  replace hT := hT.erase 2 (fun e h hw => by cases h; first | rfl | cases hw)
  replace hT := hT.erase 1 (fun e h hw => by cases h; first | rfl | cases hw)
  rw [goodP_end (by omega)] at hT
  exact ⟨_, _, rfl, ‹_›, hT⟩
 refine bD [0, 0, 0, 0, 0, 0] 11 0 [(21, undef), (22, undef), (23, undef), (24, undef), (25, undef), (26, .bool false)] [] <| zDNFXxxeNSR 2 <| bZ [0, 2] 2 0 [(6, .pointer (pB b1))] [.cells b7 [iq (1 + (aroundI a 16)), iq (1 + (aroundI b 16)), .slice (pB r4) n5 n5] 59 true, .gen (rowE (pB r4) r4 n5 n5 52 1 (cV (goodP n5 xs1 i)) true), .cells b1 [iq (1 + (aroundI a 16)), iq (1 + (aroundI b 16)), .slice (pB r4) n5 n5] 59 true, rD (A1) g1 o1 n1 1 (cV xs1)] <| fG 0 <| zDNr <| rA rfl 1 (.agg #[iq (1 + (aroundI a 16)), iq (1 + (aroundI b 16)), .slice (pB r4) n5 n5]) fun w hT => ?_
 replace hT := hT.erase 2 (fun e h hw => by cases h; first | rfl | cases hw)
 replace hT := hT.erase 1 (fun e h hw => by cases h; first | rfl | cases hw)
 rw [goodP_end (by omega)] at hT
 exact ⟨_, _, rfl, ‹_›, hT⟩
theorem imgSet (m : Nat) (W H : Int) (r n cap : Nat) (px : List Int) (x y c : Int) (w : World) (hI : Img 116 52 w m W H r n cap px) (hok : ImgOk W H n px) (hc : InC c) :
    Calls Tryz.prog 29 #[pT m, iQ x, iQ y, cQ c] w fun e w' => e = .returned (iQ (setE W H x y c)) ∧ KeepBut w w' r ∧ Row w' (some ⟨r, 0, none⟩) r n cap 52 1 (cV (setL W H px x y c)) := by
 have hw1 := hok.w1
 have hw2 := hok.w2
 have hh1 := hok.h1
 have hh2 := hok.h2
 have hnum := hok.num
 have hlen := hok.len
 have hle := hok.le
 have hcap := hI.row.capLe
 obtain ⟨hc0, hc1⟩ := hc
 refine enter 34 [(0, .pointer (pB m)), (1, iq x), (2, iq y), (3, cQ c)] [.ro m [iq W, iq H, .slice (pB r) n cap] 116, .gen (rowE (pB r) r n cap 52 1 (cV px) false)] Tryz.func29 rfl Tryz.ntmps29 rfl (by kernel_rfl) hI.tabRw ?_
 refine zSR 1 <| bD [0] 1 0 [] [8] <| zDNS <| cont_block <| zSR 7 <| bD [0] 1 6 [(10, .pointer (pB m))] [] <| pS 2 5 <| cP 11 (.agg #[iq 0, iq 0, iq W, iq H]) (fun w hT => imgBox m W H r n cap px  w ⟨hT.ok 0 _ rfl, Row.rd (hT.ok 1 _ rfl), Row.capLe (hT.ok 1 _ rfl)⟩ hok) <| bD [0, 0] 4 3 [(12, iq x), (13, iq y)] [] <| pS 5 2 <| cP 14 (.bool (hasB 0 0 W H x y)) (fun w hT => rectHas 0 0 W H x y w) <| bD [0, 0] 7 0 [(9, .bool (!(hasB 0 0 W H x y)))] [15] <| zDN <| cSp 9 _ rfl (fun c1_ => ?_) fun c1_ => ?_
 ·
  replace c1_ : (hasB 0 0 W H x y) = false := by simpa using c1_
  refine zTSR 1 <| bS [0] 1 0 [(8, iq 4)] <| zDNr <| blk_ret <| then_ret ?_
  refine rA rfl 0 (iq 4) fun w hT => ?_
  refine ⟨ret_int (by simp [setE, *]), hT.keep 1 rfl rfl, ?_⟩
  have hR := hT.ok 1 _ rfl
  rw [show setL W H px x y c = px from by simp [setL, *]]
  exact hR
 replace c1_ : (hasB 0 0 W H x y) = true := by simpa using c1_
 obtain ⟨hx0, hx1, hy0, hy1⟩ := hasB_true.1 c1_
 have hpl := hok.place hx0 hx1 hy0 hy1
 refine cFa rfl <| zSR 4 <| bD [0] 1 3 [(17, cQ c)] [] <| pS 2 2 <| cP 18 (.bool (mayB c)) (fun w hT => colorMay c w (by omega) (by omega)) <| bD [0, 0] 4 0 [(16, .bool (!(mayB c)))] [19] <| zDN <| cSp 16 _ rfl (fun c2_ => ?_) fun c2_ => ?_
 ·
  replace c2_ : (mayB c) = false := by simpa using c2_
  refine zTSR 1 <| bS [0] 1 0 [(8, iq 1)] <| zDNr <| blk_ret <| then_ret ?_
  refine rA rfl 0 (iq 1) fun w hT => ?_
  refine ⟨ret_int (by simp [setE, *]), hT.keep 1 rfl rfl, ?_⟩
  have hR := hT.ok 1 _ rfl
  rw [show setL W H px x y c = px from by simp [setL, *]]
  exact hR
 replace c2_ : (mayB c) = true := by simpa using c2_
 refine cFa rfl <| cont_skip <| blk_normal <| zN <| cSq <| drawn_enter 15 [1] rfl (by kernel_rfl) ?_
 refine tD 0 [1] [(0, 0), (4, 0), (5, 0), (10, 0), (12, 0), (1, 0), (6, 0), (2, 0), (7, 0), (3, 0), (8, 0), (9, 0)] 3 [9, 8, 3, 7, 2, 6, 1, 12, 10, 5, 4, 0] [(23, .slice (pB r) n cap), (29, iq (IntKind.i64.wrap (y * W))), (30, iq x), (32, cQ c)] [20, 21, 22, 24, 25, 26, 27, 28] <| wI 29 (y * W) <| tD 0 [1] [(11, 0)] 2 [11, 9, 8, 3, 7, 2, 6, 1, 12, 10, 5, 4, 0] [(31, iq (IntKind.i64.wrap ((y * W) + x)))] [] <| wI 31 ((y * W) + x) <| sT 0 [1] 13 1 33 (Instr.indexAt 50 (.slice (pB r) n cap) (iq ((y * W) + x))) (.pointer (some ⟨r, Int.toNat ((y * W) + x), none⟩)) (fun w hT => rI 52 1 w) <| dO 14 0 <| sem_stepU (Instr.storeAt 52 (.pointer (some ⟨r, Int.toNat ((y * W) + x), none⟩)) (cQ c)) (fun _ => [.ro m [iq W, iq H, .slice (pB r) n cap] 116, .gen (rowE (pB r) r n cap 52 1 (cV (px.set (Int.toNat ((y * W) + x)) c)) false)]) (fun _ => True) (by kernel_rfl) (fun w hT => store_row hT (i := 1) rfl (by kernel_rfl) (by omega)) (fun _ _ => ?_)
 refine dX 0 [1] <| dD <| zN <| zSR 1 <| bS [0] 1 0 [(8, iq 0)] <| zDNr <| rA rfl 0 (iq 0) fun w hT => ?_
 refine ⟨ret_int (by simp [setE, *]), hT.keep 1 rfl rfl, ?_⟩
 have hR := hT.ok 1 _ rfl
 rw [show setL W H px x y c = px.set (Int.toNat ((y * W) + x)) c from by simp [setL, *]]
 exact hR
theorem bld (W H : Int) (r n cap : Nat) (px : List Int) (w : World) (hT0 : Tab w w [rD (some ⟨r, 0, none⟩) r 0 n 1 (cV px)]) (hok : ImgOk W H n px) (hmay : AllMay px) :
    Calls Tryz.prog 24 #[.agg #[iQ W, iQ H, sL r n cap]] w fun e w' => ∃ b q : Nat, e = .returned (pT b) ∧ NewImg 116 52 w w' b W H q n n px := by
 have hw1 := hok.w1
 have hw2 := hok.w2
 have hh1 := hok.h1
 have hh2 := hok.h2
 have hnum := hok.num
 have hlen := hok.len
 have hle := hok.le
 refine eN [(0, .agg #[iq W, iq H, .slice (pB r) n cap])] Tryz.func24 Tryz.ntmps24 rfl hT0 ?_
 refine zSR 2 <| bW [0, 0] 2 0 (fun b1 => [(1, .pointer (pB b1))]) (fun b1 => [.cells b1 [iq W, iq H, .slice (pB r) n cap] 59 true, rD (pB r) r 0 n 1 (cV px)]) [1] fun b1 => ?_
 refine zDNSR 10 <| bD [0, 0, 0, 0] 4 6 [(8, iq W), (10, iq H)] [7, 9] <| pS 5 5 <| cG (d := 11) (α := Nat × Nat × Nat) (fun x_ => .tuple #[.pointer (pB x_.1), iq 0]) (fun x_ => [.cells x_.1 [iq W, iq H, .slice (pB x_.2.1) x_.2.2 x_.2.2] 116 true, .gen (rowE (pB x_.2.1) x_.2.1 x_.2.2 x_.2.2 52 1 (cV (List.replicate x_.2.2 0)) true), .cells b1 [iq W, iq H, .slice (pB r) n cap] 59 true, rD (pB r) r 0 n 1 (cV px)]) (fun x_ => (x_.2.2 : Int) = W * H) (fun w hT => (imgNew W H w ⟨hw1, hw2, hh1, hh2⟩).mono fun e w' ⟨b_, r_, n_, he_, hn_, hi_⟩ => ⟨(b_, r_, n_), he_, hn_, hT.addImg hi_⟩) ?_
 rintro ⟨b2, r2, n2⟩ hn2
 replace hn2 : (n2 : Int) = W * H := hn2
 have hnn : n2 = n := by have := hok.num; omega
 refine bD [0, 0, 0, 0, 0] 10 0 [(3, .pointer (pB b2)), (4, iq 0)] [6, 12, 13] <| zDNSSR 6 <| bD [0, 0, 0, 0, 0, 0] 6 0 [(19, .bool false)] [14, 15, 16, 17, 18] <| zDN <| zFKNSSR 1 <| bD [0] 1 0 [(5, iq 0)] [] <| zDNB <| cont_rowEq (k := .u32) 1 (List.replicate n2 0) (bldP px 0) rfl (by rw [bldP_zero, hlen, hnn]) ?_
 refine cL (α := Nat) (fun x_ : Nat => x_ ≤ n2) (fun x_ : Nat => [(1, .pointer (pB b1)), (3, .pointer (pB b2)), (5, iq (x_ : Int))]) (fun x_ : Nat => [.cells b2 [iq W, iq H, .slice (pB r2) n2 n2] 116 true, .gen (rowE (pB r2) r2 n2 n2 52 1 (cV (bldP px x_)) true), .cells b1 [iq W, iq H, .slice (pB r) n cap] 59 true, rD (pB r) r 0 n 1 (cV px)]) (fun x_ : Nat => n2 - x_) 0 (by omega) ?_
 rintro i hinv3_
 replace hinv3_ : i ≤ n2 := hinv3_
 have hi := hinv3_
 have hem := emod_range i hw1
 refine zSSR 5 <| bD [0, 0, 2, 0, 0] 5 0 [(24, .bool (decide ((i : Int) < (n : Int))))] [20, 21, 22, 23] <| zDN <| sD 24 rfl (fun c4_ => ?_) fun c4_ => ?_
 ·
  refine cTr rfl <| cont_skip <| zN <| cSq <| cont_block <| drawn_enter 15 [1] rfl (by kernel_rfl) ?_
  refine tD 0 [1] [(0, 0), (1, 0), (2, 0), (5, 0), (6, 0), (9, 0), (11, 0), (3, 2), (7, 2), (10, 2)] 5 [10, 7, 3, 11, 9, 6, 5, 2, 1, 0] [(27, .pointer (pB b2)), (28, iq (i : Int)), (30, iq W), (32, iq (i : Int)), (34, iq W), (37, .slice (pB r) n cap), (38, iq (i : Int))] [29, 33, 36] <| sT 0 [1] 4 4 31 (bopS .rem 3 (.tmp 28) (.tmp 30) (iq (i : Int)) (iq W)) (iq ((i : Int).tmod W)) (fun w hT => run_rem (by omega) w) <| rC 31 (iq ((i : Int) % W)) rfl (tmodI (by omega)) <| sT 0 [1] 8 3 35 (bopS .quo 3 (.tmp 32) (.tmp 34) (iq (i : Int)) (iq W)) (iq (IntKind.i64.wrap ((i : Int).tdiv W))) (fun w hT => run_quo (by omega) w) <| rC 35 (iq ((i : Int) / W)) rfl (tdivI (by omega) (by omega) (by omega)) <| sT 0 [1] 12 2 39 (Instr.indexAt 50 (.slice (pB r) n cap) (iq (i : Int))) (.pointer (some ⟨r, i, none⟩)) (fun w hT => rI 52 1 w) <| sT 0 [1] 13 1 40 (Instr.loadAt 52 (.pointer (some ⟨r, i, none⟩))) (cQ (px.getD i 0)) (fun w hT => rL (Rd.cell0 (hT 3 _ rfl) (i) _ (ivals_get (by omega)))) <| dO 14 0 <| cG (d := 41) (α := Unit) (fun _ => iq (setE W H ((i : Int) % W) ((i : Int) / W) (px.getD i 0))) (fun _ => [.cells b2 [iq W, iq H, .slice (pB r2) n2 n2] 116 true, .gen (rowE (pB r2) r2 n2 n2 52 1 (cV (setL W H (bldP px i) ((i : Int) % W) ((i : Int) / W) (px.getD i 0))) true), .cells b1 [iq W, iq H, .slice (pB r) n cap] 59 true, rD (pB r) r 0 n 1 (cV px)]) (fun _ => True) (fun w hT => (imgSet b2 W H r2 n2 n2 (bldP px i) ((i : Int) % W) ((i : Int) / W) (px.getD i 0) w ⟨hT.ok 0 _ rfl, hT.ok 1 _ rfl, fun hne => hT.disj 0 1 _ _ (by omega) rfl rfl (.inr rfl) _ rfl ⟨hne, by simp⟩⟩ (imgOk_of ⟨hw1, hw2, hh1, hh2⟩ hn2 (by rw [bldP_length, hnn]; exact hlen) (bldP_may hmay i)) (hmay.get (by omega)).2).mono fun e w' ⟨he_, hk_, hr_⟩ => ⟨(), he_, trivial, hT.keepBut hk_ (i := 1) rfl hr_⟩) (fun _ _ => ?_)
  refine dX 0 [1] <| dD <| zbNR 3 <| bD [0, 0] 2 1 [(26, iq (IntKind.i64.wrap ((i : Int) + 1)))] [25] <| wI 26 ((i : Int) + 1) <| bD [0] 3 0 [(5, iq ((i : Int) + 1))] [] <| zDN <| cont_rowEq (k := .u32) 1 (setL W H (bldP px i) ((i : Int) % W) ((i : Int) / W) (px.getD i 0)) (bldP px (i + 1)) rfl ((setL_at hok.w1 hok.num (by omega) (hmay.get (by omega)).1).trans (bldP_set (by omega))) ?_
  refine cA (i + 1) (show (i + 1) ≤ n2 from (by omega))
 refine zFXxxeNSR 2 <| bS [0, 0] 2 0 [(2, .pointer (pB b2))] <| fG 2 <| zDNr <| rA rfl 0 (.pointer (pB b2)) fun w hT => ?_
 replace hT := hT.erase 2 (fun e h hw => by cases h; first | rfl | cases hw)
 rw [bldP_all (by omega)] at hT
 rw [← hnn]
 exact ⟨_, _, rfl, newImg_of_tab hT⟩
theorem refHas (a b c d x y : Int) (w : World) :
    Calls Tryz.prog 55 #[.agg #[iQ a, iQ b, iQ c, iQ d], iQ x, iQ y] w fun e w' => e = .returned (.bool (hasB a b c d x y)) ∧ Below w.heap.size w w' := by
 refine eN [(0, .agg #[iq a, iq b, iq c, iq d]), (1, iq x), (2, iq y)] Tryz.func55 Tryz.ntmps55 rfl (Tab.start w) ?_
 refine zSR 2 <| bW [0, 0] 2 0 (fun b1 => [(1, iq x), (2, iq y), (3, .pointer (pB b1))]) (fun b1 => [.cells b1 [iq a, iq b, iq c, iq d] 32 true]) [1, 2, 3] fun b1 => ?_
 refine zDNSR 23 <| bD [0, 0, 0, 0, 0] 5 18 [(11, .bool (decide (a ≤ x)))] [7, 8, 9, 10] <| sD 11 rfl (fun c2_ => ?_) fun c2_ => ?_
 ·
  refine bD [0, 0, 0, 0, 0, 0] 11 12 [(17, .bool (decide (x < c)))] [12, 13, 14, 15, 16] <| sD 17 rfl (fun c3_ => ?_) fun c3_ => ?_
  ·
   refine bD [0, 0, 0, 0, 0, 0] 17 6 [(23, .bool (decide (b ≤ y)))] [18, 19, 20, 21, 22] <| sD 23 rfl (fun c4_ => ?_) fun c4_ => ?_
   ·
    refine bS [0, 0, 0, 0, 0, 0] 23 0 [(6, .bool (decide (y < d)))] <| fG 0 <| zDNr <| rA rfl 0 (.bool (decide (y < d))) fun w hT => ?_
    exact ⟨ret_bool (by simp [hasB, *] <;> omega), hT.post rfl⟩
   refine bS [0, 0, 0, 0, 0, 0] 23 0 [(6, .bool false)] <| fG 0 <| zDNr <| rA rfl 0 (.bool false) fun w hT => ?_
   exact ⟨ret_bool (by simp [hasB, *] <;> omega), hT.post rfl⟩
  refine bS [0, 0, 0, 0, 0, 0, 0, 0, 0, 0, 0, 0] 23 0 [(6, .bool false)] <| fG 0 <| zDNr <| rA rfl 0 (.bool false) fun w hT => ?_
  exact ⟨ret_bool (by simp [hasB, *] <;> omega), hT.post rfl⟩
 refine bS [0, 0, 0, 0, 0, 0, 0, 0, 0, 0, 0, 0, 0, 0, 0, 0, 0, 0] 23 0 [(6, .bool false)] <| fG 0 <| zDNr <| rA rfl 0 (.bool false) fun w hT => ?_
 exact ⟨ret_bool (by simp [hasB, *] <;> omega), hT.post rfl⟩
theorem refAt (W H : Int) (r n cap : Nat) (px : List Int) (x y : Int) (w : World) (hT0 : Tab w w [rD (some ⟨r, 0, none⟩) r 0 n 1 (cV px)]) (hok : ImgOk W H n px) :
    Calls Tryz.prog 81 #[.agg #[iQ W, iQ H, sL r n cap], iQ x, iQ y] w fun e w' => e = .returned (.tuple #[cQ (atC W H px x y), .bool (hasB 0 0 W H x y)]) ∧ Below w.heap.size w w' := by
 have hw1 := hok.w1
 have hw2 := hok.w2
 have hh1 := hok.h1
 have hh2 := hok.h2
 have hnum := hok.num
 have hlen := hok.len
 have hle := hok.le
 refine eN [(0, .agg #[iq W, iq H, .slice (pB r) n cap]), (1, iq x), (2, iq y)] Tryz.func81 Tryz.ntmps81 rfl hT0 ?_
 refine zSR 3 <| bW [0, 0, 0] 3 0 (fun b1 => [(1, iq x), (2, iq y), (3, .pointer (pB b1))]) (fun b1 => [.cells b1 [iq W, iq H, .slice (pB r) n cap] 59 true, rD (pB r) r 0 n 1 (cV px)]) [1, 2, 3] fun b1 => ?_
 refine zDNSSR 18 <| bD [0, 0, 0] 3 15 [(10, .bool (decide (x < 0)))] [8, 9] <| sD 10 rfl (fun c2_ => ?_) fun c2_ => ?_
 ·
  refine bD [0, 0, 0, 0, 0, 0, 0, 0, 0, 0, 0, 0, 0, 0, 0] 18 0 [(25, .bool true)] [11, 12, 13, 14, 15, 16, 17, 18, 19, 20, 21, 22, 23, 24] <| zDN <| zTSR 2 <| bS [0, 0] 2 0 [(6, cQ 0), (7, .bool false)] <| fG 0 <| zDNrt <| rB rfl 0 0 (cQ 0) (.bool false) fun w hT => ?_
  refine ⟨?_, hT.post rfl⟩
  rw [show hasB 0 0 W H x y = false from hasB_no (by omega), show atC W H px x y = 0 from by unfold atC; rw [hasB_no (by omega)]; rfl]
 refine bD [0, 0, 0, 0] 7 11 [(14, .bool (decide (y < 0)))] [11, 12, 13] <| sD 14 rfl (fun c3_ => ?_) fun c3_ => ?_
 ·
  refine bD [0, 0, 0, 0, 0, 0, 0, 0, 0, 0, 0] 18 0 [(25, .bool true)] [15, 16, 17, 18, 19, 20, 21, 22, 23, 24] <| zDN <| zTSR 2 <| bS [0, 0] 2 0 [(6, cQ 0), (7, .bool false)] <| fG 0 <| zDNrt <| rB rfl 0 0 (cQ 0) (.bool false) fun w hT => ?_
  refine ⟨?_, hT.post rfl⟩
  rw [show hasB 0 0 W H x y = false from hasB_no (by omega), show atC W H px x y = 0 from by unfold atC; rw [hasB_no (by omega)]; rfl]
 refine bD [0, 0, 0, 0, 0, 0] 13 5 [(20, .bool (decide (x ≥ W)))] [15, 16, 17, 18, 19] <| sD 20 rfl (fun c4_ => ?_) fun c4_ => ?_
 ·
  refine bD [0, 0, 0, 0, 0] 18 0 [(25, .bool true)] [21, 22, 23, 24] <| zDN <| zTSR 2 <| bS [0, 0] 2 0 [(6, cQ 0), (7, .bool false)] <| fG 0 <| zDNrt <| rB rfl 0 0 (cQ 0) (.bool false) fun w hT => ?_
  refine ⟨?_, hT.post rfl⟩
  rw [show hasB 0 0 W H x y = false from hasB_no (by omega), show atC W H px x y = 0 from by unfold atC; rw [hasB_no (by omega)]; rfl]
 refine bD [0, 0, 0, 0, 0] 18 0 [(25, .bool (decide (y ≥ H)))] [21, 22, 23, 24] <| zDN <| sD 25 rfl (fun c5_ => ?_) fun c5_ => ?_
 ·
  refine zTSR 2 <| bS [0, 0] 2 0 [(6, cQ 0), (7, .bool false)] <| fG 0 <| zDNrt <| rB rfl 0 0 (cQ 0) (.bool false) fun w hT => ?_
  refine ⟨?_, hT.post rfl⟩
  rw [show hasB 0 0 W H x y = false from hasB_no (by omega), show atC W H px x y = 0 from by unfold atC; rw [hasB_no (by omega)]; rfl]
 refine zFKNSR 12 ?_
 have hpl := hok.place (x := x) (y := y) (by omega) (by omega) (by omega) (by omega)
 refine bD [0, 0, 0, 0, 0, 0] 6 6 [(27, .slice (pB r) n cap), (31, iq (IntKind.i64.wrap (y * W)))] [26, 28, 29, 30] <| wI 31 (y * W) <| fG 0 <| bD [0, 0] 8 4 [(33, iq (IntKind.i64.wrap ((y * W) + x)))] [32] <| wI 33 ((y * W) + x) <| pS 9 3 <| sS 34 (Instr.indexAt 50 (.slice (pB r) n cap) (iq ((y * W) + x))) (.pointer (some ⟨r, Int.toNat ((y * W) + x), none⟩)) (fun w hT => rI 52 1 w) <| pS 10 2 <| sS 35 (Instr.loadAt 52 (.pointer (some ⟨r, Int.toNat ((y * W) + x), none⟩))) (cQ (px.getD (Int.toNat ((y * W) + x)) 0)) (fun w hT => rL (Rd.cell0 (hT.ok 0 _ rfl) (Int.toNat ((y * W) + x)) _ (ivals_get (by omega)))) <| bS [0, 0] 12 0 [(6, cQ (px.getD (Int.toNat ((y * W) + x)) 0)), (7, .bool true)] <| zDNr <| rB rfl 0 0 (cQ (px.getD (Int.toNat ((y * W) + x)) 0)) (.bool true) fun w hT => ?_
 refine ⟨?_, hT.post rfl⟩
 rw [show hasB 0 0 W H x y = true from hasB_true.2 (by omega), show atC W H px x y = px.getD (Int.toNat ((y * W) + x)) 0 from by unfold atC; rw [hasB_true.2 (by omega)]; rfl]
theorem sliceEq (A : Option Addr) (g o n cap : Nat) (xs : List Int) (A' : Option Addr) (g' o' n' cap' : Nat) (xs' : List Int) (w : World) (hT0 : Tab w w [rD (A) g o n 1 (cV xs), rD (A') g' o' n' 1 (cV xs')]) (hn : n ≤ 65536) :
    Calls Tryz.prog 64 #[.slice A n cap, .slice A' n' cap'] w fun e w' => e = .returned (.bool (decide (xs = xs'))) ∧ Below w.heap.size w w' := by
 refine eN [(0, .slice A n cap), (1, .slice A' n' cap')] Tryz.func64 Tryz.ntmps64 rfl hT0 ?_
 refine cont_fact (F := (0 < n → (A : Option Addr) = some ⟨g, o, none⟩) ∧ xs.length = n) (fun w hT => Rd.facts (hT.ok 0 _ rfl)) (fun hl1_ => ?_)
 obtain ⟨hl1_a, hl1_l⟩ := hl1_
 refine cont_fact (F := (0 < n' → (A' : Option Addr) = some ⟨g', o', none⟩) ∧ xs'.length = n') (fun w hT => Rd.facts (hT.ok 1 _ rfl)) (fun hl2_ => ?_)
 obtain ⟨hl2_a, hl2_l⟩ := hl2_
 refine zSR 1 <| bD [0] 1 0 [] [4] <| zDNSSR 5 <| bD [0, 0, 0, 0, 0] 5 0 [(10, .bool ((n : Int) != ((n' : Nat) : Int)))] [6, 7, 8, 9] <| zDN <| sN 10 rfl (fun c3_ => ?_) fun c3_ => ?_
 ·
  refine zTSR 1 <| bS [0] 1 0 [(4, .bool false)] <| zDNrt <| rA rfl 0 (.bool false) fun w hT => ?_
  exact ⟨ret_bool (decide_eq_false (by first | exact list_ne_getD ‹_› | (intro he; have := congrArg List.length he; omega))).symm, hT.post rfl⟩
 refine zFKNSSR 3 <| bD [0, 0, 0] 3 0 [(12, iq (n : Int)), (13, iq 0)] [11] <| zDNB <| cL (α := Nat) (fun x_ : Nat => x_ ≤ n ∧ ∀ j, j < x_ → xs.getD j 0 = xs'.getD j 0) (fun x_ : Nat => [(0, .slice A n cap), (1, .slice A' n' cap'), (12, iq (n : Int)), (13, iq (x_ : Int))]) (fun x_ : Nat => [rD (A) g o n 1 (cV xs), rD (A') g' o' n' 1 (cV xs')]) (fun x_ : Nat => n - x_) 0 (⟨by omega, fun j hj => by omega⟩) ?_
 rintro i hinv4_
 replace hinv4_ : i ≤ n ∧ ∀ j, j < i → xs.getD j 0 = xs'.getD j 0 := hinv4_
 obtain ⟨hi, hall⟩ := hinv4_
 refine zSR 1 <| bD [0] 1 0 [(14, .bool (decide ((i : Int) < (n : Int))))] [] <| zDNS <| sD 14 rfl (fun c5_ => ?_) fun c5_ => ?_
 ·
  refine zTKNSBSR 2 <| bD [0, 0] 2 0 [(5, iq (i : Int))] [15] <| zDNS <| drawn_enter 9 [] rfl (by kernel_rfl) ?_
  refine tD 0 [] [(0, 0), (1, 0), (4, 0), (5, 0)] 5 [5, 4, 1, 0] [(16, .slice A n cap), (17, iq (i : Int)), (20, .slice A' n' cap'), (21, iq (i : Int))] [] <| rC 16 (.slice (some ⟨g, o, none⟩) n cap) rfl (by rw [hl1_a (by omega)]) <| sT 0 [] 2 4 18 (Instr.indexAt 50 (.slice (some ⟨g, o, none⟩) n cap) (iq (i : Int))) (.pointer (some ⟨g, o + i, none⟩)) (fun w hT => rI 52 1 w) <| sT 0 [] 3 3 19 (Instr.loadAt 52 (.pointer (some ⟨g, o + i, none⟩))) (cQ (xs.getD i 0)) (fun w hT => rL (Rd.cell (hT 0 _ rfl) (i) _ (ivals_get (by omega)))) <| rC 20 (.slice (some ⟨g', o', none⟩) n' cap') rfl (by rw [hl2_a (by omega)]) <| sT 0 [] 6 2 22 (Instr.indexAt 50 (.slice (some ⟨g', o', none⟩) n' cap') (iq (i : Int))) (.pointer (some ⟨g', o' + i, none⟩)) (fun w hT => rI 52 1 w) <| sT 0 [] 7 1 23 (Instr.loadAt 52 (.pointer (some ⟨g', o' + i, none⟩))) (cQ (xs'.getD i 0)) (fun w hT => rL (Rd.cell (hT 1 _ rfl) (i) _ (ivals_get (by omega)))) <| tD 0 [] [(8, 0)] 0 [8, 7, 6, 3, 2, 5, 4, 1, 0] [(24, .bool ((xs.getD i 0) != (xs'.getD i 0)))] [] <| dD <| zN <| sN 24 rfl (fun c6_ => ?_) fun c6_ => ?_
  ·
   refine zTSR 1 <| bS [0] 1 0 [(4, .bool false)] <| zDNruttut <| rA rfl 0 (.bool false) fun w hT => ?_
   exact ⟨ret_bool (decide_eq_false (by first | exact list_ne_getD ‹_› | (intro he; have := congrArg List.length he; omega))).symm, hT.post rfl⟩
  refine zFKbNR 2 <| bD [0] 1 1 [(25, iq (IntKind.i64.wrap ((i : Int) + 1)))] [] <| wI 25 ((i : Int) + 1) <| bD [0] 2 0 [(13, iq ((i : Int) + 1))] [] <| zDN <| cA (i + 1) (show (i + 1) ≤ n ∧ ∀ j, j < (i + 1) → xs.getD j 0 = xs'.getD j 0 from ⟨by omega, fun j hj => by rcases Nat.lt_succ_iff_lt_or_eq.1 hj with h_ | h_; exact hall j h_; subst h_; assumption⟩)
 refine zFXxxeNSR 1 <| bS [0] 1 0 [(4, .bool true)] <| zDNr <| rA rfl 0 (.bool true) fun w hT => ?_
 exact ⟨ret_bool (decide_eq_true (list_eq_getD (n := n) ‹_› (by omega) (fun j hj => hall j (by omega)))).symm, hT.post rfl⟩
theorem imgSame (m : Nat) (W H : Int) (r n cap : Nat) (px : List Int) (m' : Nat) (W' H' : Int) (r' n' cap' : Nat) (px' : List Int) (w : World) (hT0 : Tab w w [.ro m [iQ W, iQ H, sL r n cap] 116, rD (some ⟨r, 0, none⟩) r 0 n 1 (cV px), .ro m' [iQ W', iQ H', .slice (some ⟨r', 0, none⟩) n' cap'] 116, rD (some ⟨r', 0, none⟩) r' 0 n' 1 (cV px')]) (hok : ImgOk W H n px) (hok' : ImgOk W' H' n' px') :
    Calls Tryz.prog 33 #[pT m, .pointer (some ⟨m', 0, none⟩)] w fun e w' => e = .returned (.bool (sameB W H px W' H' px')) ∧ Below w.heap.size w w' := by
 have hw1 := hok.w1
 have hw2 := hok.w2
 have hh1 := hok.h1
 have hh2 := hok.h2
 have hnum := hok.num
 have hlen := hok.len
 have hle := hok.le
 refine eN [(0, .pointer (pB m)), (1, .pointer (some ⟨m', 0, none⟩))] Tryz.func33 Tryz.ntmps33 rfl hT0 ?_
 refine zSR 1 <| bD [0] 1 0 [] [4] <| zDNS <| drawn_enter 32 [] rfl (by kernel_rfl) ?_
 refine tD 0 [] [(0, 0), (4, 0), (1, 0), (5, 0), (2, 0), (6, 0), (3, 0), (7, 2), (8, 0), (9, 0)] 22 [9, 8, 7, 3, 6, 2, 5, 1, 4, 0] [(14, .bool (W == W'))] [5, 6, 7, 8, 9, 10, 11, 12, 13] <| sE 14 rfl (fun c1_ => ?_) fun c1_ => ?_
 ·
  refine tD 0 [] [(10, 0), (14, 0), (11, 0), (15, 0), (12, 0), (16, 0), (13, 0), (17, 2), (18, 0), (19, 0), (20, 0)] 11 [20, 19, 18, 17, 13, 16, 12, 15, 11, 14, 10, 9, 8, 7, 3, 6, 2, 5, 1, 4, 0] [(25, .bool (H == H'))] [15, 16, 17, 18, 19, 20, 21, 22, 23, 24] <| sE 25 rfl (fun c2_ => ?_) fun c2_ => ?_
  ·
   refine tD 0 [] [(21, 0), (25, 0), (22, 0), (26, 0), (23, 0), (27, 0), (24, 0), (28, 2)] 3 [28, 24, 27, 23, 26, 22, 25, 21, 20, 19, 18, 17, 13, 16, 12, 15, 11, 14, 10, 9, 8, 7, 3, 6, 2, 5, 1, 4, 0] [(29, .slice (pB r) n cap), (33, .slice (some ⟨r', 0, none⟩) n' cap')] [26, 27, 28, 30, 31, 32] <| dO 29 2 <| cP 34 (.bool (decide (px = px'))) (fun w hT => sliceEq (pB r) r 0 n cap px (some ⟨r', 0, none⟩) r' 0 n' cap' px' w (hT.viewRo (.cons (i := 1) rfl Vw.rd (.cons (i := 3) rfl Vw.rd .nil)) rfl) (by omega)) <| dX 0 [] <| tD 0 [] [(30, 0), (31, 0)] 0 [31, 30, 29, 28, 24, 27, 23, 26, 22, 25, 21, 20, 19, 18, 17, 13, 16, 12, 15, 11, 14, 10, 9, 8, 7, 3, 6, 2, 5, 1, 4, 0] [(4, .bool (decide (px = px')))] [35] <| dD <| zNr <| rA rfl 0 (.bool (decide (px = px'))) fun w hT => ?_
   exact ⟨ret_bool (by simp [sameB, *]), hT.post rfl⟩
  refine tD 0 [] [(21, 0), (25, 0), (22, 0), (26, 0), (23, 0), (27, 0), (24, 0), (28, 0)] 3 [28, 24, 27, 23, 26, 22, 25, 21, 20, 19, 18, 17, 13, 16, 12, 15, 11, 14, 10, 9, 8, 7, 3, 6, 2, 5, 1, 4, 0] [(29, undef), (33, undef)] [26, 27, 28, 30, 31, 32] <| dO 29 2 <| oS 0 [(25, .bool false), (34, undef)] [.ro m [iq W, iq H, .slice (pB r) n cap] 116, rD (pB r) r 0 n 1 (cV px), .ro m' [iq W', iq H', .slice (some ⟨r', 0, none⟩) n' cap'] 116, rD (some ⟨r', 0, none⟩) r' 0 n' 1 (cV px')] <| dX 0 [] <| tD 0 [] [(30, 0), (31, 0)] 0 [31, 30, 29, 28, 24, 27, 23, 26, 22, 25, 21, 20, 19, 18, 17, 13, 16, 12, 15, 11, 14, 10, 9, 8, 7, 3, 6, 2, 5, 1, 4, 0] [(4, .bool false)] [35] <| dD <| zNr <| rA rfl 0 (.bool false) fun w hT => ?_
  exact ⟨ret_bool (by simp [sameB, *]), hT.post rfl⟩
 refine tD 0 [] [(10, 0), (14, 0), (11, 0), (15, 0), (12, 0), (16, 0), (13, 0), (17, 0), (18, 0), (19, 0), (20, 0), (21, 0), (25, 0), (22, 0), (26, 0), (23, 0), (27, 0), (24, 0), (28, 0)] 3 [28, 24, 27, 23, 26, 22, 25, 21, 20, 19, 18, 17, 13, 16, 12, 15, 11, 14, 10, 9, 8, 7, 3, 6, 2, 5, 1, 4, 0] [(25, .bool false), (29, undef), (33, undef)] [15, 16, 17, 18, 19, 20, 21, 22, 23, 24, 26, 27, 28, 30, 31, 32] <| dO 29 2 <| oS 0 [(25, .bool false), (34, undef)] [.ro m [iq W, iq H, .slice (pB r) n cap] 116, rD (pB r) r 0 n 1 (cV px), .ro m' [iq W', iq H', .slice (some ⟨r', 0, none⟩) n' cap'] 116, rD (some ⟨r', 0, none⟩) r' 0 n' 1 (cV px')] <| dX 0 [] <| tD 0 [] [(30, 0), (31, 0)] 0 [31, 30, 29, 28, 24, 27, 23, 26, 22, 25, 21, 20, 19, 18, 17, 13, 16, 12, 15, 11, 14, 10, 9, 8, 7, 3, 6, 2, 5, 1, 4, 0] [(4, .bool false)] [35] <| dD <| zNr <| rA rfl 0 (.bool false) fun w hT => ?_
 exact ⟨ret_bool (by simp [sameB, *]), hT.post rfl⟩
end Go.Proofs.YtlfahohbkgdabaaGreat
namespace Go.Proofs.YtlfahohbkgdabaaGreat
open Go Go.RowKit
def partI (p q : Int) : Int := (clip p * clip q + 127) / 255
theorem clip_mul (p q : Int) : 0 ≤ clip p * clip q ∧ clip p * clip q ≤ 65025 := by
  have := clip_range p; have := clip_range q
  exact ⟨Int.mul_nonneg (by omega) (by omega), by have := Int.mul_le_mul (show clip p ≤ 255 by omega) (show clip q ≤ 255 by omega) (by omega) (by omega); omega⟩
theorem partI_range (p q : Int) : 0 ≤ partI p q ∧ partI p q ≤ 255 := by
  have := clip_mul p q
  unfold partI; omega
theorem clip_mn (x : Int) : clip (mn x 255) = clip x := by unfold clip mn; omega
theorem clip_id {x : Int} (h : 0 ≤ x ∧ x ≤ 255) : clip x = x := by unfold clip; omega
def overC (c d : Int) : Int := mkC (pa c + partI (pa d) (255 - pa c)) (pr c + partI (pr d) (255 - pa c)) (pg c + partI (pg d) (255 - pa c)) (pb c + partI (pb d) (255 - pa c))
def fadeC (c al : Int) : Int := mkC (partI (pa c) al) (partI (pr c) al) (partI (pg c) al) (partI (pb c) al)
theorem mkC_mn (a r g b : Int) : mkC (mn a 255) (mn r 255) (mn g 255) (mn b 255) = mkC a r g b := by unfold mkC; rw [clip_mn, clip_mn, clip_mn, clip_mn]
theorem parts_range {c : Int} (h : InC c) : (0 ≤ pa c ∧ pa c ≤ 255) ∧ (0 ≤ pr c ∧ pr c ≤ 255) ∧ (0 ≤ pg c ∧ pg c ≤ 255) ∧ (0 ≤ pb c ∧ pb c ≤ 255) := by
  obtain ⟨h1, h2⟩ := h; unfold pa pr pg pb; omega
theorem overC_in (c d : Int) : InC (overC c d) := mkC_range _ _ _ _
theorem fadeC_in (c al : Int) : InC (fadeC c al) := mkC_range _ _ _ _
def pixC (c : Int) (xs : List Int) : Int := xs.foldl (fun acc d => overC d acc) c
theorem pixC_snoc (c : Int) (xs : List Int) (d : Int) : pixC c (xs ++ [d]) = overC d (pixC c xs) := by simp [pixC]
theorem pixC_in {c : Int} (h : InC c) : ∀ (xs : List Int), InC (pixC c xs) := by
  intro xs
  rcases List.eq_nil_or_concat xs with h0 | ⟨ys, d, h0⟩
  · subst h0; exact h
  · subst h0; rw [List.concat_eq_append, pixC_snoc]; exact overC_in _ _
def mayR (a b c d : Int) : Bool := decide ((-1048576 ≤ a ∧ a ≤ 1048576) ∧ (-1048576 ≤ b ∧ b ≤ 1048576) ∧ (-1048576 ≤ c ∧ c ≤ 1048576) ∧ (-1048576 ≤ d ∧ d ≤ 1048576) ∧ a ≤ c ∧ b ≤ d)
theorem mayR_true {a b c d : Int} : mayR a b c d = true ↔ (-1048576 ≤ a ∧ a ≤ 1048576) ∧ (-1048576 ≤ b ∧ b ≤ 1048576) ∧ (-1048576 ≤ c ∧ c ≤ 1048576) ∧ (-1048576 ≤ d ∧ d ≤ 1048576) ∧ a ≤ c ∧ b ≤ d := by unfold mayR; rw [decide_eq_true_eq]
def chkR (a b c d : Int) : Rect := if mayR a b c d then ⟨a, b, c, d⟩ else ⟨0, 0, 0, 0⟩
def chkE (a b c d : Int) : Int := if mayR a b c d then 0 else 4
def sclR (a b c d s : Int) : Rect := if s < 1 ∨ s > 8 ∨ mayR a b c d = false then ⟨0, 0, 0, 0⟩ else chkR (a * s) (b * s) (c * s) (d * s)
def sclE (a b c d s : Int) : Int := if s < 1 ∨ s > 8 then 1 else if mayR a b c d = false then 4 else chkE (a * s) (b * s) (c * s) (d * s)
def farM (n : Int) : Int := mn (mx n (-4194304)) 4194304
theorem farM_range (n : Int) : -4194304 ≤ farM n ∧ farM n ≤ 4194304 := by unfold farM mn mx; omega
theorem farM_id {n : Int} (h : -4194304 ≤ n ∧ n ≤ 4194304) : farM n = n := by unfold farM mn mx; omega
def movR (a b c d x y : Int) : Rect := chkR (a + farM x) (b + farM y) (c + farM x) (d + farM y)
def movE (a b c d x y : Int) : Int := chkE (a + farM x) (b + farM y) (c + farM x) (d + farM y)
def shwR (W H X Y s a b c d : Int) : Rect :=
  let r := cutR a b c d 0 0 W H
  if emptyB r.x0 r.y0 r.x1 r.y1 then ⟨0, 0, 0, 0⟩ else if sclE r.x0 r.y0 r.x1 r.y1 s ≠ 0 then ⟨0, 0, 0, 0⟩ else
    movR (sclR r.x0 r.y0 r.x1 r.y1 s).x0 (sclR r.x0 r.y0 r.x1 r.y1 s).y0 (sclR r.x0 r.y0 r.x1 r.y1 s).x1 (sclR r.x0 r.y0 r.x1 r.y1 s).y1 X Y
def shwB (W H X Y s a b c d : Int) : Bool :=
  let r := cutR a b c d 0 0 W H
  if emptyB r.x0 r.y0 r.x1 r.y1 then true else if sclE r.x0 r.y0 r.x1 r.y1 s ≠ 0 then false else
    movE (sclR r.x0 r.y0 r.x1 r.y1 s).x0 (sclR r.x0 r.y0 r.x1 r.y1 s).y0 (sclR r.x0 r.y0 r.x1 r.y1 s).x1 (sclR r.x0 r.y0 r.x1 r.y1 s).y1 X Y == 0
theorem sclR_range (a b c d s : Int) : (-1048576 ≤ (sclR a b c d s).x0 ∧ (sclR a b c d s).x0 ≤ 1048576) ∧ (-1048576 ≤ (sclR a b c d s).y0 ∧ (sclR a b c d s).y0 ≤ 1048576) ∧ (-1048576 ≤ (sclR a b c d s).x1 ∧ (sclR a b c d s).x1 ≤ 1048576) ∧ (-1048576 ≤ (sclR a b c d s).y1 ∧ (sclR a b c d s).y1 ≤ 1048576) := by
  unfold sclR chkR
  split
  · decide
  · split
    · rename_i h
      have := mayR_true.1 h
      simp only
      omega
    · decide
def gl (xs : List Int) (i : Nat) : List Int := (xs.take i).map goodC
def inB (n : Int) : Bool := decide (-1048576 ≤ n ∧ n ≤ 1048576)
theorem mul_scale {x s : Int} {m : Int} (h0 : 0 ≤ x) (h1 : x ≤ m) (hs : 1 ≤ s ∧ s ≤ 8) : 0 ≤ x * s ∧ x * s ≤ m * 8 ∧ x ≤ x * s :=
  ⟨Int.mul_nonneg h0 (by omega), Int.mul_le_mul h1 (by omega) (by omega) (by omega), by have := Int.mul_le_mul_of_nonneg_left (show 1 ≤ s by omega) h0; omega⟩
theorem shw_of {W H X Y s a b c d : Int} (hs : 1 ≤ s ∧ s ≤ 8) (hX : -1048576 ≤ X ∧ X ≤ 1048576) (hY : -1048576 ≤ Y ∧ Y ≤ 1048576) (hw : 1 ≤ W ∧ W ≤ 256) (hh : 1 ≤ H ∧ H ≤ 256) {r : Rect} (hr : r = cutR a b c d 0 0 W H) (hne : emptyB r.x0 r.y0 r.x1 r.y1 = false) :
    shwR W H X Y s a b c d = chkR (X + r.x0 * s) (Y + r.y0 * s) (X + r.x1 * s) (Y + r.y1 * s) ∧ shwB W H X Y s a b c d = mayR (X + r.x0 * s) (Y + r.y0 * s) (X + r.x1 * s) (Y + r.y1 * s) := by
  obtain ⟨h1, h2, h3, h4, h5, h6⟩ := cut_in a b c d (W := W) (H := H) hw.1 hh.1
  unfold shwR shwB
  dsimp only
  rw [← hr] at h1 h2 h3 h4 h5 h6 ⊢
  have hem := emptyB_false.1 hne
  have m0 := mul_scale (m := 256) h1 (by omega) hs
  have m1 := mul_scale (m := 256) (show 0 ≤ r.x1 by omega) (by omega) hs
  have m2 := mul_scale (m := 256) h4 (by omega) hs
  have m3 := mul_scale (m := 256) (show 0 ≤ r.y1 by omega) (by omega) hs
  have l1 := Int.mul_le_mul_of_nonneg_right (show r.x0 ≤ r.x1 by omega) (show 0 ≤ s by omega)
  have l2 := Int.mul_le_mul_of_nonneg_right (show r.y0 ≤ r.y1 by omega) (show 0 ≤ s by omega)
  have hm1 : mayR r.x0 r.y0 r.x1 r.y1 = true := mayR_true.2 (by omega)
  have hm2 : mayR (r.x0 * s) (r.y0 * s) (r.x1 * s) (r.y1 * s) = true := mayR_true.2 (by omega)
  have hE : sclE r.x0 r.y0 r.x1 r.y1 s = 0 := by unfold sclE chkE; rw [if_neg (by omega), hm1, if_neg (by simp), hm2]; rfl
  have hR : sclR r.x0 r.y0 r.x1 r.y1 s = ⟨r.x0 * s, r.y0 * s, r.x1 * s, r.y1 * s⟩ := by unfold sclR chkR; rw [if_neg (by rw [hm1]; simp; omega), hm2]; rfl
  simp only [hne, hE, hR, movR, movE, farM_id (show -4194304 ≤ X ∧ X ≤ 4194304 by omega), farM_id (show -4194304 ≤ Y ∧ Y ≤ 4194304 by omega)]
  rw [Int.add_comm (r.x0 * s) X, Int.add_comm (r.y0 * s) Y, Int.add_comm (r.x1 * s) X, Int.add_comm (r.y1 * s) Y]
  refine ⟨by simp, ?_⟩
  simp only [chkE, Bool.false_eq_true, if_false, ne_eq, not_true_eq_false]
  cases mayR (X + r.x0 * s) (Y + r.y0 * s) (X + r.x1 * s) (Y + r.y1 * s) <;> rfl
def rboxR (W H X Y s a b c d : Int) : Rect :=
  let r := cutR a b c d 0 0 W H
  if emptyB r.x0 r.y0 r.x1 r.y1 then ⟨0, 0, 0, 0⟩ else ⟨X + r.x0 * s, Y + r.y0 * s, X + r.x1 * s, Y + r.y1 * s⟩
theorem box_same {W H X Y s a b c d : Int} (hs : 1 ≤ s ∧ s ≤ 8) (hX : -1000000 ≤ X ∧ X ≤ 1000000) (hY : -1000000 ≤ Y ∧ Y ≤ 1000000) (hw : 1 ≤ W ∧ W ≤ 256) (hh : 1 ≤ H ∧ H ≤ 256) : shwR W H X Y s a b c d = rboxR W H X Y s a b c d := by
  cases hne : emptyB (cutR a b c d 0 0 W H).x0 (cutR a b c d 0 0 W H).y0 (cutR a b c d 0 0 W H).x1 (cutR a b c d 0 0 W H).y1 with
  | true => simp only [shwR, rboxR, hne, if_true]
  | false =>
    rw [(shw_of hs ⟨by omega, by omega⟩ ⟨by omega, by omega⟩ hw hh rfl hne).1]
    obtain ⟨h1, h2, h3, h4, h5, h6⟩ := cut_in a b c d (W := W) (H := H) hw.1 hh.1
    simp only [rboxR, hne, Bool.false_eq_true, if_false]
    generalize cutR a b c d 0 0 W H = r at *
    have m0 := mul_scale (m := 256) h1 (by omega) hs
    have m1 := mul_scale (m := 256) (show 0 ≤ r.x1 by omega) (by omega) hs
    have m2 := mul_scale (m := 256) h4 (by omega) hs
    have m3 := mul_scale (m := 256) (show 0 ≤ r.y1 by omega) (by omega) hs
    have l1 := Int.mul_le_mul_of_nonneg_right (show r.x0 ≤ r.x1 by omega) (show 0 ≤ s by omega)
    have l2 := Int.mul_le_mul_of_nonneg_right (show r.y0 ≤ r.y1 by omega) (show 0 ≤ s by omega)
    unfold chkR
    rw [if_pos (mayR_true.2 (by omega))]
end Go.Proofs.YtlfahohbkgdabaaGreat
