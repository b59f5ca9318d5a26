/- Texts of this proof's own, put together: what each holds is told ahead of it. -/
import Derived.Test.YtlfahohbkgdabaaPhG6
import Derived.Test.YtlfahohbkgdabaaProg
import Derived.Test.YtlfahohbkgdabaaPhG5
set_option linter.unusedSimpArgs false
set_option linter.unusedVariables false
namespace Go.Proofs.Ytlfahohbkgdabaa
open Go Go.RowKit
set_option maxRecDepth 100000
set_option maxHeartbeats 8000000
theorem refHides13 (W H : Int) (r n cap : Nat) (px : List Int) (X Y s al ca cb cc cd : Int) (Az : Option Addr) (gz oz nz capz : Nat) (xsz : List Rect) (w : World) (hT0 : Tab w w [rD (some ⟨r, 0, none⟩) r 0 n 1 (cV px), rD (Az) gz oz nz 4 (rvals xsz)]) (hok : ImgOk W H n px) (hs : 1 ≤ s ∧ s ≤ 8) (hX : -1000000 ≤ X ∧ X ≤ 1000000) (hY : -1000000 ≤ Y ∧ Y ≤ 1000000) (hop : xsz.length ≤ 200000) :
    Calls Try.prog 39 #[.agg #[.bool true, iQ W, iQ H, sL r n cap, iQ X, iQ Y, iQ s, iQ al, iQ ca, iQ cb, iQ cc, iQ cd, .slice Az nz capz, .string ⟨#[]⟩]] w fun e w' => ∃ (A_ : Option Addr) (g_ k_ cp_ : Nat), e = .returned (.slice A_ k_ cp_) ∧ Tab w w' [.gen (rowE (A_) g_ k_ cp_ 53 4 (rvals (hidP W H X Y s al xsz ⟨ca, cb, cc, cd⟩)) true)] := by
  have hw1 := hok.w1
  have hw2 := hok.w2
  have hh1 := hok.h1
  have hh2 := hok.h2
  have hnum := hok.num
  have hlen := hok.len
  have hle := hok.le
  obtain ⟨hraz, hrlz⟩ := Rd.factsR (hT0.ok 1 _ rfl)
  refine eN [(0, .agg #[.bool true, iQ W, iQ H, sL r n cap, iQ X, iQ Y, iQ s, iQ al, iQ ca, iQ cb, iQ cc, iQ cd, .slice Az nz capz, .string ⟨#[]⟩])] Try.func39 Try.ntmps39 rfl hT0 ?_
  refine zSR 2 <| bW [0, 0] 2 0 (fun b1 => [(1, pT b1)]) (fun b1 => [.cells b1 [.bool true, iQ W, iQ H, sL r n cap, iQ X, iQ Y, iQ s, iQ al, iQ ca, iQ cb, iQ cc, iQ cd, .slice Az nz capz, .string ⟨#[]⟩] 60 true, rD (some ⟨r, 0, none⟩) r 0 n 1 (cV px), rD (Az) gz oz nz 4 (rvals xsz)]) [1] fun b1 => ?_
  refine zDNSSR 8 <| bD [0, 0, 0, 0, 0, 0, 0, 0] 8 0 [(10, .bool (al != 255))] [3, 4, 5, 6, 7, 8, 9] <| zDN <| sN 10 rfl (fun c2_ => ?_) fun c2_ => ?_
  ·
    refine zTSR 1 <| bS [0] 1 0 [(2, .slice none 0 0)] <| fG 0 <| zDNrt <| rA rfl 0 (.slice none 0 0) fun w hT => ?_
    replace hT := hT.erase 1 (fun e h hw => by cases h; first | rfl | cases hw)
    replace hT := hT.erase 0 (fun e h hw => by cases h; first | rfl | cases hw)
    have hT9 := hT.nilR 53 4
    rw [hidP_no (by omega)]
    exact ⟨none, 0, 0, 0, rfl, hT9⟩
  refine cFa rfl <| cont_skip <| zN <| cSq <| drawn_enter 6 [] rfl (by kernel_rfl) ?_
  refine tD 0 [] [(0, 0), (2, 0), (3, 0)] 3 [3, 2, 0] [(11, .agg #[.bool true, iQ W, iQ H, sL r n cap, iQ X, iQ Y, iQ s, iQ al, iQ ca, iQ cb, iQ cc, iQ cd, .slice Az nz capz, .string ⟨#[]⟩]), (14, .slice Az nz capz)] [13] <| dO 1 2 <| cP 12 (.agg #[.bool true, iQ W, iQ H, sL r n cap, iQ X, iQ Y, iQ s, iQ al, iQ ca, iQ cb, iQ cc, iQ cd]) (fun w hT => refLayer13 W H r n cap X Y s al ca cb cc cd Az nz capz w) <| dX 0 [] <| dO 4 1 ?_
  have hlb3_ := plc_lenB W X Y s (plcB ca cb cc cd xsz) (n := n) (by omega)
  refine cG (d := 15) (α := Option Addr × Nat × Nat × Nat) (fun x_ => .slice x_.1 x_.2.2.1 x_.2.2.2) (fun x_ => [.gen (rowE (x_.1) x_.2.1 x_.2.2.1 x_.2.2.2 53 4 (rvals (canR (plcL W X Y s (plcB ca cb cc cd xsz) n))) true), .cells b1 [.bool true, iQ W, iQ H, sL r n cap, iQ X, iQ Y, iQ s, iQ al, iQ ca, iQ cb, iQ cc, iQ cd, .slice Az nz capz, .string ⟨#[]⟩] 60 true, rD (some ⟨r, 0, none⟩) r 0 n 1 (cV px), rD (Az) gz oz nz 4 (rvals xsz)]) (fun x_ => True) (fun w hT => (refPlaceF5 W H r n cap px X Y s al ca cb cc cd Az gz oz nz capz xsz w (hT.viewRo (.cons (i := 1) rfl Vw.rd (.cons (i := 2) rfl Vw.rd .nil)) rfl) hok (by omega) (by omega) (by omega) (by omega)).mono fun e w' ⟨A4, g5, k6, cp7, he_, ht_⟩ => ⟨(A4, g5, k6, cp7), he_, trivial, hT.news ht_ rfl⟩) ?_
  rintro ⟨A4, g5, k6, cp7⟩ hf8_
  refine cM ?_
  refine fR 0 k6 A4 g5 cp7 (canR (plcL W X Y s (plcB ca cb cc cd xsz) n)) rfl fun hr9_a hr9_l hr9_c hr9_m => ?_
  refine dX 1 [] <| tD 1 [] [(5, 0)] 0 [5, 4, 1, 3, 2, 0] [(2, .slice A4 k6 cp7)] [] <| dD <| zN <| cont_ret ?_
  refine rA rfl 0 (.slice A4 k6 cp7) fun w hT => ?_
  replace hT := hT.erase 3 (fun e h hw => by cases h; first | rfl | cases hw)
  replace hT := hT.erase 2 (fun e h hw => by cases h; first | rfl | cases hw)
  replace hT := hT.erase 1 (fun e h hw => by cases h; first | rfl | cases hw)
  rw [hidP_yes (by omega), place_same xsz (by omega) (by omega) (by omega) (by omega) (by omega) hnum]
  exact ⟨_, _, _, _, rfl, hT⟩
theorem planSeen (K : Int) (A : Option Addr) (g o n cap : Nat) (its : List IT) (ts : List TS) (W H : Int) (w : World) (hT0 : Tab w w [rD (A) g o n 14 (dvals IT.cells its), .gen (subE n (IT.hds 118 its)), .gen (subE n (IT.pxs its)), .gen (subE n (TS.ops ts))]) (hmap : its.map (·.t) = ts) (hts : ∀ t ∈ ts, TS.Ok t) (hn : n ≤ 100) (hW : 1 ≤ W ∧ W ≤ 256) (hH : 1 ≤ H ∧ H ≤ 256) :
    Calls Try.prog 36 #[.agg #[iQ K, .slice A n cap], .agg #[iQ 0, iQ 0, iQ W, iQ H]] w fun e w' => ∃ (rs_ : List RS) (r_ : Nat), e = .returned (sL r_ n n) ∧ (rs_.length = n ∧ SeenOk (⟨0, 0, W, H⟩ : Rect) ts n rs_) ∧ Tab w w' [.gen (bunO n (RS.rws rs_)), oE r_ n n 58 1 (dvals RS.cells rs_.reverse)] := by
  obtain ⟨hra, hrl⟩ := Rd.factsD IT.size (by decide) (hT0.ok 0 _ rfl)
  refine eN [(0, .agg #[iQ K, .slice A n cap]), (1, .agg #[iQ 0, iQ 0, iQ W, iQ H])] Try.func36 Try.ntmps36 rfl hT0 ?_
  refine zSR 3 <| batch2 [0, 0, 0] 3 0 (fun b1 b2 => [(2, pT b1), (3, pT b2)]) (fun b1 b2 => [.cells b2 [iQ 0, iQ 0, iQ W, iQ H] 53 true, .cells b1 [iQ K, .slice A n cap] 29 true, rD (A) g o n 14 (dvals IT.cells its), .gen (subE n (IT.hds 118 its)), .gen (subE n (IT.pxs its)), .gen (subE n (TS.ops ts))]) rfl rfl [2, 3] (fun _ _ => rfl) (fun b1 b2 => by kernel_rfl) (fun b1 b2 => by kernel_rfl) (fun b1 b2 => ?_)
  refine zDNSR 8 <| bS [1, 0] 2 6 [(8, .agg #[iQ K, .slice A n cap]), (9, .agg #[iQ 0, iQ 0, iQ W, iQ H])] <| fG 0 <| fG 0 <| pS 3 5 <| cG (d := 10) (α := List RS × Nat × Option Addr × Nat × Nat × Nat) (fun x_ => .tuple #[sL x_.2.1 n n, .slice x_.2.2.1 x_.2.2.2.2.1 x_.2.2.2.2.2]) (fun x_ => [.gen (bunO n (RS.rws x_.1)), .gen (rowE (x_.2.2.1) x_.2.2.2.1 x_.2.2.2.2.1 x_.2.2.2.2.2 53 4 (rvals (leftL (⟨0, 0, W, H⟩ : Rect) ts)) true), .gen (rowE (some ⟨x_.2.1, 0, none⟩) x_.2.1 n n 58 1 (dvals RS.cells x_.1.reverse) true), rD (A) g o n 14 (dvals IT.cells its), .gen (subE n (IT.hds 118 its)), .gen (subE n (IT.pxs its)), .gen (subE n (TS.ops ts))]) (fun x_ => x_.1.length = n ∧ SeenOk (⟨0, 0, W, H⟩ : Rect) ts n x_.1) (fun w hT => (planSplit K A g o n cap its ts W H w (hT.viewRo (.cons (i := 0) rfl Vw.rd (.cons (i := 1) rfl Vw.subSub (.cons (i := 2) rfl Vw.subSub (.cons (i := 3) rfl Vw.subSub .nil)))) rfl) hmap hts (by omega) (by omega) (by omega)).mono fun e w' ⟨rs3, r4, A5, g6, k7, cp8, he_, hf_, ht_⟩ => ⟨(rs3, r4, A5, g6, k7, cp8), he_, hf_, hT.news ht_ rfl⟩) ?_
  rintro ⟨rs3, r4, A5, g6, k7, cp8⟩ hf9_
  replace hf9_ : rs3.length = n ∧ SeenOk (⟨0, 0, W, H⟩ : Rect) ts n rs3 := hf9_
  refine cM ?_
  refine fR 1 k7 A5 g6 cp8 (leftL (⟨0, 0, W, H⟩ : Rect) ts) rfl fun hr10_a hr10_l hr10_c hr10_m => ?_
  obtain ⟨hrsl, hrsO⟩ := hf9_
  have hrvl : (rs3.reverse).length = n := by rw [List.length_reverse]; exact hrsl
  have hlfl := leftL_len (W := W) (H := H) (by omega) (by omega) ts
  refine bS [0, 0, 0, 0, 0] 8 0 [(5, sL r4 n n)] <| zDNSR 2 <| bS [0, 0] 2 0 [(4, sL r4 n n)] <| zDNr <| rA rfl 0 (sL r4 n n) fun w hT => ?_
  replace hT := hT.erase 6 (fun e h hw => by cases h; first | rfl | cases hw)
  replace hT := hT.erase 5 (fun e h hw => by cases h; first | rfl | cases hw)
  replace hT := hT.erase 4 (fun e h hw => by cases h; first | rfl | cases hw)
  replace hT := hT.erase 3 (fun e h hw => by cases h; first | rfl | cases hw)
  replace hT := hT.erase 1 (fun e h hw => by cases h; first | rfl | cases hw)
  exact ⟨_, _, rfl, ⟨hrsl, hrsO⟩, hT⟩
theorem planGround (K : Int) (A : Option Addr) (g o n cap : Nat) (its : List IT) (ts : List TS) (W H : Int) (w : World) (hT0 : Tab w w [rD (A) g o n 14 (dvals IT.cells its), .gen (subE n (IT.hds 118 its)), .gen (subE n (IT.pxs its)), .gen (subE n (TS.ops ts))]) (hmap : its.map (·.t) = ts) (hts : ∀ t ∈ ts, TS.Ok t) (hn : n ≤ 100) (hW : 1 ≤ W ∧ W ≤ 256) (hH : 1 ≤ H ∧ H ≤ 256) :
    Calls Try.prog 37 #[.agg #[iQ K, .slice A n cap], .agg #[iQ 0, iQ 0, iQ W, iQ H]] w fun e w' => ∃ (A_ : Option Addr) (g_ k_ cp_ : Nat), e = .returned (.slice A_ k_ cp_) ∧ Tab w w' [.gen (rowE (A_) g_ k_ cp_ 53 4 (rvals (leftL (⟨0, 0, W, H⟩ : Rect) ts)) true)] := by
  obtain ⟨hra, hrl⟩ := Rd.factsD IT.size (by decide) (hT0.ok 0 _ rfl)
  refine eN [(0, .agg #[iQ K, .slice A n cap]), (1, .agg #[iQ 0, iQ 0, iQ W, iQ H])] Try.func37 Try.ntmps37 rfl hT0 ?_
  refine zSR 3 <| batch2 [0, 0, 0] 3 0 (fun b1 b2 => [(2, pT b1), (3, pT b2)]) (fun b1 b2 => [.cells b2 [iQ 0, iQ 0, iQ W, iQ H] 53 true, .cells b1 [iQ K, .slice A n cap] 29 true, rD (A) g o n 14 (dvals IT.cells its), .gen (subE n (IT.hds 118 its)), .gen (subE n (IT.pxs its)), .gen (subE n (TS.ops ts))]) rfl rfl [2, 3] (fun _ _ => rfl) (fun b1 b2 => by kernel_rfl) (fun b1 b2 => by kernel_rfl) (fun b1 b2 => ?_)
  refine zDNSR 8 <| bS [1, 0] 2 6 [(8, .agg #[iQ K, .slice A n cap]), (9, .agg #[iQ 0, iQ 0, iQ W, iQ H])] <| fG 0 <| fG 0 <| pS 3 5 <| cG (d := 10) (α := List RS × Nat × Option Addr × Nat × Nat × Nat) (fun x_ => .tuple #[sL x_.2.1 n n, .slice x_.2.2.1 x_.2.2.2.2.1 x_.2.2.2.2.2]) (fun x_ => [.gen (bunO n (RS.rws x_.1)), .gen (rowE (x_.2.2.1) x_.2.2.2.1 x_.2.2.2.2.1 x_.2.2.2.2.2 53 4 (rvals (leftL (⟨0, 0, W, H⟩ : Rect) ts)) true), .gen (rowE (some ⟨x_.2.1, 0, none⟩) x_.2.1 n n 58 1 (dvals RS.cells x_.1.reverse) true), rD (A) g o n 14 (dvals IT.cells its), .gen (subE n (IT.hds 118 its)), .gen (subE n (IT.pxs its)), .gen (subE n (TS.ops ts))]) (fun x_ => x_.1.length = n ∧ SeenOk (⟨0, 0, W, H⟩ : Rect) ts n x_.1) (fun w hT => (planSplit K A g o n cap its ts W H w (hT.viewRo (.cons (i := 0) rfl Vw.rd (.cons (i := 1) rfl Vw.subSub (.cons (i := 2) rfl Vw.subSub (.cons (i := 3) rfl Vw.subSub .nil)))) rfl) hmap hts (by omega) (by omega) (by omega)).mono fun e w' ⟨rs3, r4, A5, g6, k7, cp8, he_, hf_, ht_⟩ => ⟨(rs3, r4, A5, g6, k7, cp8), he_, hf_, hT.news ht_ rfl⟩) ?_
  rintro ⟨rs3, r4, A5, g6, k7, cp8⟩ hf9_
  replace hf9_ : rs3.length = n ∧ SeenOk (⟨0, 0, W, H⟩ : Rect) ts n rs3 := hf9_
  refine cM ?_
  refine fR 1 k7 A5 g6 cp8 (leftL (⟨0, 0, W, H⟩ : Rect) ts) rfl fun hr10_a hr10_l hr10_c hr10_m => ?_
  obtain ⟨hrsl, hrsO⟩ := hf9_
  have hrvl : (rs3.reverse).length = n := by rw [List.length_reverse]; exact hrsl
  have hlfl := leftL_len (W := W) (H := H) (by omega) (by omega) ts
  refine bS [0, 0, 0, 0, 0] 8 0 [(6, .slice A5 k7 cp8)] <| zDNSR 2 <| bS [0, 0] 2 0 [(4, .slice A5 k7 cp8)] <| zDNr <| rA rfl 0 (.slice A5 k7 cp8) fun w hT => ?_
  replace hT := hT.erase 6 (fun e h hw => by cases h; first | rfl | cases hw)
  replace hT := hT.erase 5 (fun e h hw => by cases h; first | rfl | cases hw)
  replace hT := hT.erase 4 (fun e h hw => by cases h; first | rfl | cases hw)
  replace hT := hT.erase 3 (fun e h hw => by cases h; first | rfl | cases hw)
  replace hT := hT.erase 2 (fun e h hw => by cases h; first | rfl | cases hw)
  replace hT := hT.erase 0 (fun e h hw => by cases h; first | rfl | cases hw)
  exact ⟨_, _, _, _, rfl, hT⟩
theorem refBox17 (a b : Int) (w : World) (ha : -9223372036854775808 ≤ a ∧ a ≤ 9223372036854775807) (hb : -9223372036854775808 ≤ b ∧ b ≤ 9223372036854775807) :
    Calls Try.prog 23 #[iQ a, iQ b] w fun e w' => e = .returned (.agg #[iQ 0, iQ 0, iQ (1 + aroundI a 16), iQ (1 + aroundI b 16)]) ∧ Below w.heap.size w w' := by
 refine eN [(0, iq a), (1, iq b)] Try.func23 Try.ntmps23 rfl (Tab.start w) ?_
 refine zSR 1 <| bW [0] 1 0 (fun b1 => [(0, iq a), (1, iq b), (4, .pointer (pB b1))]) (fun b1 => [.cells b1 [iq 0, iq 0, iq 0, iq 0] 53 true]) [0, 1, 4] fun b1 => ?_
 refine zDNSR 8 <| bD [0] 1 7 [(5, iq a)] [] <| pS 2 6 <| cP 6 (iq (aroundI a 16)) (fun w hT => refAround a 16 w (by omega) (by omega)) ?_
 have hq2_ := aroundI_range a (m := 16) (by omega)
 refine bD [0] 3 5 [(7, iq (IntKind.i64.wrap (1 + (aroundI a 16))))] [] <| wI 7 (1 + (aroundI a 16)) <| bD [0] 4 4 [(8, iq b)] [] <| pS 5 3 <| cP 9 (iq (aroundI b 16)) (fun w hT => refAround b 16 w (by omega) (by omega)) ?_
 have hq3_ := aroundI_range b (m := 16) (by omega)
 refine bD [0] 6 2 [(10, iq (IntKind.i64.wrap (1 + (aroundI b 16))))] [] <| wI 10 (1 + (aroundI b 16)) <| bZ [0, 0] 8 0 [(4, .pointer (pB b1))] [.cells b1 [iq 0, iq 0, iq (1 + (aroundI a 16)), iq (1 + (aroundI b 16))] 53 true] <| zDNr <| rA rfl 0 (.agg #[iq 0, iq 0, iq (1 + (aroundI a 16)), iq (1 + (aroundI b 16))]) fun w hT => ?_
 exact ⟨rfl, hT.post rfl⟩
end Go.Proofs.Ytlfahohbkgdabaa
namespace Go.Proofs.Ytlfahohbkgdabaa
open Go Go.RowKit
theorem hid_bx {t : TS} (h : TS.Ok t) {x y : Int} (hh : hasL t.hid x y = true) : hasL [t.bx] x y = true := by
  unfold TS.hid at hh
  by_cases ha : t.al = 255
  · rw [hidP_yes ha] at hh
    have hw := h.img.w1; have hw2 := h.w16; have hh1 := h.img.h1; have hh2 := h.h16; have hx := h.x_; have hy := h.y_; have hs := h.s_
    rw [hasL_place (by omega) (by omega) (by omega) (by omega) (by omega)] at hh
    rw [hasL_one]
    unfold TS.bx
    simp only [Bool.and_eq_true] at hh
    rw [pcol_box (by omega) (by omega) (by omega) (by omega) (by omega)]
    unfold pcolB
    simp [hh.1, hh.2.1]
  · rw [hidP_no ha] at hh; simp [hasL] at hh
def hidA (ts : List TS) (k : Nat) (x y : Int) : Bool := (ts.drop k).any fun t => hasL t.hid x y
theorem hidA_end (ts : List TS) (x y : Int) : hidA ts ts.length x y = false := by simp [hidA]
theorem hidA_step {ts : List TS} {k : Nat} (h : k < ts.length) (x y : Int) : hidA ts k x y = (hasL (dget ts k).hid x y || hidA ts (k + 1) x y) := by
  unfold hidA
  rw [List.drop_eq_getElem_cons h, List.any_cons]
  have : dget ts k = ts[k] := by unfold dget; rw [List.getD_eq_getElem?_getD, List.getElem?_eq_getElem h]; rfl
  rw [this]
theorem hidA_zero {ts : List TS} {k : Nat} (h : k < ts.length) {x y : Int} (hh : hasL (dget ts k).hid x y = true) : hidA ts 0 x y = true := by
  unfold hidA
  rw [List.drop_zero, List.any_eq_true]
  exact ⟨_, dget_mem h, hh⟩
theorem left_hidA {W H : Int} (ts : List TS) {x y : Int} (hb : 0 ≤ x ∧ x < W ∧ 0 ≤ y ∧ y < H) (k : Nat) : hasL (leftL ⟨0, 0, W, H⟩ (ts.drop k)) x y = !hidA ts k x y := by
  rw [leftL_has, show hasB 0 0 W H x y = true from hasB_true.2 (by omega)]; rfl
theorem left_hid0 {W H : Int} (ts : List TS) {x y : Int} (hb : 0 ≤ x ∧ x < W ∧ 0 ≤ y ∧ y < H) : hasL (leftL ⟨0, 0, W, H⟩ ts) x y = !hidA ts 0 x y := left_hidA ts hb 0
theorem seen_hidA {W H : Int} {ts : List TS} {x y : Int} (hb : 0 ≤ x ∧ x < W ∧ 0 ≤ y ∧ y < H) (k : Nat) : hasL (seenL ⟨0, 0, W, H⟩ ts k) x y = (!hidA ts (k + 1) x y && hasL [(dget ts k).bx] x y) := by
  unfold seenL; rw [hasL_and, left_hidA ts hb, hasL_can]
end Go.Proofs.Ytlfahohbkgdabaa
namespace Go.Proofs.Ytlfahohbkgdabaa
open Go Go.RowKit
set_option maxRecDepth 100000
set_option maxHeartbeats 8000000
end Go.Proofs.Ytlfahohbkgdabaa
namespace Go.Proofs.Ytlfahohbkgdabaa
open Go Go.RowKit
set_option maxRecDepth 100000
set_option maxHeartbeats 8000000
theorem walkPlanHidden (A : Option Addr) (g o n cap : Nat) (xs : List V17) (qw qh : Int) (w : World) (hr : Rd w A g o n 16 (dvals V17.cells xs)) (hl : xs.length = n) (hc : n ≤ cap) (hm : cap ≤ maxLen) (hg : ∀ d ∈ xs, V17.Good w d) (hqw : -9223372036854775808 ≤ qw ∧ qw ≤ 9223372036854775807) (hqh : -9223372036854775808 ≤ qh ∧ qh ≤ 9223372036854775807) :
    Calls Try.prog 8 #[.slice A n cap, iQ qw, iQ qh] w fun e w' => e = .returned (.bool true) ∧ Below w.heap.size w w' := by
  unfold maxLen at hm
  obtain ⟨hra, _⟩ := Rd.factsD V17.size (by decide) hr
  have hge : ∀ i, i < n → V17.Good w (dget xs i) := fun i hi => hg _ (dget_mem (by omega))
  have hgpv : ∀ d ∈ xs, V17P d := fun d hd => (hg d hd).pure
  refine enter 106 [(0, .slice A n cap), (1, iQ qw), (2, iQ qh)] [rD (A) g o n 16 (dvals V17.cells xs), sB3 n xs, sB14 n xs, sB15 n xs] Try.func8 rfl Try.ntmps8 rfl (by kernel_rfl) (Tab.olds (fun i_ e_ he_ => by
    match i_, he_ with
    | 0, he_ => cases he_; exact ⟨hr, rfl, rfl⟩
    | 1, he_ => cases he_; exact ⟨fun i_ hi_ => (hge i_ hi_).r3, rfl, rfl⟩
    | 2, he_ => cases he_; exact ⟨fun i_ hi_ => (hge i_ hi_).r14, rfl, rfl⟩
    | 3, he_ => cases he_; exact ⟨fun i_ hi_ => (hge i_ hi_).r15, rfl, rfl⟩
    | _ + 4, he_ => cases he_)) ?_
  refine zSR 1 <| bD [0] 1 0 [] [6] <| zDNSR 3 <| bD [0] 1 2 [(20, .slice A n cap)] [] <| pS 2 1 <| cG (d := 21) (α := Option Addr × Nat × Nat × Nat × List TS) (fun x_ => .slice x_.1 x_.2.2.1 x_.2.2.2.1) (fun x_ => [.gen (bunO x_.2.2.1 (TS.pxs x_.2.2.2.2)), .gen (bunO x_.2.2.1 (TS.ops x_.2.2.2.2)), .gen (rowE (x_.1) x_.2.1 x_.2.2.1 x_.2.2.2.1 60 14 (dvals TS.cells x_.2.2.2.2) true), rD (A) g o n 16 (dvals V17.cells xs), sB3 n xs, sB14 n xs, sB15 n xs]) (fun x_ => x_.2.2.1 ≤ 5 ∧ ∀ t ∈ x_.2.2.2.2, TS.Ok t) (fun w hT => (refGood17 A g o n cap xs w (hT.viewRo (.cons (i := 0) rfl Vw.rd (.cons (i := 1) rfl Vw.subSub (.cons (i := 2) rfl Vw.subSub (.cons (i := 3) rfl Vw.subSub .nil)))) rfl) hgpv).mono fun e w' ⟨A1, g2, k3, cp4, ts5, he_, hf_, ht_⟩ => ⟨(A1, g2, k3, cp4, ts5), he_, hf_, hT.news ht_ rfl⟩) ?_
  rintro ⟨A1, g2, k3, cp4, ts5⟩ hf6_
  replace hf6_ : k3 ≤ 5 ∧ ∀ t ∈ ts5, TS.Ok t := hf6_
  refine cM ?_
  refine cont_fact (F := (0 < k3 → (A1 : Option Addr) = some ⟨g2, 0, none⟩) ∧ ts5.length = k3 ∧ k3 ≤ cp4 ∧ cp4 ≤ maxLen) (fun w hT => Row.factsD TS.size (by decide) (hT.ok 2 _ rfl)) (fun hr7_ => ?_)
  obtain ⟨hr7_a, hr7_l, hr7_c, hr7_m⟩ := hr7_
  unfold maxLen at hr7_m
  obtain ⟨hgl, hgt⟩ := hf6_
  refine bD [0] 3 0 [(7, .slice A1 k3 cp4)] [] <| zDNSR 8 <| fG 6 <| fG 5 <| fG 4 <| fG 3 <| bD [0] 1 7 [(23, .slice A1 k3 cp4)] [] <| pS 2 6 <| cG (d := 24) (α := Option Addr × Nat × Nat × List IT) (fun x_ => .tuple #[.agg #[iQ 0, .slice x_.1 k3 x_.2.2.1], .bool true]) (fun x_ => [.gen (bunO k3 (IT.pxs x_.2.2.2)), .gen (bunO k3 (IT.hds 118 x_.2.2.2)), .gen (rowE (x_.1) x_.2.1 k3 x_.2.2.1 103 14 (dvals IT.cells x_.2.2.2) true), .gen (bunO k3 (TS.pxs ts5)), .gen (bunO k3 (TS.ops ts5)), .gen (rowE (A1) g2 k3 cp4 60 14 (dvals TS.cells ts5) true)]) (fun x_ => x_.2.2.2.map (·.t) = ts5) (fun w hT => (shot A1 g2 0 k3 cp4 ts5 w (hT.viewRo (.cons (i := 2) rfl Vw.rowRd (.cons (i := 0) rfl Vw.bunSub .nil)) rfl) hgt (by omega)).mono fun e w' ⟨A8, g9, cp10, its11, he_, hf_, ht_⟩ => ⟨(A8, g9, cp10, its11), he_, hf_, hT.news ht_ rfl⟩) ?_
  rintro ⟨A8, g9, cp10, its11⟩ hf12_
  replace hf12_ : its11.map (·.t) = ts5 := hf12_
  refine cM ?_
  refine cont_fact (F := (0 < k3 → (A8 : Option Addr) = some ⟨g9, 0, none⟩) ∧ its11.length = k3 ∧ k3 ≤ cp10 ∧ cp10 ≤ maxLen) (fun w hT => Row.factsD IT.size (by decide) (hT.ok 2 _ rfl)) (fun hr13_ => ?_)
  obtain ⟨hr13_a, hr13_l, hr13_c, hr13_m⟩ := hr13_
  unfold maxLen at hr13_m
  have hmapS := hf12_
  refine bW [0, 0, 0, 0, 0, 0] 8 0 (fun b14 => [(1, iQ qw), (2, iQ qh), (7, .slice A1 k3 cp4), (8, pT b14), (9, .bool true)]) (fun b14 => [.cells b14 [iQ 0, .slice A8 k3 cp10] 29 true, .gen (bunO k3 (IT.pxs its11)), .gen (bunO k3 (IT.hds 118 its11)), .gen (rowE (A8) g9 k3 cp10 103 14 (dvals IT.cells its11) true), .gen (bunO k3 (TS.pxs ts5)), .gen (bunO k3 (TS.ops ts5)), .gen (rowE (A1) g2 k3 cp4 60 14 (dvals TS.cells ts5) true)]) [1, 2, 7, 8, 9] fun b14 => ?_
  refine zDNSSR 2 <| bD [0, 0] 2 0 [(28, .bool false)] [27] <| zDNFKNSR 5 <| bD [0, 0] 2 3 [(29, iQ qw), (30, iQ qh)] [] <| pS 3 2 <| cP 31 (.agg #[iQ 0, iQ 0, iQ (1 + aroundI qw 16), iQ (1 + aroundI qh 16)]) (fun w hT => refBox17 qw qh w (by omega) (by omega)) ?_
  have hq15_ := aroundI_range qw (m := 16) (by omega)
  have hq16_ := aroundI_range qh (m := 16) (by omega)
  refine bW [0, 0] 5 0 (fun b17 => [(7, .slice A1 k3 cp4), (8, pT b14), (10, pT b17)]) (fun b17 => [.cells b17 [iQ 0, iQ 0, iQ (1 + aroundI qw 16), iQ (1 + aroundI qh 16)] 53 true, .cells b14 [iQ 0, .slice A8 k3 cp10] 29 true, .gen (bunO k3 (IT.pxs its11)), .gen (bunO k3 (IT.hds 118 its11)), .gen (rowE (A8) g9 k3 cp10 103 14 (dvals IT.cells its11) true), .gen (bunO k3 (TS.pxs ts5)), .gen (bunO k3 (TS.ops ts5)), .gen (rowE (A1) g2 k3 cp4 60 14 (dvals TS.cells ts5) true)]) [7, 8, 10] fun b17 => ?_
  refine zDNSR 4 ?_
  obtain ⟨bw, hbw⟩ : ∃ y_ : Int, y_ = 1 + aroundI qw 16 := ⟨_, rfl⟩
  have hbw1 : 1 ≤ bw ∧ bw ≤ 16 := by omega
  obtain ⟨bh, hbh⟩ : ∃ y_ : Int, y_ = 1 + aroundI qh 16 := ⟨_, rfl⟩
  have hbh1 : 1 ≤ bh ∧ bh ≤ 16 := by omega
  refine cont_norm [(7, .slice A1 k3 cp4), (8, pT b14), (10, pT b17)] [.cells b17 [iQ 0, iQ 0, iQ bw, iQ bh] 53 true, .cells b14 [iQ 0, .slice A8 k3 cp10] 29 true, .gen (bunO k3 (IT.pxs its11)), .gen (bunO k3 (IT.hds 118 its11)), .gen (rowE (A8) g9 k3 cp10 103 14 (dvals IT.cells its11) true), .gen (bunO k3 (TS.pxs ts5)), .gen (bunO k3 (TS.ops ts5)), .gen (rowE (A1) g2 k3 cp4 60 14 (dvals TS.cells ts5) true)] (by kernel_rfl) (congrArg (fun c_ : List Value => ([.cells b17 c_ 53 true, .cells b14 [iQ 0, .slice A8 k3 cp10] 29 true, .gen (bunO k3 (IT.pxs its11)), .gen (bunO k3 (IT.hds 118 its11)), .gen (rowE (A8) g9 k3 cp10 103 14 (dvals IT.cells its11) true), .gen (bunO k3 (TS.pxs ts5)), .gen (bunO k3 (TS.ops ts5)), .gen (rowE (A1) g2 k3 cp4 60 14 (dvals TS.cells ts5) true)] : List Ent)) (by rw [hbw, hbh])) ?_
  have hn256 : bw * bh ≤ 16 * 16 := mul_le_of (by omega) (by omega) (by omega) (by omega)
  have hn0 : 0 ≤ bw * bh := Int.mul_nonneg (by omega) (by omega)
  obtain ⟨nn, hnum⟩ : ∃ y_ : Nat, (y_ : Int) = bw * bh := ⟨(bw * bh).toNat, by omega⟩
  refine bD [1, 0] 2 2 [(32, .agg #[iQ 0, .slice A8 k3 cp10]), (33, .agg #[iQ 0, iQ 0, iQ bw, iQ bh])] [] <| pS 3 1 <| cG (d := 34) (α := List RS × Nat) (fun x_ => sL x_.2 k3 k3) (fun x_ => [.gen (bunO k3 (RS.rws x_.1)), .gen (rowE (some ⟨x_.2, 0, none⟩) x_.2 k3 k3 58 1 (dvals RS.cells x_.1.reverse) true), .cells b17 [iQ 0, iQ 0, iQ bw, iQ bh] 53 true, .cells b14 [iQ 0, .slice A8 k3 cp10] 29 true, .gen (bunO k3 (IT.pxs its11)), .gen (bunO k3 (IT.hds 118 its11)), .gen (rowE (A8) g9 k3 cp10 103 14 (dvals IT.cells its11) true), .gen (bunO k3 (TS.pxs ts5)), .gen (bunO k3 (TS.ops ts5)), .gen (rowE (A1) g2 k3 cp4 60 14 (dvals TS.cells ts5) true)]) (fun x_ => x_.1.length = k3 ∧ SeenOk (⟨0, 0, bw, bh⟩ : Rect) ts5 k3 x_.1) (fun w hT => (planSeen 0 A8 g9 0 k3 cp10 its11 ts5 bw bh w (hT.viewRo (.cons (i := 4) rfl Vw.rowRd (.cons (i := 3) rfl Vw.bunSub (.cons (i := 2) rfl Vw.bunSub (.cons (i := 6) rfl Vw.bunSub .nil)))) rfl) hmapS hgt (by omega) (by omega) (by omega)).mono fun e w' ⟨rs18, r19, he_, hf_, ht_⟩ => ⟨(rs18, r19), he_, hf_, hT.news ht_ rfl⟩) ?_
  rintro ⟨rs18, r19⟩ hf20_
  replace hf20_ : rs18.length = k3 ∧ SeenOk (⟨0, 0, bw, bh⟩ : Rect) ts5 k3 rs18 := hf20_
  refine cM ?_
  obtain ⟨hrsl, hrsO⟩ := hf20_
  have hrvl : (rs18.reverse).length = k3 := by rw [List.length_reverse]; exact hrsl
  refine bD [0] 4 0 [(11, sL r19 k3 k3)] [] <| zDNSR 4 <| bD [3, 2] 2 2 [(35, .agg #[iQ 0, .slice A8 k3 cp10]), (36, .agg #[iQ 0, iQ 0, iQ bw, iQ bh])] [] <| fG 3 <| pS 3 1 <| cG (d := 37) (α := Option Addr × Nat × Nat × Nat) (fun x_ => .slice x_.1 x_.2.2.1 x_.2.2.2) (fun x_ => [.gen (rowE (x_.1) x_.2.1 x_.2.2.1 x_.2.2.2 53 4 (rvals (leftL (⟨0, 0, bw, bh⟩ : Rect) ts5)) true), .gen (bunO k3 (RS.rws rs18)), oE r19 k3 k3 58 1 (dvals RS.cells rs18.reverse), .cells b17 [iQ 0, iQ 0, iQ bw, iQ bh] 53 true, .gen (bunO k3 (IT.pxs its11)), .gen (bunO k3 (IT.hds 118 its11)), .gen (rowE (A8) g9 k3 cp10 103 14 (dvals IT.cells its11) true), .gen (bunO k3 (TS.pxs ts5)), .gen (bunO k3 (TS.ops ts5)), .gen (rowE (A1) g2 k3 cp4 60 14 (dvals TS.cells ts5) true)]) (fun x_ => True) (fun w hT => (planGround 0 A8 g9 0 k3 cp10 its11 ts5 bw bh w (hT.viewRo (.cons (i := 5) rfl Vw.rowRd (.cons (i := 4) rfl Vw.bunSub (.cons (i := 3) rfl Vw.bunSub (.cons (i := 7) rfl Vw.bunSub .nil)))) rfl) hmapS hgt (by omega) (by omega) (by omega)).mono fun e w' ⟨A21, g22, k23, cp24, he_, ht_⟩ => ⟨(A21, g22, k23, cp24), he_, trivial, hT.news ht_ rfl⟩) ?_
  rintro ⟨A21, g22, k23, cp24⟩ hf25_
  refine cM ?_
  refine fR 0 k23 A21 g22 cp24 (leftL (⟨0, 0, bw, bh⟩ : Rect) ts5) rfl fun hr26_a hr26_l hr26_c hr26_m => ?_
  refine bD [0] 4 0 [(12, .slice A21 k23 cp24)] [] <| zDNSSR 5 <| bS [0, 0, 0, 0, 0] 5 0 [(7, .slice A1 k3 cp4), (10, pT b17), (11, sL r19 k3 k3), (12, .slice A21 k23 cp24), (42, .bool ((k3 : Int) != (k3 : Int)))] <| zDN <| rC 42 (.bool false) rfl (congrArg Value.bool (bne_eq_false_iff_eq.2 (by omega))) <| zFKNSSR 1 ?_
  have hkt : ts5.length = k3 := hr7_l
  have hlg9 := leftL_len (W := bw) (H := bh) ⟨by omega, by omega⟩ ⟨by omega, by omega⟩ ts5
  refine bD [0] 1 0 [(13, iQ 0)] [] <| zDNB <| cL (α := Nat) (fun x_ : Nat => x_ ≤ nn) (fun x_ : Nat => [(7, .slice A1 k3 cp4), (10, pT b17), (11, sL r19 k3 k3), (12, .slice A21 k23 cp24), (13, iQ (x_ : Int))]) (fun x_ : Nat => [.gen (rowE (A21) g22 k23 cp24 53 4 (rvals (leftL (⟨0, 0, bw, bh⟩ : Rect) ts5)) true), .gen (bunO k3 (RS.rws rs18)), oE r19 k3 k3 58 1 (dvals RS.cells rs18.reverse), .cells b17 [iQ 0, iQ 0, iQ bw, iQ bh] 53 true, .gen (bunO k3 (IT.pxs its11)), .gen (bunO k3 (IT.hds 118 its11)), .gen (rowE (A8) g9 k3 cp10 103 14 (dvals IT.cells its11) true), .gen (bunO k3 (TS.pxs ts5)), .gen (bunO k3 (TS.ops ts5)), .gen (rowE (A1) g2 k3 cp4 60 14 (dvals TS.cells ts5) true)]) (fun x_ : Nat => nn - x_) 0 (by omega) ?_
  rintro i hinv28_
  replace hinv28_ : i ≤ nn := hinv28_
  refine cM ?_
  have hi := hinv28_
  obtain ⟨hm1_, hm2_, hm3_, hm4_⟩ := emod_range i (W := bw) (by omega)
  refine zSSR 7 <| bD [0, 0, 3, 0, 3, 0] 6 1 [(43, iQ (i : Int)), (48, iQ (IntKind.i64.wrap (bw * bh)))] [44, 45, 46, 47] <| rC 48 (iQ ((nn : Nat) : Int)) rfl (by rw [← hnum]; exact wrapI (by omega) (by omega)) <| bD [0] 7 0 [(49, .bool (decide ((i : Int) < ((nn : Nat) : Int))))] [] <| zDN <| sD 49 rfl (fun c29_ => ?_) fun c29_ => ?_
  ·
    refine zTKNSBSR 5 <| bD [0, 0, 3] 3 2 [(52, iQ (i : Int)), (54, iQ bw)] [53] <| pS 4 1 <| sS 55 (bopS .rem 3 (.tmp 52) (.tmp 54) (iQ (i : Int)) (iQ bw)) (iQ ((i : Int).tmod bw)) (fun w hT => run_rem (by omega) w) <| rC 55 (iQ ((i : Int) % bw)) rfl (tmodI (by omega)) <| bD [0] 5 0 [(14, iQ ((i : Int) % bw))] [] <| zDNSR 5 <| bD [0, 0, 3] 3 2 [(56, iQ (i : Int)), (58, iQ bw)] [57] <| pS 4 1 <| sS 59 (bopS .quo 3 (.tmp 56) (.tmp 58) (iQ (i : Int)) (iQ bw)) (iQ (IntKind.i64.wrap ((i : Int).tdiv bw))) (fun w hT => run_quo (by omega) w) <| rC 59 (iQ ((i : Int) / bw)) rfl (tdivI (by omega) (by omega) (by omega)) <| bD [0] 5 0 [(15, iQ ((i : Int) / bw))] [] <| zDNSR 5 ?_
    have hib := hasB_true.1 (in_box (W := bw) (H := bh) (i := i) (by omega) hnum (by omega))
    obtain ⟨xk, hxk⟩ : ∃ y_ : Int, y_ = ((i : Int) % bw) := ⟨_, rfl⟩
    refine rC 14 (iQ xk) rfl (congrArg (Value.int .i64) hxk.symm) ?_
    rw [← hxk] at hib
    obtain ⟨yk, hyk⟩ : ∃ y_ : Int, y_ = ((i : Int) / bw) := ⟨_, rfl⟩
    refine rC 15 (iQ yk) rfl (congrArg (Value.int .i64) hyk.symm) ?_
    rw [← hyk] at hib
    have hxy : 0 ≤ xk ∧ xk < bw ∧ 0 ≤ yk ∧ yk < bh := hib
    refine bD [0, 0, 0] 3 2 [(60, .slice A21 k23 cp24), (61, iQ xk), (62, iQ yk)] [] <| pS 4 1 <| cP 63 (.bool (hasL (leftL (⟨0, 0, bw, bh⟩ : Rect) ts5) xk yk)) (fun w hT => refHasL A21 g22 0 k23 cp24 (leftL (⟨0, 0, bw, bh⟩ : Rect) ts5) xk yk w (hT.viewRo (.cons (i := 0) rfl Vw.rowRd .nil) rfl) (by omega)) <| bD [0] 5 0 [(16, .bool (hasL (leftL (⟨0, 0, bw, bh⟩ : Rect) ts5) xk yk))] [] <| zDNSR 1 <| bD [0] 1 0 [(17, .bool false)] [] <| zDNSSR 4 <| rC 16 (.bool (!(hidA ts5 0 xk yk))) rfl (congrArg (Value.bool) (left_hid0 ts5 hxy)) <| bD [0, 0, 0] 3 1 [(66, iQ (IntKind.i64.wrap ((k3 : Int) - 1)))] [64, 65] <| wI 66 ((k3 : Int) - 1) <| bD [0] 4 0 [(18, iQ ((k3 : Int) - 1))] [] <| zDNB <| rC 17 (.bool (hidA ts5 k3 xk yk)) rfl (congrArg (Value.bool) (by rw [← hkt]; exact (hidA_end ts5 xk yk).symm)) <| rC 16 (.bool (!(hidA ts5 0 xk yk) || hidA ts5 k3 xk yk)) rfl (congrArg (Value.bool) (by rw [show hidA ts5 k3 xk yk = false from by rw [← hkt]; exact hidA_end ts5 xk yk, Bool.or_false])) <| rC 18 (iQ (((k3 : Nat) : Int) - 1)) rfl (congrArg (Value.int .i64) rfl) <| cL (α := Nat) (fun x_ : Nat => x_ ≤ k3) (fun x_ : Nat => [(7, .slice A1 k3 cp4), (10, pT b17), (11, sL r19 k3 k3), (12, .slice A21 k23 cp24), (13, iQ (i : Int)), (14, iQ xk), (15, iQ yk), (16, .bool (!(hidA ts5 0 xk yk) || hidA ts5 x_ xk yk)), (17, .bool (hidA ts5 x_ xk yk)), (18, iQ (((x_ : Nat) : Int) - 1))]) (fun x_ : Nat => [.gen (rowE (A21) g22 k23 cp24 53 4 (rvals (leftL (⟨0, 0, bw, bh⟩ : Rect) ts5)) true), .gen (bunO k3 (RS.rws rs18)), oE r19 k3 k3 58 1 (dvals RS.cells rs18.reverse), .cells b17 [iQ 0, iQ 0, iQ bw, iQ bh] 53 true, .gen (bunO k3 (IT.pxs its11)), .gen (bunO k3 (IT.hds 118 its11)), .gen (rowE (A8) g9 k3 cp10 103 14 (dvals IT.cells its11) true), .gen (bunO k3 (TS.pxs ts5)), .gen (bunO k3 (TS.ops ts5)), .gen (rowE (A1) g2 k3 cp4 60 14 (dvals TS.cells ts5) true)]) (fun x_ : Nat => x_) k3 (by omega) ?_
    rintro q hinv30_
    replace hinv30_ : q ≤ k3 := hinv30_
    refine cM ?_
    have hqi := hinv30_
    rcases Bool.eq_false_or_eq_true (hidA ts5 q xk yk) with hq | hq
    ·
      refine rC 17 (.bool true) rfl (congrArg (Value.bool) hq) <| rC 16 (.bool true) rfl (congrArg (Value.bool) (by rw [hq, Bool.or_true])) ?_
      have hqn := hq
      refine zSSR 2 <| bD [0, 0] 2 0 [(68, .bool (decide ((((q : Nat) : Int) - 1) ≥ 0)))] [67] <| zDN <| sD 68 rfl (fun c31_ => ?_) fun c31_ => ?_
      ·
        refine zTKNSBSR 8 ?_
        obtain ⟨k, hk⟩ : ∃ k : Nat, (k : Int) = ((q : Nat) : Int) - 1 := ⟨q - 1, by omega⟩
        refine rC 18 (iQ (k : Int)) rfl (congrArg (Value.int .i64) hk.symm) ?_
        have hqk : q = k + 1 := by omega
        have hq1 : hidA ts5 (k + 1) xk yk = true := by rw [← hqk]; exact hq
        obtain ⟨r9, hr9⟩ : ∃ y_ : RS, y_ = dget rs18 (k3 - 1 - k) := ⟨_, rfl⟩
        have hre : dget rs18.reverse k = r9 := by rw [dget_rev (by omega), hr9, hrsl]
        have hx9 : r9.xs = seenL (⟨0, 0, bw, bh⟩ : Rect) ts5 k := by rw [hr9, hrsO (k3 - 1 - k) (by omega), show k3 - 1 - (k3 - 1 - k) = k by omega]
        have hsl9 := seenL_len (W := bw) (H := bh) ⟨by omega, by omega⟩ ⟨by omega, by omega⟩ ts5 k
        rw [← hx9] at hsl9
        refine cont_see 1 (rD (r9.A) r9.g 0 r9.n 4 (rvals r9.xs)) rfl rfl (by rw [← hr9.symm]; exact Vw.bunAt (k3 - 1 - k) (by omega) rfl rfl) rfl ?_
        refine cM ?_
        refine cont_fact (F := (0 < r9.n → (r9.A : Option Addr) = some ⟨r9.g, 0, none⟩) ∧ r9.xs.length = r9.n) (fun w hT => Rd.factsR (hT.ok 0 _ rfl)) (fun hl32_ => ?_)
        obtain ⟨hl32_a, hl32_l⟩ := hl32_
        refine cM ?_
        have hown : hasL r9.xs xk yk = (!(hidA ts5 (k + 1) xk yk) && hasL [(dget ts5 k).bx] xk yk) := by rw [hx9]; exact seen_hidA hxy k
        refine bD [0, 0] 2 6 [(71, sL r19 k3 k3), (72, iQ (k : Int))] [] <| pS 3 5 <| sS 73 (Instr.indexAt 77 (sL r19 k3 k3) (iQ (k : Int))) (.pointer (some ⟨r19, k, none⟩)) (fun w hT => rI 58 1 w) <| pS 4 4 <| sS 74 (Instr.loadAt 58 (.pointer (some ⟨r19, k, none⟩))) (.slice r9.A r9.n r9.cap) (fun w hT => rL (Rd.dcell1z RS.size (Row.rd (hT.ok 3 _ rfl)) (i := k) (by omega) (by rw [hre]; rfl))) <| bD [0, 0] 6 2 [(75, iQ xk), (76, iQ yk)] [] <| pS 7 1 <| cP 77 (.bool (hasL r9.xs xk yk)) (fun w hT => refHasL r9.A r9.g 0 r9.n r9.cap r9.xs xk yk w (hT.viewRo (.cons (i := 0) rfl Vw.rd .nil) rfl) (by omega)) <| bD [0] 8 0 [(19, .bool (hasL r9.xs xk yk))] [] <| zDNSSR 4 <| bD [0, 0, 0, 0] 4 0 [(80, .bool (hasL r9.xs xk yk)), (81, .bool (hasL r9.xs xk yk))] [78, 79] <| zDN <| rC 81 (.bool false) rfl (congrArg Value.bool (by rw [hown, hq1]; rfl)) <| rC 19 (.bool false) rfl (congrArg Value.bool (by rw [hown, hq1]; rfl)) <| rC 80 (.bool false) rfl (congrArg Value.bool (by rw [hown, hq1]; rfl)) <| zFKNSR 8 ?_
        have htk := hgt _ (dget_mem (l := ts5) (i := k) (by omega))
        generalize ht : dget ts5 k = t at *
        obtain ⟨htw1, htw2⟩ : 1 ≤ t.W ∧ t.W ≤ 16 := ⟨htk.img.w1, htk.w16⟩
        obtain ⟨hth1, hth2⟩ : 1 ≤ t.H ∧ t.H ≤ 16 := ⟨htk.img.h1, htk.h16⟩
        obtain ⟨hts1, hts2⟩ := htk.s_
        obtain ⟨htx1, htx2⟩ := htk.x_
        obtain ⟨hty1, hty2⟩ := htk.y_
        obtain ⟨hta1, hta2⟩ := htk.a_
        have htl := htk.img.le
        refine cont_see 8 (rD (some ⟨t.r, 0, none⟩) t.r 0 t.n 1 (cV t.px)) rfl rfl (by rw [← ht]; exact Vw.bunAt k (by omega) rfl rfl) rfl ?_
        refine cM ?_
        refine cont_see 10 (rD (t.A) t.g 0 t.k 4 (rvals t.op)) rfl rfl (by rw [← ht]; exact Vw.bunAt k (by omega) rfl rfl) rfl ?_
        refine cM ?_
        have hhl : (hidP t.W t.H t.X t.Y t.s t.al t.op ⟨t.ca, t.cb, t.cc, t.cd⟩).length ≤ 6400 := hid_len htk
        refine cM ?_
        refine bD [0, 0] 2 6 [(82, .slice A1 k3 cp4), (83, iQ (k : Int))] [] <| pS 3 5 <| rC 82 (sL g2 k3 cp4) rfl (by rw [hr7_a (by omega)]) <| sS 84 (Instr.indexAt 25 (sL g2 k3 cp4) (iQ (k : Int))) (.pointer (some ⟨g2, k * 14, none⟩)) (fun w hT => rI 60 14 w) <| pS 4 4 <| sS 85 (Instr.loadAt 60 (.pointer (some ⟨g2, k * 14, none⟩))) (.agg #[.bool true, iQ t.W, iQ t.H, sL t.r t.n t.cap, iQ t.X, iQ t.Y, iQ t.s, iQ t.al, iQ t.ca, iQ t.cb, iQ t.cc, iQ t.cd, .slice t.A t.k t.cp, .string ⟨#[]⟩]) (fun w hT => rM 14 ([.bool true, iQ t.W, iQ t.H, sL t.r t.n t.cap, iQ t.X, iQ t.Y, iQ t.s, iQ t.al, iQ t.ca, iQ t.cb, iQ t.cc, iQ t.cd, .slice t.A t.k t.cp, .string ⟨#[]⟩]) (by have h_ := Rd.dcell TS.size (Row.rd (hT.ok 12 _ rfl)) (i := k) (by omega); rw [ht] at h_; simp only [Nat.zero_add] at h_; exact h_)) <| pS 5 3 <| cG (d := 86) (α := Option Addr × Nat × Nat × Nat) (fun x_ => .slice x_.1 x_.2.2.1 x_.2.2.2) (fun x_ => [.gen (rowE (x_.1) x_.2.1 x_.2.2.1 x_.2.2.2 53 4 (rvals (hidP t.W t.H t.X t.Y t.s t.al t.op ⟨t.ca, t.cb, t.cc, t.cd⟩)) true), rD (t.A) t.g 0 t.k 4 (rvals t.op), rD (some ⟨t.r, 0, none⟩) t.r 0 t.n 1 (cV t.px), rD (r9.A) r9.g 0 r9.n 4 (rvals r9.xs), .gen (rowE (A21) g22 k23 cp24 53 4 (rvals (leftL (⟨0, 0, bw, bh⟩ : Rect) ts5)) true), .gen (bunO k3 (RS.rws rs18)), oE r19 k3 k3 58 1 (dvals RS.cells rs18.reverse), .cells b17 [iQ 0, iQ 0, iQ bw, iQ bh] 53 true, .gen (bunO k3 (IT.pxs its11)), .gen (bunO k3 (IT.hds 118 its11)), .gen (rowE (A8) g9 k3 cp10 103 14 (dvals IT.cells its11) true), .gen (bunO k3 (TS.pxs ts5)), .gen (bunO k3 (TS.ops ts5)), .gen (rowE (A1) g2 k3 cp4 60 14 (dvals TS.cells ts5) true)]) (fun x_ => True) (fun w hT => (refHides13 t.W t.H t.r t.n t.cap t.px t.X t.Y t.s t.al t.ca t.cb t.cc t.cd t.A t.g 0 t.k t.cp t.op w (hT.viewRo (.cons (i := 1) rfl Vw.rd (.cons (i := 0) rfl Vw.rd .nil)) rfl) htk.img (by omega) (by omega) (by omega) (op_len htk).1).mono fun e w' ⟨A34, g35, k36, cp37, he_, ht_⟩ => ⟨(A34, g35, k36, cp37), he_, trivial, hT.news ht_ rfl⟩) ?_
        rintro ⟨A34, g35, k36, cp37⟩ hf38_
        refine cM ?_
        refine fR 0 k36 A34 g35 cp37 (hidP t.W t.H t.X t.Y t.s t.al t.op ⟨t.ca, t.cb, t.cc, t.cd⟩) rfl fun hr39_a hr39_l hr39_c hr39_m => ?_
        refine bD [0, 0] 7 1 [(87, iQ xk), (88, iQ yk)] [] <| pS 8 0 <| cP 89 (.bool (hasL (hidP t.W t.H t.X t.Y t.s t.al t.op ⟨t.ca, t.cb, t.cc, t.cd⟩) xk yk)) (fun w hT => refHasL A34 g35 0 k36 cp37 (hidP t.W t.H t.X t.Y t.s t.al t.op ⟨t.ca, t.cb, t.cc, t.cd⟩) xk yk w (hT.viewRo (.cons (i := 0) rfl Vw.rowRd .nil) rfl) (by omega)) <| zDN <| cSp 89 _ rfl (fun c40_ => ?_) fun c40_ => ?_
        ·
          refine zTSR 5 <| bS [0, 0, 0, 0, 0] 5 0 [(7, .slice A1 k3 cp4), (10, pT b17), (11, sL r19 k3 k3), (12, .slice A21 k23 cp24), (13, iQ (i : Int)), (14, iQ xk), (15, iQ yk), (16, .bool true), (18, iQ (k : Int)), (80, .bool false), (92, undef)] <| zDNR 1 <| bD [0] 1 0 [(17, .bool true)] [] <| zDbNR 3 <| bD [0, 0] 2 1 [(70, iQ (IntKind.i64.wrap ((k : Int) - 1)))] [69] <| wI 70 ((k : Int) - 1) <| bD [0] 3 0 [(18, iQ ((k : Int) - 1))] [] <| zDN <| fG 3 <| fG 2 <| fG 1 <| fG 0 ?_
          have hk1 : hidA ts5 k xk yk = true := (by rw [hidA_step (by omega), hq1, Bool.or_true])
          refine rC 17 (.bool (hidA ts5 k xk yk)) rfl (congrArg (Value.bool) hk1.symm) <| rC 16 (.bool (!(hidA ts5 0 xk yk) || hidA ts5 k xk yk)) rfl (congrArg (Value.bool) (by rw [hk1, Bool.or_true])) <| rC 18 (iQ (((k : Nat) : Int) - 1)) rfl (congrArg (Value.int .i64) rfl) <| cA k (show (k) ≤ k3 from (by omega))
        refine zFKbNR 3 <| bS [0, 0] 2 1 [(7, .slice A1 k3 cp4), (10, pT b17), (11, sL r19 k3 k3), (12, .slice A21 k23 cp24), (13, iQ (i : Int)), (14, iQ xk), (15, iQ yk), (16, .bool true), (17, .bool true), (70, iQ (IntKind.i64.wrap ((k : Int) - 1))), (80, .bool false)] <| wI 70 ((k : Int) - 1) <| bD [0] 3 0 [(18, iQ ((k : Int) - 1))] [] <| zDN <| fG 3 <| fG 2 <| fG 1 <| fG 0 ?_
        have hk1 : hidA ts5 k xk yk = true := (by rw [hidA_step (by omega), hq1, Bool.or_true])
        refine rC 17 (.bool (hidA ts5 k xk yk)) rfl (congrArg (Value.bool) hk1.symm) <| rC 16 (.bool (!(hidA ts5 0 xk yk) || hidA ts5 k xk yk)) rfl (congrArg (Value.bool) (by rw [hk1, Bool.or_true])) <| rC 18 (iQ (((k : Nat) : Int) - 1)) rfl (congrArg (Value.int .i64) rfl) <| cA k (show (k) ≤ k3 from (by omega))
      refine zFXxxeNSR 11 ?_
      have hq0 : hidA ts5 0 xk yk = true := (show q = 0 by omega) ▸ hq
      refine bD [0, 0, 0, 0, 0, 0, 0, 0] 8 3 [(96, .bool false), (97, .bool true), (98, .bool true), (99, .slice A21 k23 cp24), (100, iQ xk), (101, iQ yk)] [94, 95] <| pS 9 2 <| cP 102 (.bool (hasL (leftL (⟨0, 0, bw, bh⟩ : Rect) ts5) xk yk)) (fun w hT => refHasL A21 g22 0 k23 cp24 (leftL (⟨0, 0, bw, bh⟩ : Rect) ts5) xk yk w (hT.viewRo (.cons (i := 0) rfl Vw.rowRd .nil) rfl) (by omega)) <| bD [0, 0] 11 0 [(103, .bool (hasL (leftL (⟨0, 0, bw, bh⟩ : Rect) ts5) xk yk)), (104, .bool (hasL (leftL (⟨0, 0, bw, bh⟩ : Rect) ts5) xk yk))] [] <| zDN <| rC 104 (.bool false) rfl (congrArg Value.bool (by rw [left_hid0 _ hxy, hq0]; rfl)) <| rC 102 (.bool false) rfl (congrArg Value.bool (by rw [left_hid0 _ hxy, hq0]; rfl)) <| rC 103 (.bool false) rfl (congrArg Value.bool (by rw [left_hid0 _ hxy, hq0]; rfl)) <| zFKbNR 3 <| bD [0, 0] 2 1 [(51, iQ (IntKind.i64.wrap ((i : Int) + 1)))] [50] <| wI 51 ((i : Int) + 1) <| bD [0] 3 0 [(13, iQ ((i : Int) + 1))] [] <| zDN <| cA (i + 1) (show (i + 1) ≤ nn from (by omega))
    ·
      refine rC 17 (.bool false) rfl (congrArg (Value.bool) hq) <| rC 16 (.bool (!(hidA ts5 0 xk yk))) rfl (congrArg (Value.bool) (by rw [hq, Bool.or_false])) ?_
      have hqn := hq
      refine zSSR 2 <| bD [0, 0] 2 0 [(68, .bool (decide ((((q : Nat) : Int) - 1) ≥ 0)))] [67] <| zDN <| sD 68 rfl (fun c42_ => ?_) fun c42_ => ?_
      ·
        refine zTKNSBSR 8 ?_
        obtain ⟨k, hk⟩ : ∃ k : Nat, (k : Int) = ((q : Nat) : Int) - 1 := ⟨q - 1, by omega⟩
        refine rC 18 (iQ (k : Int)) rfl (congrArg (Value.int .i64) hk.symm) ?_
        have hqk : q = k + 1 := by omega
        have hq1 : hidA ts5 (k + 1) xk yk = false := by rw [← hqk]; exact hq
        obtain ⟨r9, hr9⟩ : ∃ y_ : RS, y_ = dget rs18 (k3 - 1 - k) := ⟨_, rfl⟩
        have hre : dget rs18.reverse k = r9 := by rw [dget_rev (by omega), hr9, hrsl]
        have hx9 : r9.xs = seenL (⟨0, 0, bw, bh⟩ : Rect) ts5 k := by rw [hr9, hrsO (k3 - 1 - k) (by omega), show k3 - 1 - (k3 - 1 - k) = k by omega]
        have hsl9 := seenL_len (W := bw) (H := bh) ⟨by omega, by omega⟩ ⟨by omega, by omega⟩ ts5 k
        rw [← hx9] at hsl9
        refine cont_see 1 (rD (r9.A) r9.g 0 r9.n 4 (rvals r9.xs)) rfl rfl (by rw [← hr9.symm]; exact Vw.bunAt (k3 - 1 - k) (by omega) rfl rfl) rfl ?_
        refine cM ?_
        refine cont_fact (F := (0 < r9.n → (r9.A : Option Addr) = some ⟨r9.g, 0, none⟩) ∧ r9.xs.length = r9.n) (fun w hT => Rd.factsR (hT.ok 0 _ rfl)) (fun hl43_ => ?_)
        obtain ⟨hl43_a, hl43_l⟩ := hl43_
        refine cM ?_
        have hown : hasL r9.xs xk yk = (!(hidA ts5 (k + 1) xk yk) && hasL [(dget ts5 k).bx] xk yk) := by rw [hx9]; exact seen_hidA hxy k
        refine bD [0, 0] 2 6 [(71, sL r19 k3 k3), (72, iQ (k : Int))] [] <| pS 3 5 <| sS 73 (Instr.indexAt 77 (sL r19 k3 k3) (iQ (k : Int))) (.pointer (some ⟨r19, k, none⟩)) (fun w hT => rI 58 1 w) <| pS 4 4 <| sS 74 (Instr.loadAt 58 (.pointer (some ⟨r19, k, none⟩))) (.slice r9.A r9.n r9.cap) (fun w hT => rL (Rd.dcell1z RS.size (Row.rd (hT.ok 3 _ rfl)) (i := k) (by omega) (by rw [hre]; rfl))) <| bD [0, 0] 6 2 [(75, iQ xk), (76, iQ yk)] [] <| pS 7 1 <| cP 77 (.bool (hasL r9.xs xk yk)) (fun w hT => refHasL r9.A r9.g 0 r9.n r9.cap r9.xs xk yk w (hT.viewRo (.cons (i := 0) rfl Vw.rd .nil) rfl) (by omega)) <| bD [0] 8 0 [(19, .bool (hasL r9.xs xk yk))] [] <| zDNSSR 4 <| bD [0, 0, 0, 0] 4 0 [(80, undef), (81, .bool false)] [78, 79] <| zDNFKNSR 8 ?_
        have htk := hgt _ (dget_mem (l := ts5) (i := k) (by omega))
        generalize ht : dget ts5 k = t at *
        obtain ⟨htw1, htw2⟩ : 1 ≤ t.W ∧ t.W ≤ 16 := ⟨htk.img.w1, htk.w16⟩
        obtain ⟨hth1, hth2⟩ : 1 ≤ t.H ∧ t.H ≤ 16 := ⟨htk.img.h1, htk.h16⟩
        obtain ⟨hts1, hts2⟩ := htk.s_
        obtain ⟨htx1, htx2⟩ := htk.x_
        obtain ⟨hty1, hty2⟩ := htk.y_
        obtain ⟨hta1, hta2⟩ := htk.a_
        have htl := htk.img.le
        refine cont_see 8 (rD (some ⟨t.r, 0, none⟩) t.r 0 t.n 1 (cV t.px)) rfl rfl (by rw [← ht]; exact Vw.bunAt k (by omega) rfl rfl) rfl ?_
        refine cM ?_
        refine cont_see 10 (rD (t.A) t.g 0 t.k 4 (rvals t.op)) rfl rfl (by rw [← ht]; exact Vw.bunAt k (by omega) rfl rfl) rfl ?_
        refine cM ?_
        have hhl : (hidP t.W t.H t.X t.Y t.s t.al t.op ⟨t.ca, t.cb, t.cc, t.cd⟩).length ≤ 6400 := hid_len htk
        refine cM ?_
        refine bD [0, 0] 2 6 [(82, .slice A1 k3 cp4), (83, iQ (k : Int))] [] <| pS 3 5 <| rC 82 (sL g2 k3 cp4) rfl (by rw [hr7_a (by omega)]) <| sS 84 (Instr.indexAt 25 (sL g2 k3 cp4) (iQ (k : Int))) (.pointer (some ⟨g2, k * 14, none⟩)) (fun w hT => rI 60 14 w) <| pS 4 4 <| sS 85 (Instr.loadAt 60 (.pointer (some ⟨g2, k * 14, none⟩))) (.agg #[.bool true, iQ t.W, iQ t.H, sL t.r t.n t.cap, iQ t.X, iQ t.Y, iQ t.s, iQ t.al, iQ t.ca, iQ t.cb, iQ t.cc, iQ t.cd, .slice t.A t.k t.cp, .string ⟨#[]⟩]) (fun w hT => rM 14 ([.bool true, iQ t.W, iQ t.H, sL t.r t.n t.cap, iQ t.X, iQ t.Y, iQ t.s, iQ t.al, iQ t.ca, iQ t.cb, iQ t.cc, iQ t.cd, .slice t.A t.k t.cp, .string ⟨#[]⟩]) (by have h_ := Rd.dcell TS.size (Row.rd (hT.ok 12 _ rfl)) (i := k) (by omega); rw [ht] at h_; simp only [Nat.zero_add] at h_; exact h_)) <| pS 5 3 <| cG (d := 86) (α := Option Addr × Nat × Nat × Nat) (fun x_ => .slice x_.1 x_.2.2.1 x_.2.2.2) (fun x_ => [.gen (rowE (x_.1) x_.2.1 x_.2.2.1 x_.2.2.2 53 4 (rvals (hidP t.W t.H t.X t.Y t.s t.al t.op ⟨t.ca, t.cb, t.cc, t.cd⟩)) true), rD (t.A) t.g 0 t.k 4 (rvals t.op), rD (some ⟨t.r, 0, none⟩) t.r 0 t.n 1 (cV t.px), rD (r9.A) r9.g 0 r9.n 4 (rvals r9.xs), .gen (rowE (A21) g22 k23 cp24 53 4 (rvals (leftL (⟨0, 0, bw, bh⟩ : Rect) ts5)) true), .gen (bunO k3 (RS.rws rs18)), oE r19 k3 k3 58 1 (dvals RS.cells rs18.reverse), .cells b17 [iQ 0, iQ 0, iQ bw, iQ bh] 53 true, .gen (bunO k3 (IT.pxs its11)), .gen (bunO k3 (IT.hds 118 its11)), .gen (rowE (A8) g9 k3 cp10 103 14 (dvals IT.cells its11) true), .gen (bunO k3 (TS.pxs ts5)), .gen (bunO k3 (TS.ops ts5)), .gen (rowE (A1) g2 k3 cp4 60 14 (dvals TS.cells ts5) true)]) (fun x_ => True) (fun w hT => (refHides13 t.W t.H t.r t.n t.cap t.px t.X t.Y t.s t.al t.ca t.cb t.cc t.cd t.A t.g 0 t.k t.cp t.op w (hT.viewRo (.cons (i := 1) rfl Vw.rd (.cons (i := 0) rfl Vw.rd .nil)) rfl) htk.img (by omega) (by omega) (by omega) (op_len htk).1).mono fun e w' ⟨A44, g45, k46, cp47, he_, ht_⟩ => ⟨(A44, g45, k46, cp47), he_, trivial, hT.news ht_ rfl⟩) ?_
        rintro ⟨A44, g45, k46, cp47⟩ hf48_
        refine cM ?_
        refine fR 0 k46 A44 g45 cp47 (hidP t.W t.H t.X t.Y t.s t.al t.op ⟨t.ca, t.cb, t.cc, t.cd⟩) rfl fun hr49_a hr49_l hr49_c hr49_m => ?_
        refine bD [0, 0] 7 1 [(87, iQ xk), (88, iQ yk)] [] <| pS 8 0 <| cP 89 (.bool (hasL (hidP t.W t.H t.X t.Y t.s t.al t.op ⟨t.ca, t.cb, t.cc, t.cd⟩) xk yk)) (fun w hT => refHasL A44 g45 0 k46 cp47 (hidP t.W t.H t.X t.Y t.s t.al t.op ⟨t.ca, t.cb, t.cc, t.cd⟩) xk yk w (hT.viewRo (.cons (i := 0) rfl Vw.rowRd .nil) rfl) (by omega)) <| zDN <| cSp 89 _ rfl (fun c50_ => ?_) fun c50_ => ?_
        ·
          have hid0 : hidA ts5 0 xk yk = true := hidA_zero (k := k) (by omega) (by rw [ht]; exact c50_)
          have howt : hasL r9.xs xk yk = true := by rw [hown, hq1, hid_bx htk c50_]; rfl
          refine zTSR 5 <| bS [0, 0] 2 3 [(7, .slice A1 k3 cp4), (10, pT b17), (11, sL r19 k3 k3), (12, .slice A21 k23 cp24), (13, iQ (i : Int)), (14, iQ xk), (15, iQ yk), (18, iQ (k : Int)), (19, .bool (hasL r9.xs xk yk)), (80, undef), (91, .bool (!(hidA ts5 0 xk yk)))] <| rC 91 (.bool false) rfl (congrArg Value.bool (by rw [hid0]; rfl)) <| bD [0, 0, 0] 5 0 [(16, .bool (hasL r9.xs xk yk)), (92, .bool (hasL r9.xs xk yk))] [93] <| zDNR 1 <| bD [0] 1 0 [(17, .bool true)] [] <| zDbNR 3 <| bD [0, 0] 2 1 [(70, iQ (IntKind.i64.wrap ((k : Int) - 1)))] [69] <| wI 70 ((k : Int) - 1) <| bD [0] 3 0 [(18, iQ ((k : Int) - 1))] [] <| zDN <| fG 3 <| fG 2 <| fG 1 <| fG 0 ?_
          have hk1 : hidA ts5 k xk yk = true := (by rw [hidA_step (by omega), ht, show hasL t.hid xk yk = true from c50_]; rfl)
          refine rC 17 (.bool (hidA ts5 k xk yk)) rfl (congrArg (Value.bool) hk1.symm) <| rC 16 (.bool (!(hidA ts5 0 xk yk) || hidA ts5 k xk yk)) rfl (congrArg (Value.bool) (by rw [hk1, howt, Bool.or_true])) <| rC 18 (iQ (((k : Nat) : Int) - 1)) rfl (congrArg (Value.int .i64) rfl) <| cA k (show (k) ≤ k3 from (by omega))
        refine zFKbNR 3 <| bS [0, 0] 2 1 [(7, .slice A1 k3 cp4), (10, pT b17), (11, sL r19 k3 k3), (12, .slice A21 k23 cp24), (13, iQ (i : Int)), (14, iQ xk), (15, iQ yk), (16, .bool (!(hidA ts5 0 xk yk))), (17, .bool false), (70, iQ (IntKind.i64.wrap ((k : Int) - 1))), (80, undef)] <| wI 70 ((k : Int) - 1) <| bD [0] 3 0 [(18, iQ ((k : Int) - 1))] [] <| zDN <| fG 3 <| fG 2 <| fG 1 <| fG 0 ?_
        have hk1 : hidA ts5 k xk yk = false := (by rw [hidA_step (by omega), ht, show hasL t.hid xk yk = false from c50_, hq1]; rfl)
        refine rC 17 (.bool (hidA ts5 k xk yk)) rfl (congrArg (Value.bool) hk1.symm) <| rC 16 (.bool (!(hidA ts5 0 xk yk) || hidA ts5 k xk yk)) rfl (congrArg (Value.bool) (by rw [hk1, Bool.or_false])) <| rC 18 (iQ (((k : Nat) : Int) - 1)) rfl (congrArg (Value.int .i64) rfl) <| cA k (show (k) ≤ k3 from (by omega))
      refine zFXxxeNSR 11 ?_
      have hq0 : hidA ts5 0 xk yk = false := (show q = 0 by omega) ▸ hq
      refine bD [0, 0, 0] 3 8 [(96, .bool (!(!(hidA ts5 0 xk yk))))] [94, 95] <| rC 96 (.bool false) rfl (congrArg Value.bool (by rw [hq0]; rfl)) <| bD [0, 0, 0, 0, 0, 0, 0, 0] 11 0 [(97, .bool false), (98, .bool false), (99, undef), (100, undef), (101, undef), (102, undef), (103, .bool false), (104, .bool false)] [] <| zDN <| zFKbNR 3 <| bD [0, 0] 2 1 [(51, iQ (IntKind.i64.wrap ((i : Int) + 1)))] [50] <| wI 51 ((i : Int) + 1) <| bD [0] 3 0 [(13, iQ ((i : Int) + 1))] [] <| zDN <| cA (i + 1) (show (i + 1) ≤ nn from (by omega))
  refine zFXxxeNSR 2 <| pS 1 1 <| cP 105 (.bool true) (fun w hT => lives17  w) <| bS [0] 2 0 [(6, .bool true)] <| fG 3 <| zDNr <| rA rfl 0 (.bool true) fun w hT => ?_
  exact ⟨rfl, hT.post rfl⟩
end Go.Proofs.Ytlfahohbkgdabaa
