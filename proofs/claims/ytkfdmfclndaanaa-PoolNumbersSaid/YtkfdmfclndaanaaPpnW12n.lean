/- Contracts of functions of the given program, printed by a program of this project. -/
import Derived.Test.YtkfdmfclndaanaaPpnG1
import Derived.Test.YtkfdmfclndaanaaProg
set_option linter.unusedSimpArgs false
set_option linter.unusedVariables false
namespace Go.Proofs.Ytkfdmfclndaanaa
open Go Go.RowKit
set_option maxRecDepth 100000
set_option maxHeartbeats 8000000
theorem walkPoolNumbers (A : Option Addr) (g o n cap : Nat) (xs : List Int) (w : World) (hr : Rd w A g o n 1 (iV xs)) (hl : xs.length = n) (hc : n ≤ cap) (hm : cap ≤ maxLen) (hx : ∀ x ∈ xs, -9223372036854775808 ≤ x ∧ x ≤ 9223372036854775807) :
    Calls Try.prog 3 #[.slice A n cap] w fun e w' => e = .returned (.bool true) ∧ Below w.heap.size w w' := by
 unfold maxLen at hm
 refine enter 66 [(0, .slice A n cap)] [rD (A) g o n 1 (iV xs)] Try.func3 rfl Try.ntmps3 rfl (by kernel_rfl) hr.tab ?_
 refine zSR 1 <| bD [0] 1 0 [] [2] <| zDNSR 2 <| pS 1 1 <| cG (d := 10) (α := Nat × Nat) (fun x_ => .pointer (pB x_.1)) (fun x_ => [.cells x_.1 [iq ((([] : List PB).length : Nat) : Int), .map (some x_.2)] 65 true, .gen (mapE x_.2 (pmsV (keysP (liveP ([] : List PB)))) true), .gen (allE 67 81 48 (liveP ([] : List PB))), rD (A) g o n 1 (iV xs)]) (fun x_ => True) (fun w hT => (poolNew  w).mono fun e w' ⟨p1, mp2, he_, ht_⟩ => ⟨(p1, mp2), he_, trivial, hT.news ht_ rfl⟩) ?_
 rintro ⟨p1, mp2⟩ hf3_
 refine bD [0] 2 0 [(3, .pointer (pB p1))] [] <| zDNSSR 2 <| bD [0, 0] 2 0 [(12, .bool false)] [11] <| cDn <| zN <| cFa rfl <| cont_skip <| zN <| cSq <| zSR 1 <| bD [0] 1 0 [(4, iq 0)] [] <| cDn <| zN <| cont_block <| cL (α := Nat × List PB) (fun x_ : Nat × List PB => x_.1 ≤ n ∧ x_.1 ≤ 20 ∧ NumP x_.2 x_.1) (fun x_ : Nat × List PB => [(0, .slice A n cap), (3, .pointer (pB p1)), (4, iq (x_.1 : Int))]) (fun x_ : Nat × List PB => [.cells p1 [iq ((x_.2.length : Nat) : Int), .map (some mp2)] 65 true, .gen (mapE mp2 (pmsV (keysP (liveP x_.2))) true), .gen (allE 67 81 48 (liveP x_.2)), rD (A) g o n 1 (iV xs)]) (fun x_ : Nat × List PB => n - x_.1) (0, []) (show (0) ≤ n ∧ (0) ≤ 20 ∧ NumP ([]) (0) from ⟨by omega, by omega, NumP.nil⟩) ?_
 rintro ⟨i, ds⟩ hinv4_
 replace hinv4_ : i ≤ n ∧ i ≤ 20 ∧ NumP ds i := hinv4_
 obtain ⟨hi1, hi2, hnp⟩ := hinv4_
 refine cSq <| zSR 8 <| bD [0, 0, 0, 0, 0] 5 3 [(17, .bool (decide ((i : Int) < (n : Int))))] [13, 14, 15, 16] <| sD 17 rfl (fun c5_ => ?_) fun c5_ => ?_
 ·
  refine bD [0, 0, 0] 8 0 [(18, iq (i : Int)), (19, .bool (decide ((i : Int) < 20))), (20, .bool (decide ((i : Int) < 20)))] [] <| cDn <| zN <| cSp 20 _ rfl (fun c6_ => ?_) fun c6_ => ?_
  ·
   refine rC 19 (.bool true) rfl (congrArg Value.bool c6_) ?_
   replace c6_ := of_decide_eq_true c6_
   refine cTr rfl <| cont_skip <| zN <| cSq <| cont_block <| zSR 6 ?_
   have hgx := hx (xs.getD i 0) (by rw [List.getD_eq_getElem?_getD, List.getElem?_eq_getElem (by omega)]; exact List.getElem_mem _)
   refine bD [0, 0] 2 4 [(23, .slice A n cap), (24, iq (i : Int))] [] <| pS 3 3 <| rC 23 (.slice (some ⟨g, o, none⟩) n cap) rfl (by rw [hr.at_ (by omega)]) <| sS 25 (Instr.indexAt 22 (.slice (some ⟨g, o, none⟩) n cap) (iq (i : Int))) (.pointer (some ⟨g, o + i, none⟩)) (fun w hT => rI 3 1 w) <| pS 4 2 <| sS 26 (Instr.loadAt 3 (.pointer (some ⟨g, o + i, none⟩))) (iq (xs.getD i 0)) (fun w hT => rL (Rd.cell (hT.ok 3 _ rfl) (i) _ (ivals_get (by omega)))) <| pS 5 1 <| cP 27 (iq (aroundI (xs.getD i 0) 4)) (fun w hT => refAround (xs.getD i 0) 4 w (by omega) (by omega)) ?_
   have hq7_ := aroundI_range (xs.getD i 0) (m := 4) (by omega)
   refine bD [0] 6 0 [(5, iq (aroundI (xs.getD i 0) 4))] [] <| zDNSR 3 ?_
   obtain ⟨nid, hnid⟩ : ∃ y_ : Int, y_ = (aroundI (xs.getD i 0) 4) := ⟨_, rfl⟩
   refine rC 5 (iq nid) rfl (congrArg (Value.int .i64) hnid.symm) ?_
   have hnid1 : 0 ≤ nid ∧ nid < 4 := by rw [hnid]; exact aroundI_range _ (by decide)
   refine bD [0, 0] 2 1 [(28, .pointer (pB p1)), (29, iq nid)] [] <| pS 3 0 <| cG (d := 30) (α := Unit) (fun x_ => iq (fndE ds nid 5)) (fun x_ => [.cells p1 [iq (((dstP ds nid).length : Nat) : Int), .map (some mp2)] 65 true, .gen (mapE mp2 (pmsV (keysP (liveP (dstP ds nid)))) true), .gen (allE 67 81 48 (liveP (dstP ds nid))), rD (A) g o n 1 (iV xs)]) (fun x_ => True) (fun w hT => (poolDestroy p1 mp2 ds nid _ [rD (A) g o n 1 (iV xs)] _ w hT hnp.ok).mono fun e w' ⟨he_, ht_⟩ => ⟨(), he_, trivial, ht_⟩) ?_
   rintro ⟨⟩ -
   refine zDNSR 8 <| bD [0, 0] 2 6 [(32, .pointer (pB p1)), (33, iq nid)] [] <| pS 3 5 <| cG (d := 34) (α := Nat × Nat × Nat × Nat) (fun x_ => .tuple #[iq (((dstP ds nid).length : Nat) : Int), iq 0]) (fun x_ => [.cells p1 [iq ((((dstP ds nid) ++ [newP (((dstP ds nid).length : Nat) : Int) x_.1 nid x_.2.1 1 2 x_.2.2.1 x_.2.2.2]).length : Nat) : Int), .map (some mp2)] 65 true, .gen (mapE mp2 (pmsV (keysP (liveP ((dstP ds nid) ++ [newP (((dstP ds nid).length : Nat) : Int) x_.1 nid x_.2.1 1 2 x_.2.2.1 x_.2.2.2])))) true), .gen (allE 67 81 48 (liveP ((dstP ds nid) ++ [newP (((dstP ds nid).length : Nat) : Int) x_.1 nid x_.2.1 1 2 x_.2.2.1 x_.2.2.2]))), rD (A) g o n 1 (iV xs)]) (fun x_ => (x_.2.2.2 : Int) = 1 * 2) (fun w hT => (poolMakeY p1 mp2 (dstP ds nid) nid 1 2 _ [rD (A) g o n 1 (iV xs)] _ w hT (dst_ok hnp.ok) (dst_find hnp.ok) (by omega) (by rw [dst_len, hnp.len]; omega)).mono fun e w' ⟨b9_, m10_, q11_, n12_, he_, hf_, ht_⟩ => ⟨(b9_, m10_, q11_, n12_), he_, hf_, ht_⟩) ?_
   rintro ⟨b9, m10, q11, n12⟩ hf13_
   replace hf13_ : (n12 : Int) = 1 * 2 := hf13_
   refine bD [0, 0, 0, 0, 0] 8 0 [(6, iq (((dstP ds nid).length : Nat) : Int)), (7, iq 0)] [31, 35, 36] <| zDNSR 8 <| bD [0, 0] 2 6 [(38, .pointer (pB p1)), (39, iq nid)] [] <| pS 3 5 <| cG (d := 40) (α := Unit) (fun x_ => .tuple #[iq (findP ((dstP ds nid) ++ [newP (((dstP ds nid).length : Nat) : Int) b9 nid m10 1 2 q11 n12]) nid), iq (fndE ((dstP ds nid) ++ [newP (((dstP ds nid).length : Nat) : Int) b9 nid m10 1 2 q11 n12]) nid 5)]) (fun x_ => [.cells p1 [iq ((((dstP ds nid) ++ [newP (((dstP ds nid).length : Nat) : Int) b9 nid m10 1 2 q11 n12]).length : Nat) : Int), .map (some mp2)] 65 true, .gen (mapE mp2 (pmsV (keysP (liveP ((dstP ds nid) ++ [newP (((dstP ds nid).length : Nat) : Int) b9 nid m10 1 2 q11 n12])))) true), .gen (allE 67 81 48 (liveP ((dstP ds nid) ++ [newP (((dstP ds nid).length : Nat) : Int) b9 nid m10 1 2 q11 n12]))), rD (A) g o n 1 (iV xs)]) (fun x_ => True) (fun w hT => (poolFind p1 mp2 ((dstP ds nid) ++ [newP (((dstP ds nid).length : Nat) : Int) b9 nid m10 1 2 q11 n12]) nid _ [rD (A) g o n 1 (iV xs)] _ w hT (hnp.step hnid1 hf13_).ok).mono fun e w' ⟨he_, ht_⟩ => ⟨(), he_, trivial, ht_⟩) ?_
   rintro ⟨⟩ -
   refine bD [0, 0, 0, 0, 0] 8 0 [(8, iq (findP ((dstP ds nid) ++ [newP (((dstP ds nid).length : Nat) : Int) b9 nid m10 1 2 q11 n12]) nid)), (9, iq (fndE ((dstP ds nid) ++ [newP (((dstP ds nid).length : Nat) : Int) b9 nid m10 1 2 q11 n12]) nid 5))] [37, 41, 42] <| zDNSR 16 <| rC 6 (iq (i : Int)) rfl (congrArg (Value.int .i64) (by rw [dst_len, hnp.len])) <| rC 8 (iq (i : Int)) rfl (congrArg (Value.int .i64) (hnp.find hnid1 hf13_)) <| rC 9 (iq 0) rfl (congrArg (Value.int .i64) (fndE_yes (by rw [hnp.find hnid1 hf13_]; omega))) <| bD [0, 0, 0, 0] 4 12 [(46, .bool ((i : Int) != (i : Int)))] [43, 44, 45] <| rC 46 (.bool false) rfl (congrArg Value.bool (by simp)) <| bS [0, 0, 0, 0, 0, 0, 0, 0, 0] 13 3 [(0, .slice A n cap), (3, .pointer (pB p1)), (4, iq (i : Int)), (9, iq 0), (18, iq (i : Int)), (19, .bool true), (47, iq 0), (48, .bool false), (51, iq (i : Int)), (52, iq (i : Int)), (53, .bool ((i : Int) != (i : Int))), (55, .bool ((i : Int) != (i : Int)))] <| rC 55 (.bool false) rfl (congrArg Value.bool (by simp)) <| rC 53 (.bool false) rfl (congrArg Value.bool (by simp)) <| bD [0, 0, 0] 16 0 [(56, iq 0), (57, .bool false), (58, .bool false)] [] <| cDn <| zN <| cFa rfl <| cont_skip <| blk_normal <| zN <| cRg 3 rfl <| bD [0, 0] 2 1 [(22, iq (IntKind.i64.wrap ((i : Int) + 1)))] [21] <| wI 22 ((i : Int) + 1) <| bD [0] 3 0 [(4, iq ((i : Int) + 1))] [] <| cDn <| zN <| cA (i + 1, ((dstP ds nid) ++ [newP (((dstP ds nid).length : Nat) : Int) b9 nid m10 1 2 q11 n12])) (show (i + 1) ≤ n ∧ (i + 1) ≤ 20 ∧ NumP (((dstP ds nid) ++ [newP (((dstP ds nid).length : Nat) : Int) b9 nid m10 1 2 q11 n12])) (i + 1) from ⟨by omega, by omega, hnp.step hnid1 hf13_⟩)
  refine rC 19 (.bool false) rfl (congrArg Value.bool c6_) ?_
  replace c6_ := of_decide_eq_false c6_
  refine cFa rfl <| cont_exit <| then_exit <| then_exit <| blk_exit <| zN <| zSR 8 <| bS [0] 1 7 [(59, .pointer (pB p1))] <| pS 2 6 <| cG (d := 60) (α := Option Addr × Nat × Nat × Nat) (fun x_ => .slice x_.1 x_.2.2.1 x_.2.2.2) (fun x_ => [.gen (rowE (x_.1) x_.2.1 x_.2.2.1 x_.2.2.2 3 1 (iV (sortL ((keysP (liveP ds)).map Prod.fst))) true), .cells p1 [iq ((ds.length : Nat) : Int), .map (some mp2)] 65 true, .gen (mapE mp2 (pmsV (keysP (liveP ds))) true), .gen (allE 67 81 48 (liveP ds)), rD (A) g o n 1 (iV xs)]) (fun x_ => True) (fun w hT => (poolThere p1 mp2 ds [rD (A) g o n 1 (iV xs)] _ w hT (by rw [hnp.len]; omega)).mono fun e w' ⟨A17_, g18_, k19_, cp20_, he_, ht_⟩ => ⟨(A17_, g18_, k19_, cp20_), he_, trivial, ht_⟩) ?_
  rintro ⟨A17, g18, k19, cp20⟩ -
  refine fI 0 k19 A17 g18 cp20 (sortL ((keysP (liveP ds)).map Prod.fst)) rfl fun hr22_a hr22_l hr22_c hr22_m => ?_
  have hkl := keysRow_len hr22_l
  refine bS [0, 0, 0] 5 3 [(63, .bool (decide ((k19 : Int) ≤ 4)))] <| fG 1 <| rC 63 (.bool true) rfl (congrArg Value.bool (decide_eq_true (by have := hnp.few; omega))) <| pS 6 2 <| cP 64 (.bool true) (fun w hT => lives12  w) <| bS [0, 0] 8 0 [(2, .bool true)] <| zDNr <| rA rfl 0 (.bool true) fun w hT => ?_
  exact ⟨rfl, hT.post rfl⟩
 refine bD [0, 0, 0] 8 0 [(18, undef), (19, undef), (20, .bool false)] [] <| cDn <| zN <| cFa rfl <| cont_exit <| then_exit <| then_exit <| blk_exit <| zN <| zSR 8 <| bS [0] 1 7 [(59, .pointer (pB p1))] <| pS 2 6 <| cG (d := 60) (α := Option Addr × Nat × Nat × Nat) (fun x_ => .slice x_.1 x_.2.2.1 x_.2.2.2) (fun x_ => [.gen (rowE (x_.1) x_.2.1 x_.2.2.1 x_.2.2.2 3 1 (iV (sortL ((keysP (liveP ds)).map Prod.fst))) true), .cells p1 [iq ((ds.length : Nat) : Int), .map (some mp2)] 65 true, .gen (mapE mp2 (pmsV (keysP (liveP ds))) true), .gen (allE 67 81 48 (liveP ds)), rD (A) g o n 1 (iV xs)]) (fun x_ => True) (fun w hT => (poolThere p1 mp2 ds [rD (A) g o n 1 (iV xs)] _ w hT (by rw [hnp.len]; omega)).mono fun e w' ⟨A24_, g25_, k26_, cp27_, he_, ht_⟩ => ⟨(A24_, g25_, k26_, cp27_), he_, trivial, ht_⟩) ?_
 rintro ⟨A24, g25, k26, cp27⟩ -
 refine fI 0 k26 A24 g25 cp27 (sortL ((keysP (liveP ds)).map Prod.fst)) rfl fun hr29_a hr29_l hr29_c hr29_m => ?_
 have hkl := keysRow_len hr29_l
 refine bS [0, 0, 0] 5 3 [(63, .bool (decide ((k26 : Int) ≤ 4)))] <| fG 1 <| rC 63 (.bool true) rfl (congrArg Value.bool (decide_eq_true (by have := hnp.few; omega))) <| pS 6 2 <| cP 64 (.bool true) (fun w hT => lives12  w) <| bS [0, 0] 8 0 [(2, .bool true)] <| zDNr <| rA rfl 0 (.bool true) fun w hT => ?_
 exact ⟨rfl, hT.post rfl⟩
end Go.Proofs.Ytkfdmfclndaanaa
