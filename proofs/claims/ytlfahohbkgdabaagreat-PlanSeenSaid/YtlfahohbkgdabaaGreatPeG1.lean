/- Texts of this proof's own, put together: what each holds is told ahead of it. -/
import Derived.Test.YtlfahohbkgdabaaGreatPeG0
import Derived.Test.YtlfahohbkgdabaaGreatProg
set_option linter.unusedSimpArgs false
set_option linter.unusedVariables false
namespace Go.Proofs.YtlfahohbkgdabaaGreat
open Go Go.RowKit
def aroundI (n m : Int) : Int := (if n < 0 then 0 - (n + 1) else n) % m
theorem aroundI_range (n : Int) {m : Int} (h : 0 < m) : 0 ≤ aroundI n m ∧ aroundI n m < m := ⟨Int.emod_nonneg _ (by omega), Int.emod_lt_of_pos _ h⟩
def goodC (c : Int) : Int := mkC (pa c) (mn (pr c) (pa c)) (mn (pg c) (pa c)) (mn (pb c) (pa c))
theorem parts_mk (a r g b : Int) : pa (mkC a r g b) = clip a ∧ pr (mkC a r g b) = clip r ∧ pg (mkC a r g b) = clip g ∧ pb (mkC a r g b) = clip b := by
  have := clip_range a; have := clip_range r; have := clip_range g; have := clip_range b
  unfold pa pr pg pb mkC
  omega
theorem pa_range {c : Int} (h : InC c) : 0 ≤ pa c ∧ pa c ≤ 255 := by obtain ⟨h1, h2⟩ := h; unfold pa; omega
theorem goodC_may (c : Int) (h : InC c) : mayB (goodC c) = true ∧ InC (goodC c) := by
  refine ⟨?_, mkC_range _ _ _ _⟩
  obtain ⟨h1, h2, h3, h4⟩ := parts_mk (pa c) (mn (pr c) (pa c)) (mn (pg c) (pa c)) (mn (pb c) (pa c))
  have := pa_range h
  unfold mayB
  rw [goodC, h1, h2, h3, h4]
  simp only [Bool.and_eq_true, decide_eq_true_eq]
  unfold clip mn
  omega
def goodP (n : Nat) (xs : List Int) (i : Nat) : List Int := (List.range n).map fun j => if j < i then goodC (xs.getD j 0) else 0
theorem goodP_length (n : Nat) (xs : List Int) (i : Nat) : (goodP n xs i).length = n := by simp [goodP]
theorem goodP_zero (n : Nat) (xs : List Int) : goodP n xs 0 = List.replicate n 0 := by
  apply List.ext_getElem?
  intro j
  simp only [goodP, List.getElem?_map, List.getElem?_range', List.getElem?_replicate]
  by_cases h : j < n <;> simp [h]
theorem goodP_set {n : Nat} {xs : List Int} {i : Nat} (h : i < n) : (goodP n xs i).set i (goodC (xs.getD i 0)) = goodP n xs (i + 1) := by
  apply List.ext_getElem?
  intro j
  rw [List.getElem?_set]
  simp only [goodP, List.getElem?_map, List.length_map, List.length_range]
  by_cases hj : i = j
  · subst hj
    simp [h]
  · simp only [if_neg hj]
    by_cases hn : j < n
    · simp only [List.getElem?_range hn, Option.map_some]
      by_cases h2 : j < i
      · rw [if_pos h2, if_pos (by omega)]
      · rw [if_neg h2, if_neg (by omega)]
    · simp [hn]
theorem goodC_zero : goodC 0 = 0 := by decide
theorem goodP_end {n : Nat} {xs : List Int} {i : Nat} (h : n ≤ i ∨ xs.length ≤ i) : goodP n xs i = goodP n xs n := by
  unfold goodP
  refine List.map_congr_left fun j hj => ?_
  have hjn : j < n := List.mem_range.1 hj
  rw [if_pos hjn]
  split
  · rfl
  · have : xs.length ≤ j := by omega
    rw [List.getD_eq_getElem?_getD, List.getElem?_eq_none this]
    exact goodC_zero.symm
structure GoodIn (a b : Int) (A : Option Addr) (g o n cap : Nat) (xs : List Int) : Prop where
  a : -9223372036854775808 ≤ a ∧ a ≤ 9223372036854775807
  b : -9223372036854775808 ≤ b ∧ b ≤ 9223372036854775807
  len : xs.length = n
  le : n ≤ cap
  mx : cap ≤ maxLen
  rng : ∀ x ∈ xs, InC x
  at_ : 0 < n → A = some ⟨g, o, none⟩
def AllMay (px : List Int) : Prop := ∀ c ∈ px, mayB c = true ∧ InC c
theorem goodP_may {n : Nat} {xs : List Int} (i : Nat) (h : ∀ x ∈ xs, InC x) : AllMay (goodP n xs i) := by
  intro c hc
  obtain ⟨j, _, rfl⟩ := List.mem_map.1 hc
  split
  · refine goodC_may _ ?_
    rw [List.getD_eq_getElem?_getD]
    cases hx : xs[j]? with
    | none => exact ⟨by simp, by simp⟩
    | some x => exact h x (List.mem_of_getElem? hx)
  · exact ⟨by decide, by decide, by decide⟩
theorem AllMay.get {px : List Int} (h : AllMay px) {i : Nat} (hi : i < px.length) : mayB (px.getD i 0) = true ∧ InC (px.getD i 0) := by
  rw [List.getD_eq_getElem?_getD, List.getElem?_eq_getElem hi]
  exact h _ (List.getElem_mem hi)
theorem imgOk_of {W H : Int} {n : Nat} {px : List Int} (hw : 1 ≤ W ∧ W ≤ 256 ∧ 1 ≤ H ∧ H ≤ 256) (hn : (n : Int) = W * H) (hl : px.length = n) (hm : AllMay px) : ImgOk W H n px :=
  ⟨hw.1, hw.2.1, hw.2.2.1, hw.2.2.2, hn, hl, fun c hc => (hm c hc).2⟩
def setL (W H : Int) (px : List Int) (x y c : Int) : List Int := if hasB 0 0 W H x y && mayB c then px.set (y * W + x).toNat c else px
def setE (W H x y c : Int) : Int := if !hasB 0 0 W H x y then 4 else if !mayB c then 1 else 0
theorem place_inv (i : Nat) {W : Int} (hW : 1 ≤ W) : (i : Int) / W * W + (i : Int) % W = i := by
  rw [Int.mul_comm]; exact Int.mul_ediv_add_emod _ _
theorem in_box {W H : Int} {n i : Nat} (hW : 1 ≤ W) (hn : (n : Int) = W * H) (hi : i < n) : hasB 0 0 W H ((i : Int) % W) ((i : Int) / W) = true := by
  have h1 := Int.emod_nonneg (i : Int) (show W ≠ 0 by omega)
  have h2 := Int.emod_lt_of_pos (i : Int) (show 0 < W by omega)
  have h3 := Int.ediv_nonneg (show 0 ≤ (i : Int) by omega) (show 0 ≤ W by omega)
  refine hasB_true.2 ⟨h1, h2, h3, ?_⟩
  exact Int.ediv_lt_of_lt_mul (by omega) (by rw [Int.mul_comm, ← hn]; omega)
theorem setL_at {W H : Int} {n i : Nat} {px : List Int} {c : Int} (hW : 1 ≤ W) (hn : (n : Int) = W * H) (hi : i < n) (hc : mayB c = true) : setL W H px ((i : Int) % W) ((i : Int) / W) c = px.set i c := by
  unfold setL
  rw [in_box hW hn hi, hc, Bool.and_self, if_pos rfl, place_inv i hW]
  rfl
def bldP (px : List Int) (i : Nat) : List Int := px.mapIdx fun j c => if j < i then c else 0
theorem bldP_length (px : List Int) (i : Nat) : (bldP px i).length = px.length := by simp [bldP]
theorem bldP_zero (px : List Int) : bldP px 0 = List.replicate px.length 0 := by
  apply List.ext_getElem?
  intro j
  simp only [bldP, List.getElem?_mapIdx, List.getElem?_replicate]
  by_cases h : j < px.length
  · simp [h]
  · simp [h]
theorem bldP_all {px : List Int} {i : Nat} (h : px.length ≤ i) : bldP px i = px := by
  apply List.ext_getElem?
  intro j
  simp only [bldP, List.getElem?_mapIdx]
  by_cases hj : j < px.length
  · simp [hj, show j < i by omega]
  · simp [hj]
theorem bldP_set {px : List Int} {i : Nat} (h : i < px.length) : (bldP px i).set i (px.getD i 0) = bldP px (i + 1) := by
  apply List.ext_getElem?
  intro j
  rw [List.getElem?_set]
  simp only [bldP, List.getElem?_mapIdx, List.length_mapIdx]
  by_cases hj : i = j
  · subst hj
    simp [h]
  · simp only [if_neg hj]
    cases px[j]? with
    | none => rfl
    | some v =>
      simp only [Option.map_some]
      by_cases h2 : j < i
      · rw [if_pos h2, if_pos (by omega)]
      · rw [if_neg h2, if_neg (by omega)]
theorem bldP_may {px : List Int} (h : AllMay px) (i : Nat) : AllMay (bldP px i) := by
  intro c hc
  obtain ⟨j, hj⟩ := List.getElem?_of_mem hc
  simp only [bldP, List.getElem?_mapIdx] at hj
  cases hp : px[j]? with
  | none => rw [hp] at hj; cases hj
  | some v =>
    rw [hp] at hj
    simp only [Option.map_some, Option.some.injEq] at hj
    subst hj
    split
    · exact h v (List.mem_of_getElem? hp)
    · exact ⟨by decide, by decide, by decide⟩
theorem emod_range (i : Nat) {W : Int} (hW : 1 ≤ W) : 0 ≤ (i : Int) % W ∧ (i : Int) % W < W ∧ 0 ≤ (i : Int) / W ∧ (i : Int) / W ≤ i :=
  ⟨Int.emod_nonneg _ (by omega), Int.emod_lt_of_pos _ (by omega), Int.ediv_nonneg (by omega) (by omega), Int.ediv_le_self _ (by omega)⟩
end Go.Proofs.YtlfahohbkgdabaaGreat
namespace Go.Proofs.YtlfahohbkgdabaaGreat
open Go Go.RowKit
theorem cutR_has (a b c d a' b' c' d' x y : Int) : hasB (cutR a b c d a' b' c' d').x0 (cutR a b c d a' b' c' d').y0 (cutR a b c d a' b' c' d').x1 (cutR a b c d a' b' c' d').y1 x y = true ↔ hasB a b c d x y = true ∧ hasB a' b' c' d' x y = true := by
  unfold cutR
  cases h : emptyB (max a a') (max b b') (min c c') (min d d') with
  | true =>
    have := emptyB_true.1 h
    simp only [if_true, hasB_true]
    omega
  | false =>
    simp only [Bool.false_eq_true, if_false, hasB_true]
    omega
end Go.Proofs.YtlfahohbkgdabaaGreat
namespace Go.Proofs.YtlfahohbkgdabaaGreat
open Go Go.RowKit
set_option maxRecDepth 100000
set_option maxHeartbeats 8000000
theorem refAround (n m : Int) (w : World) (hn : -9223372036854775808 ≤ n ∧ n ≤ 9223372036854775807) (hm : 1 ≤ m ∧ m ≤ 9223372036854775807) :
    Calls Tryz.prog 37 #[iQ n, iQ m] w fun e w' => e = .returned (iQ (aroundI n m)) ∧ Below w.heap.size w w' := by
 refine enter 13 [(0, iq n), (1, iq m)] [] Tryz.func37 rfl Tryz.ntmps37 rfl (by kernel_rfl) (Tab.start w) ?_
 refine cSq <| cRg 1 rfl <| bD [0] 1 0 [] [4] ?_
 refine cDn <| tNo <| cSq <| cSq <| cRg 2 rfl <| bD [0, 0] 2 0 [(6, .bool (decide (n < 0)))] [5] ?_
 refine cDn <| tNo ?_
 refine cSp 6 (decide (n < 0)) rfl (fun c1_ => ?_) (fun c1_ => ?_)
 ·
  replace c1_ := of_decide_eq_true c1_
  refine cTr rfl <| cRg 4 rfl <| bD [0, 0] 2 2 [(8, iq (IntKind.i64.wrap (n + 1)))] [7] ?_
  refine cRc 8 (iq (IntKind.i64.wrap (n + 1))) (iq (n + 1)) rfl (wrapI (by omega) (by omega)) ?_
  refine bD [0] 3 1 [(9, iq (IntKind.i64.wrap (0 - (n + 1))))] [] ?_
  refine cRc 9 (iq (IntKind.i64.wrap (0 - (n + 1)))) (iq (0 - (n + 1))) rfl (wrapI (by omega) (by omega)) ?_
  refine bD [0] 4 0 [(0, iq (0 - (n + 1)))] [] ?_
  refine cDn <| tNo <| cSq <| cRg 4 rfl <| bS [0, 0] 2 2 [(10, iq (0 - (n + 1))), (11, iq m)] ?_
  refine pSt 3 1 rfl rfl <| sem_step 12 (bopS .rem 3 (.tmp 10) (.tmp 11) (iq (0 - (n + 1))) (iq m)) (iq ((0 - (n + 1)).tmod m)) (by kernel_rfl) (fun w hT => run_rem (by omega) w) ?_
  refine cRc 12 (iq ((0 - (n + 1)).tmod m)) (iq ((0 - (n + 1)) % m)) rfl (tmodI (by omega)) ?_
  refine bS [0] 4 0 [(4, iq ((0 - (n + 1)) % m))] ?_
  refine cDn <| tNo <| cont_ret ?_
  refine ret_one (.inl rfl) rfl 0 (iq ((0 - (n + 1)) % m)) (by kernel_rfl) (by kernel_rfl) (fun w hT => ?_)
  exact ⟨ret_int (by simp [aroundI, *]), hT.post rfl⟩
 replace c1_ := of_decide_eq_false c1_
 refine cFa rfl <| cont_skip <| tNo <| cSq <| cRg 4 rfl <| bS [0, 0] 2 2 [(10, iq n), (11, iq m)] ?_
 refine pSt 3 1 rfl rfl <| sem_step 12 (bopS .rem 3 (.tmp 10) (.tmp 11) (iq n) (iq m)) (iq (n.tmod m)) (by kernel_rfl) (fun w hT => run_rem (by omega) w) ?_
 refine cRc 12 (iq (n.tmod m)) (iq (n % m)) rfl (tmodI (by omega)) ?_
 refine bS [0] 4 0 [(4, iq (n % m))] ?_
 refine cDn <| tNo <| cont_ret ?_
 refine ret_one (.inl rfl) rfl 0 (iq (n % m)) (by kernel_rfl) (by kernel_rfl) (fun w hT => ?_)
 exact ⟨ret_int (by simp [aroundI, *]), hT.post rfl⟩
theorem refParts (c : Int) (w : World) (h0 : 0 ≤ c) (h1 : c < 4294967296) :
    Calls Tryz.prog 22 #[cQ c] w fun e w' => e = .returned (.agg #[iQ (pa c), iQ (pr c), iQ (pg c), iQ (pb c)]) ∧ Below w.heap.size w w' := by
 refine enter 17 [(0, cQ c)] [] Tryz.func22 rfl Tryz.ntmps22 rfl (by kernel_rfl) (Tab.start w) ?_
 refine cSq <| cRg 1 rfl ?_
 refine batch1 [0] 1 0 (fun b1 => [(0, cQ c), (2, .pointer (pB b1))]) (fun b1 => [.cells b1 [iq 0, iq 0, iq 0, iq 0] 53 true]) rfl rfl [0, 2] (fun _ => rfl) (fun b1 => by kernel_rfl) (fun b1 => by kernel_rfl) (fun b1 => ?_)
 refine cDn <| tNo <| cSq <| cRg 3 rfl <| bD [0, 0] 2 1 [(5, iq (IntKind.i64.wrap c))] [4] ?_
 refine cRc 5 (iq (IntKind.i64.wrap c)) (iq c) rfl (wrapI (by omega) (by omega)) ?_
 refine bD [0] 3 0 [(3, iq c)] [] ?_
 refine cDn <| tNo <| cSq <| cRg 12 rfl <| bD [0, 0] 2 10 [(7, iq (IntKind.i64.wrap (c.tdiv 16777216)))] [6] ?_
 refine cRc 7 (iq (IntKind.i64.wrap (c.tdiv 16777216))) (iq (c / 16777216)) rfl (tdivI (by omega) (by omega) (by omega)) ?_
 refine bD [0, 0] 4 8 [(9, iq (IntKind.i64.wrap (c.tdiv 65536)))] [8] ?_
 refine cRc 9 (iq (IntKind.i64.wrap (c.tdiv 65536))) (iq (c / 65536)) rfl (tdivI (by omega) (by omega) (by omega)) ?_
 refine bD [0] 5 7 [(10, iq ((c / 65536).tmod 256))] [] ?_
 refine cRc 10 (iq ((c / 65536).tmod 256)) (iq ((c / 65536) % 256)) rfl (tmodI (by omega)) ?_
 refine bD [0, 0] 7 5 [(12, iq (IntKind.i64.wrap (c.tdiv 256)))] [11] ?_
 refine cRc 12 (iq (IntKind.i64.wrap (c.tdiv 256))) (iq (c / 256)) rfl (tdivI (by omega) (by omega) (by omega)) ?_
 refine bD [0] 8 4 [(13, iq ((c / 256).tmod 256))] [] ?_
 refine cRc 13 (iq ((c / 256).tmod 256)) (iq ((c / 256) % 256)) rfl (tmodI (by omega)) ?_
 refine bD [0, 0] 10 2 [(15, iq (c.tmod 256))] [14] ?_
 refine cRc 15 (iq (c.tmod 256)) (iq (c % 256)) rfl (tmodI (by omega)) ?_
 refine batch0 [0, 0] 12 0 [(2, .pointer (pB b1))] [.cells b1 [iq (c / 16777216), iq ((c / 65536) % 256), iq ((c / 256) % 256), iq (c % 256)] 53 true] rfl rfl (by kernel_rfl) (by kernel_rfl) ?_
 refine cDn <| tNo <| cont_ret ?_
 refine ret_one (.inl rfl) rfl 0 (.agg #[iq (c / 16777216), iq ((c / 65536) % 256), iq ((c / 256) % 256), iq (c % 256)]) (by kernel_rfl) (by kernel_rfl) (fun w hT => ?_)
 exact ⟨rfl, hT.post rfl⟩
theorem refMake (a r g b : Int) (w : World) :
    Calls Tryz.prog 23 #[iQ a, iQ r, iQ g, iQ b] w fun e w' => e = .returned (cQ (mkC a r g b)) ∧ Below w.heap.size w w' := by
 have ha : 0 ≤ mn (mx a 0) 255 ∧ mn (mx a 0) 255 ≤ 255 := by unfold mn mx; omega
 have hr : 0 ≤ mn (mx r 0) 255 ∧ mn (mx r 0) 255 ≤ 255 := by unfold mn mx; omega
 have hg : 0 ≤ mn (mx g 0) 255 ∧ mn (mx g 0) 255 ≤ 255 := by unfold mn mx; omega
 have hb : 0 ≤ mn (mx b 0) 255 ∧ mn (mx b 0) 255 ≤ 255 := by unfold mn mx; omega
 refine enter 32 [(0, iq a), (1, iq r), (2, iq g), (3, iq b)] [] Tryz.func23 rfl Tryz.ntmps23 rfl (by kernel_rfl) (Tab.start w) ?_
 refine cSq <| cRg 1 rfl <| bD [0] 1 0 [] [8] ?_
 refine cDn <| tNo <| cSq <| cRg 4 rfl <| bD [0, 0, 0, 0] 4 0 [(0, iq (mn (mx a 0) 255))] [9, 10, 11] ?_
 refine cDn <| tNo <| cSq <| cRg 4 rfl <| bD [0, 0, 0, 0] 4 0 [(1, iq (mn (mx r 0) 255))] [12, 13, 14] ?_
 refine cDn <| tNo <| cSq <| cRg 4 rfl <| bD [0, 0, 0, 0] 4 0 [(2, iq (mn (mx g 0) 255))] [15, 16, 17] ?_
 refine cDn <| tNo <| cSq <| cRg 4 rfl <| bD [0, 0, 0, 0] 4 0 [(3, iq (mn (mx b 0) 255))] [18, 19, 20] ?_
 refine cDn <| tNo <| cSq <| cRg 12 rfl <| bD [0, 0] 2 10 [(22, iq (IntKind.i64.wrap ((mn (mx a 0) 255) * 16777216)))] [21] ?_
 refine cRc 22 (iq (IntKind.i64.wrap ((mn (mx a 0) 255) * 16777216))) (iq ((mn (mx a 0) 255) * 16777216)) rfl (wrapI (by omega) (by omega)) ?_
 refine bD [0, 0] 4 8 [(24, iq (IntKind.i64.wrap ((mn (mx r 0) 255) * 65536)))] [23] ?_
 refine cRc 24 (iq (IntKind.i64.wrap ((mn (mx r 0) 255) * 65536))) (iq ((mn (mx r 0) 255) * 65536)) rfl (wrapI (by omega) (by omega)) ?_
 refine bD [0] 5 7 [(25, iq (IntKind.i64.wrap (((mn (mx a 0) 255) * 16777216) + ((mn (mx r 0) 255) * 65536))))] [] ?_
 refine cRc 25 (iq (IntKind.i64.wrap (((mn (mx a 0) 255) * 16777216) + ((mn (mx r 0) 255) * 65536)))) (iq (((mn (mx a 0) 255) * 16777216) + ((mn (mx r 0) 255) * 65536))) rfl (wrapI (by omega) (by omega)) ?_
 refine bD [0, 0] 7 5 [(27, iq (IntKind.i64.wrap ((mn (mx g 0) 255) * 256)))] [26] ?_
 refine cRc 27 (iq (IntKind.i64.wrap ((mn (mx g 0) 255) * 256))) (iq ((mn (mx g 0) 255) * 256)) rfl (wrapI (by omega) (by omega)) ?_
 refine bD [0] 8 4 [(28, iq (IntKind.i64.wrap ((((mn (mx a 0) 255) * 16777216) + ((mn (mx r 0) 255) * 65536)) + ((mn (mx g 0) 255) * 256))))] [] ?_
 refine cRc 28 (iq (IntKind.i64.wrap ((((mn (mx a 0) 255) * 16777216) + ((mn (mx r 0) 255) * 65536)) + ((mn (mx g 0) 255) * 256)))) (iq ((((mn (mx a 0) 255) * 16777216) + ((mn (mx r 0) 255) * 65536)) + ((mn (mx g 0) 255) * 256))) rfl (wrapI (by omega) (by omega)) ?_
 refine bS [0, 0] 10 2 [(30, iq (IntKind.i64.wrap (((((mn (mx a 0) 255) * 16777216) + ((mn (mx r 0) 255) * 65536)) + ((mn (mx g 0) 255) * 256)) + (mn (mx b 0) 255))))] ?_
 refine cRc 30 (iq (IntKind.i64.wrap (((((mn (mx a 0) 255) * 16777216) + ((mn (mx r 0) 255) * 65536)) + ((mn (mx g 0) 255) * 256)) + (mn (mx b 0) 255)))) (iq (((((mn (mx a 0) 255) * 16777216) + ((mn (mx r 0) 255) * 65536)) + ((mn (mx g 0) 255) * 256)) + (mn (mx b 0) 255))) rfl (wrapI (by omega) (by omega)) ?_
 refine bS [0] 11 1 [(31, cQ (IntKind.u32.wrap (((((mn (mx a 0) 255) * 16777216) + ((mn (mx r 0) 255) * 65536)) + ((mn (mx g 0) 255) * 256)) + (mn (mx b 0) 255))))] ?_
 refine cRc 31 (cQ (IntKind.u32.wrap (((((mn (mx a 0) 255) * 16777216) + ((mn (mx r 0) 255) * 65536)) + ((mn (mx g 0) 255) * 256)) + (mn (mx b 0) 255)))) (cQ (((((mn (mx a 0) 255) * 16777216) + ((mn (mx r 0) 255) * 65536)) + ((mn (mx g 0) 255) * 256)) + (mn (mx b 0) 255))) rfl (wrapU32 (by omega) (by omega)) ?_
 refine bS [0] 12 0 [(8, cQ (((((mn (mx a 0) 255) * 16777216) + ((mn (mx r 0) 255) * 65536)) + ((mn (mx g 0) 255) * 256)) + (mn (mx b 0) 255)))] ?_
 refine cDn <| tNo <| cont_ret ?_
 refine ret_one (.inl rfl) rfl 0 (cQ (((((mn (mx a 0) 255) * 16777216) + ((mn (mx r 0) 255) * 65536)) + ((mn (mx g 0) 255) * 256)) + (mn (mx b 0) 255))) (by kernel_rfl) (by kernel_rfl) (fun w hT => ?_)
 exact ⟨ret_int (by simp only [mkC, clip, mx_eq, mn_eq]), hT.post rfl⟩
theorem refGood3 (c : Int) (w : World) (h0 : 0 ≤ c) (h1 : c < 4294967296) :
    Calls Tryz.prog 28 #[cQ c] w fun e w' => e = .returned (cQ (goodC c)) ∧ Below w.heap.size w w' := by
 refine enter 24 [(0, cQ c)] [] Tryz.func28 rfl Tryz.ntmps28 rfl (by kernel_rfl) (Tab.start w) ?_
 refine cSq <| cRg 1 rfl <| bD [0] 1 0 [] [2] ?_
 refine cDn <| tNo <| cSq <| cRg 4 rfl <| bS [0] 1 3 [(4, cQ c)] ?_
 refine pSt 2 2 rfl rfl <| call_pure (d := 5) (.agg #[iq (pa c), iq (pr c), iq (pg c), iq (pb c)]) (by kernel_rfl) (fun w hT => refParts c w (by omega) (by omega)) ?_
 refine batch1 [0, 0] 4 0 (fun b1 => [(3, .pointer (pB b1))]) (fun b1 => [.cells b1 [iq (pa c), iq (pr c), iq (pg c), iq (pb c)] 53 true]) rfl rfl [3] (fun _ => rfl) (fun b1 => by kernel_rfl) (fun b1 => by kernel_rfl) (fun b1 => ?_)
 refine cDn <| tNo <| cSq <| cRg 19 rfl <| bS [0, 0, 0, 0, 0, 0, 0, 0, 0, 0, 0, 0, 0, 0, 0, 0, 0] 17 2 [(7, iq (pa c)), (12, iq (mn (pr c) (pa c))), (17, iq (mn (pg c) (pa c))), (22, iq (mn (pb c) (pa c)))] ?_
 refine cFg 0 rfl <| pSt 18 1 rfl rfl <| call_pure (d := 23) (cQ (mkC (pa c) (mn (pr c) (pa c)) (mn (pg c) (pa c)) (mn (pb c) (pa c)))) (by kernel_rfl) (fun w hT => refMake (pa c) (mn (pr c) (pa c)) (mn (pg c) (pa c)) (mn (pb c) (pa c)) w) ?_
 refine bS [0] 19 0 [(2, cQ (mkC (pa c) (mn (pr c) (pa c)) (mn (pg c) (pa c)) (mn (pb c) (pa c))))] ?_
 refine cDn <| tNo <| cont_ret ?_
 refine ret_one (.inl rfl) rfl 0 (cQ (mkC (pa c) (mn (pr c) (pa c)) (mn (pg c) (pa c)) (mn (pb c) (pa c)))) (by kernel_rfl) (by kernel_rfl) (fun w hT => ?_)
 exact ⟨rfl, hT.post rfl⟩
theorem refNew4 (W H : Int) (w : World) (hwh : 1 ≤ W ∧ W ≤ 256 ∧ 1 ≤ H ∧ H ≤ 256) :
    Calls Tryz.prog 25 #[iQ W, iQ H] w fun e w' => ∃ r n : Nat, e = .returned (.agg #[iQ W, iQ H, sL r n n]) ∧ (n : Int) = W * H ∧ Tab w w' [oE r n n 52 1 (cV (List.replicate n 0))] := by
 have hm : W * H ≤ 256 * 256 := mul_le_of (by omega) (by omega) (by omega) (by omega)
 have hm0 : 0 ≤ W * H := Int.mul_nonneg (by omega) (by omega)
 obtain ⟨n, hn⟩ : ∃ n : Nat, (n : Int) = W * H := ⟨(W * H).toNat, by omega⟩
 refine enter 12 [(0, iq W), (1, iq H)] [] Tryz.func25 rfl Tryz.ntmps25 rfl (by kernel_rfl) (Tab.start w) ?_
 refine cSq <| cRg 1 rfl ?_
 refine batch1 [0] 1 0 (fun b1 => [(0, iq W), (1, iq H), (4, .pointer (pB b1))]) (fun b1 => [.cells b1 [iq 0, iq 0, .slice none 0 0] 59 true]) rfl rfl [0, 1, 4] (fun _ => rfl) (fun b1 => by kernel_rfl) (fun b1 => by kernel_rfl) (fun b1 => ?_)
 refine cDn <| tNo <| cSq <| cRg 8 rfl <| bD [0, 0, 0, 0, 0] 5 3 [(5, iq W), (6, iq H), (9, iq (IntKind.i64.wrap (W * H)))] [7, 8] ?_
 refine cRc 9 (iq (IntKind.i64.wrap (W * H))) (iq (n : Int)) rfl (by rw [hn]; exact wrapI (by omega) (by omega)) ?_
 refine pSt 6 2 rfl rfl ?_
 refine sSW 10 (Instr.makeSlice 50 (iq (n : Int)) (iq (n : Int))) (fun r2 => .slice (pB r2) n n) (fun r2 => [.gen (rowE (pB r2) r2 n n 52 1 (cV (List.replicate n 0)) true), .cells b1 [iq 0, iq 0, .slice none 0 0] 59 true]) (fun _ => True) (by kernel_rfl) (fun w hT => make_row hT (bytes := 4) n (by kernel_rfl) (by kernel_rfl) (by omega) (by omega)) (fun r2 _ => ?_)
 refine batch0 [0, 1] 8 0 [(4, .pointer (pB b1))] [.gen (rowE (pB r2) r2 n n 52 1 (cV (List.replicate n 0)) true), .cells b1 [iq W, iq H, .slice (pB r2) n n] 59 true] rfl rfl (by kernel_rfl) (by kernel_rfl) ?_
 refine cDn <| tNo <| cont_ret ?_
 refine ret_one (.inl rfl) rfl 1 (.agg #[iq W, iq H, .slice (pB r2) n n]) (by kernel_rfl) (by kernel_rfl) (fun w hT => ?_)
 replace hT := hT.erase 1 (fun e h hw => by cases h; first | rfl | cases hw)
 exact ⟨_, _, rfl, hn, hT⟩
theorem refGood4 (A1 : Option Addr) (g1 o1 n1 cap1 : Nat) (xs1 : List Int) (a b : Int) (w : World) (hT0 : Tab w w [rD (A1) g1 o1 n1 1 (cV xs1)]) (hh : GoodIn a b A1 g1 o1 n1 cap1 xs1) :
    Calls Tryz.prog 65 #[iQ a, iQ b, .slice A1 n1 cap1] w fun e w' => ∃ r n : Nat, e = .returned (.agg #[iQ (1 + aroundI a 16), iQ (1 + aroundI b 16), sL r n n]) ∧ (n : Int) = (1 + aroundI a 16) * (1 + aroundI b 16) ∧ Tab w w' [oE r n n 52 1 (cV (goodP n xs1 n))] := by
 obtain ⟨ha, hb, hl1, hc1, hm1, hx1, hat1⟩ := hh
 unfold maxLen at hm1
 have hr1a := hat1
 refine enter 39 [(0, iq a), (1, iq b), (2, .slice A1 n1 cap1)] [rD (A1) g1 o1 n1 1 (cV xs1)] Tryz.func65 rfl Tryz.ntmps65 rfl (by kernel_rfl) hT0 ?_
 refine cSq <| cRg 1 rfl ?_
 refine batch1 [0] 1 0 (fun b1 => [(0, iq a), (1, iq b), (2, .slice A1 n1 cap1), (6, .pointer (pB b1))]) (fun b1 => [.cells b1 [iq 0, iq 0, .slice none 0 0] 59 true, rD (A1) g1 o1 n1 1 (cV xs1)]) rfl rfl [0, 1, 2, 6] (fun _ => rfl) (fun b1 => by kernel_rfl) (fun b1 => by kernel_rfl) (fun b1 => ?_)
 refine cDn <| tNo <| cSq <| cRg 9 rfl <| bD [0] 1 8 [(9, iq a)] [] ?_
 refine pSt 2 7 rfl rfl <| call_pure (d := 10) (iq (aroundI a 16)) (by kernel_rfl) (fun w hT => refAround a 16 w (by omega) (by omega)) ?_
 have hq2_ := aroundI_range a (m := 16) (by omega)
 refine bD [0] 3 6 [(11, iq (IntKind.i64.wrap (1 + (aroundI a 16))))] [] ?_
 refine cRc 11 (iq (IntKind.i64.wrap (1 + (aroundI a 16)))) (iq (1 + (aroundI a 16))) rfl (wrapI (by omega) (by omega)) ?_
 refine bD [0] 4 5 [(12, iq b)] [] ?_
 refine pSt 5 4 rfl rfl <| call_pure (d := 13) (iq (aroundI b 16)) (by kernel_rfl) (fun w hT => refAround b 16 w (by omega) (by omega)) ?_
 have hq3_ := aroundI_range b (m := 16) (by omega)
 refine bD [0] 6 3 [(14, iq (IntKind.i64.wrap (1 + (aroundI b 16))))] [] ?_
 refine cRc 14 (iq (IntKind.i64.wrap (1 + (aroundI b 16)))) (iq (1 + (aroundI b 16))) rfl (wrapI (by omega) (by omega)) ?_
 refine pSt 7 2 rfl rfl <| call_gen (d := 15) (α := Nat × Nat) (fun x_ => .agg #[iq (1 + (aroundI a 16)), iq (1 + (aroundI b 16)), .slice (pB x_.1) x_.2 x_.2]) (fun x_ => [.gen (rowE (pB x_.1) x_.1 x_.2 x_.2 52 1 (cV (List.replicate x_.2 0)) true), .cells b1 [iq 0, iq 0, .slice none 0 0] 59 true, rD (A1) g1 o1 n1 1 (cV xs1)]) (fun x_ => (x_.2 : Int) = (1 + (aroundI a 16)) * (1 + (aroundI b 16))) (by kernel_rfl) (fun w hT => (refNew4 (1 + (aroundI a 16)) (1 + (aroundI b 16)) w (by omega)).mono fun e w' ⟨r4, n5, he_, hf_, ht_⟩ => ⟨(r4, n5), he_, hf_, hT.news ht_ rfl⟩) ?_
 rintro ⟨r4, n5⟩ hf6_
 replace hf6_ : (n5 : Int) = (1 + (aroundI a 16)) * (1 + (aroundI b 16)) := hf6_
 refine batch1 [0, 0] 9 0 (fun b7 => [(2, .slice A1 n1 cap1), (6, .pointer (pB b1)), (7, .pointer (pB b7))]) (fun b7 => [.cells b7 [iq (1 + (aroundI a 16)), iq (1 + (aroundI b 16)), .slice (pB r4) n5 n5] 59 true, .gen (rowE (pB r4) r4 n5 n5 52 1 (cV (List.replicate n5 0)) true), .cells b1 [iq 0, iq 0, .slice none 0 0] 59 true, rD (A1) g1 o1 n1 1 (cV xs1)]) rfl rfl [2, 6, 7] (fun _ => rfl) (fun b7 => by kernel_rfl) (fun b7 => by kernel_rfl) (fun b7 => ?_)
 refine cDn <| tNo <| cSq <| cSq <| cRg 1 rfl <| bD [0] 1 0 [(8, iq 0)] [] ?_
 refine cDn <| tNo <| cont_block <| cont_rowEq (k := .u32) 1 (List.replicate n5 0) (goodP n5 xs1 0) rfl ((goodP_zero _ _).symm) ?_
 refine cont_loop (α := Nat) (fun x_ : Nat => x_ ≤ n1 ∧ x_ ≤ n5) (fun x_ : Nat => [(2, .slice A1 n1 cap1), (6, .pointer (pB b1)), (7, .pointer (pB b7)), (8, iq (x_ : Int))]) (fun x_ : Nat => [.cells b7 [iq (1 + (aroundI a 16)), iq (1 + (aroundI b 16)), .slice (pB r4) n5 n5] 59 true, .gen (rowE (pB r4) r4 n5 n5 52 1 (cV (goodP n5 xs1 x_)) true), .cells b1 [iq 0, iq 0, .slice none 0 0] 59 true, rD (A1) g1 o1 n1 1 (cV xs1)]) (fun x_ : Nat => n1 - x_) 0 (⟨by omega, by omega⟩) (by kernel_rfl) (by kernel_rfl) ?_
 rintro i hinv8_
 replace hinv8_ : i ≤ n1 ∧ i ≤ n5 := hinv8_
 obtain ⟨hi1, hi2⟩ := hinv8_
 have hxi : i < n1 → 0 ≤ xs1.getD i 0 ∧ xs1.getD i 0 < 4294967296 := fun h => hx1 _ (by rw [List.getD_eq_getElem?_getD, List.getElem?_eq_getElem (by omega)]; simp)
 refine cSq <| cSq <| cRg 11 rfl <| bD [0, 0, 0, 0, 0] 5 6 [(20, .bool (decide ((i : Int) < (n1 : Int))))] [16, 17, 18, 19] ?_
 refine cSp 20 (decide ((i : Int) < (n1 : Int))) rfl (fun c9_ => ?_) (fun c9_ => ?_)
 ·
  replace c9_ := of_decide_eq_true c9_
  refine bD [0, 0, 0, 0, 0, 0] 11 0 [(21, iq (i : Int)), (22, .pointer (some ⟨b7, 2, none⟩)), (23, .slice (pB r4) n5 n5), (24, iq (n5 : Int)), (25, .bool (decide ((i : Int) < (n5 : Int)))), (26, .bool (decide ((i : Int) < (n5 : Int))))] [] ?_
  refine cDn <| tNo ?_
  refine cSp 26 (decide ((i : Int) < (n5 : Int))) rfl (fun c10_ => ?_) (fun c10_ => ?_)
  ·
   refine cRc 25 (.bool (decide ((i : Int) < (n5 : Int)))) (.bool true) rfl (congrArg Value.bool c10_) ?_
   replace c10_ := of_decide_eq_true c10_
   refine cTr rfl <| cont_skip <| tNo <| cSq <| cont_block <| drawn_enter 10 [1] rfl (by kernel_rfl) ?_
   refine tD 0 [1] [(0, 0), (2, 0), (3, 0), (4, 0), (1, 0)] 5 [1, 4, 3, 2, 0] [(30, .slice (pB r4) n5 n5), (31, iq (i : Int)), (32, .slice A1 n1 cap1), (33, iq (i : Int))] [29] ?_
   refine cRc 32 (.slice A1 n1 cap1) (.slice (some ⟨g1, o1, none⟩) n1 cap1) rfl (by rw [hat1 (by omega)]) ?_
   refine sT 0 [1] 5 4 34 (Instr.indexAt 50 (.slice (some ⟨g1, o1, none⟩) n1 cap1) (iq (i : Int))) (.pointer (some ⟨g1, o1 + i, none⟩)) (fun w hT => run_indexAt (e := 52) (sz := 1) _ (by kernel_rfl) (by kernel_rfl) (by omega) (by omega) (by omega) w) ?_
   refine sT 0 [1] 6 3 35 (Instr.loadAt 52 (.pointer (some ⟨g1, o1 + i, none⟩))) (cQ (xs1.getD i 0)) (fun w hT => run_load1 (by kernel_rfl) (Rd.cell (hT 3 _ rfl) (i) _ (ivals_get (by omega)))) ?_
   refine dOn 7 2 rfl (by kernel_rfl) ?_
   refine call_pure (d := 36) (cQ (goodC (xs1.getD i 0))) (by kernel_rfl) (fun w hT => refGood3 (xs1.getD i 0) w (by omega) (by omega)) ?_
   refine dNx 0 [1] (by kernel_rfl) ?_
   refine sT 0 [1] 8 1 37 (Instr.indexAt 50 (.slice (pB r4) n5 n5) (iq (i : Int))) (.pointer (some ⟨r4, i, none⟩)) (fun w hT => run_indexAt (e := 52) (sz := 1) _ (by kernel_rfl) (by kernel_rfl) (by omega) (by omega) (by omega) w) ?_
   refine dOn 9 0 rfl (by kernel_rfl) ?_
   refine sem_stepU (Instr.storeAt 52 (.pointer (some ⟨r4, i, none⟩)) (cQ (goodC (xs1.getD i 0)))) (fun _ => [.cells b7 [iq (1 + (aroundI a 16)), iq (1 + (aroundI b 16)), .slice (pB r4) n5 n5] 59 true, .gen (rowE (pB r4) r4 n5 n5 52 1 (cV ((goodP n5 xs1 i).set i (goodC (xs1.getD i 0)))) true), .cells b1 [iq 0, iq 0, .slice none 0 0] 59 true, rD (A1) g1 o1 n1 1 (cV xs1)]) (fun _ => True) (by kernel_rfl) (fun w hT => store_row hT (i := 1) rfl (by kernel_rfl) (by simp only [goodP_length]; omega)) (fun _ _ => ?_)
   refine dNx 0 [1] (by kernel_rfl) ?_
   refine drawn_done (by kernel_rfl) ?_
   refine blk_normal <| tNo <| cRg 3 rfl <| bD [0, 0] 2 1 [(28, iq (IntKind.i64.wrap ((i : Int) + 1)))] [27] ?_
   refine cRc 28 (iq (IntKind.i64.wrap ((i : Int) + 1))) (iq ((i : Int) + 1)) rfl (wrapI (by omega) (by omega)) ?_
   refine bD [0] 3 0 [(8, iq ((i : Int) + 1))] [] ?_
   refine cDn <| tNo <| cont_rowEq (k := .u32) 1 ((goodP n5 xs1 i).set i (goodC (xs1.getD i 0))) (goodP n5 xs1 (i + 1)) rfl (goodP_set (by omega)) ?_
   refine cont_again (i + 1) (show (i + 1) ≤ n1 ∧ (i + 1) ≤ n5 from ⟨by omega, by omega⟩) (show n1 - (i + 1) < n1 - i from by omega) (by kernel_rfl) (by kernel_rfl)
  refine cRc 25 (.bool (decide ((i : Int) < (n5 : Int)))) (.bool false) rfl (congrArg Value.bool c10_) ?_
  replace c10_ := of_decide_eq_false c10_
  refine cFa rfl <| cont_exit <| then_exit <| then_exit <| blk_exit <| tNo <| cSq <| cRg 2 rfl <| batch0 [0, 2] 2 0 [(6, .pointer (pB b1))] [.cells b7 [iq (1 + (aroundI a 16)), iq (1 + (aroundI b 16)), .slice (pB r4) n5 n5] 59 true, .gen (rowE (pB r4) r4 n5 n5 52 1 (cV (goodP n5 xs1 i)) true), .cells b1 [iq (1 + (aroundI a 16)), iq (1 + (aroundI b 16)), .slice (pB r4) n5 n5] 59 true, rD (A1) g1 o1 n1 1 (cV xs1)] rfl rfl (by kernel_rfl) (by kernel_rfl) ?_
  refine cFg 0 rfl <| cDn <| tNo <| cont_ret ?_
  refine ret_one (.inl rfl) rfl 1 (.agg #[iq (1 + (aroundI a 16)), iq (1 + (aroundI b 16)), .slice (pB r4) n5 n5]) (by kernel_rfl) (by kernel_rfl) (fun w hT => ?_)
  replace hT := hT.erase 2 (fun e h hw => by cases h; first | rfl | cases hw)
  replace hT := hT.erase 1 (fun e h hw => by cases h; first | rfl | cases hw)
  rw [goodP_end (by omega)] at hT
  exact ⟨_, _, rfl, ‹_›, hT⟩
 replace c9_ := of_decide_eq_false c9_
 refine bD [0, 0, 0, 0, 0, 0] 11 0 [(21, undef), (22, undef), (23, undef), (24, undef), (25, undef), (26, .bool false)] [] ?_
 refine cDn <| tNo <| cFa rfl <| cont_exit <| then_exit <| then_exit <| blk_exit <| tNo <| cSq <| cRg 2 rfl <| batch0 [0, 2] 2 0 [(6, .pointer (pB b1))] [.cells b7 [iq (1 + (aroundI a 16)), iq (1 + (aroundI b 16)), .slice (pB r4) n5 n5] 59 true, .gen (rowE (pB r4) r4 n5 n5 52 1 (cV (goodP n5 xs1 i)) true), .cells b1 [iq (1 + (aroundI a 16)), iq (1 + (aroundI b 16)), .slice (pB r4) n5 n5] 59 true, rD (A1) g1 o1 n1 1 (cV xs1)] rfl rfl (by kernel_rfl) (by kernel_rfl) ?_
 refine cFg 0 rfl <| cDn <| tNo <| cont_ret ?_
 refine ret_one (.inl rfl) rfl 1 (.agg #[iq (1 + (aroundI a 16)), iq (1 + (aroundI b 16)), .slice (pB r4) n5 n5]) (by kernel_rfl) (by kernel_rfl) (fun w hT => ?_)
 replace hT := hT.erase 2 (fun e h hw => by cases h; first | rfl | cases hw)
 replace hT := hT.erase 1 (fun e h hw => by cases h; first | rfl | cases hw)
 rw [goodP_end (by omega)] at hT
 exact ⟨_, _, rfl, ‹_›, hT⟩
theorem refBox (W H : Int) (s : Value) (w : World) :
    Calls Tryz.prog 104 #[.agg #[iQ W, iQ H, s]] w fun e w' => e = .returned (.agg #[iQ 0, iQ 0, iQ W, iQ H]) ∧ Below w.heap.size w w' := by
 refine enter 8 [(0, .agg #[iq W, iq H, s])] [] Tryz.func104 rfl Tryz.ntmps104 rfl (by kernel_rfl) (Tab.start w) ?_
 refine cSq <| cRg 2 rfl ?_
 refine batch2 [0, 0] 2 0 (fun b1 b2 => [(1, .pointer (pB b1)), (2, .pointer (pB b2))]) (fun b1 b2 => [.cells b2 [iq 0, iq 0, iq 0, iq 0] 32 true, .cells b1 [iq W, iq H, s] 59 true]) rfl rfl [1, 2] (fun _ _ => rfl) (fun b1 b2 => by kernel_rfl) (fun b1 b2 => by kernel_rfl) (fun b1 b2 => ?_)
 refine cDn <| tNo <| cSq <| cRg 6 rfl <| batch0 [0, 1, 0, 1, 0, 0] 6 0 [(2, .pointer (pB b2))] [.cells b2 [iq 0, iq 0, iq W, iq H] 32 true, .cells b1 [iq W, iq H, s] 59 true] rfl rfl (by kernel_rfl) (by kernel_rfl) ?_
 refine cFg 1 rfl <| cDn <| tNo <| cont_ret ?_
 refine ret_one (.inl rfl) rfl 0 (.agg #[iq 0, iq 0, iq W, iq H]) (by kernel_rfl) (by kernel_rfl) (fun w hT => ?_)
 exact ⟨rfl, hT.post rfl⟩
theorem imgSet (m : Nat) (W H : Int) (r n cap : Nat) (px : List Int) (x y c : Int) (w : World) (hI : Img 116 52 w m W H r n cap px) (hok : ImgOk W H n px) (hc : InC c) :
    Calls Tryz.prog 29 #[pT m, iQ x, iQ y, cQ c] w fun e w' => e = .returned (iQ (setE W H x y c)) ∧ KeepBut w w' r ∧ Row w' (some ⟨r, 0, none⟩) r n cap 52 1 (cV (setL W H px x y c)) := by
 have hw1 := hok.w1
 have hw2 := hok.w2
 have hh1 := hok.h1
 have hh2 := hok.h2
 have hnum := hok.num
 have hlen := hok.len
 have hle := hok.le
 have hcap := hI.row.capLe
 obtain ⟨hc0, hc1⟩ := hc
 refine enter 34 [(0, .pointer (pB m)), (1, iq x), (2, iq y), (3, cQ c)] [.ro m [iq W, iq H, .slice (pB r) n cap] 116, .gen (rowE (pB r) r n cap 52 1 (cV px) false)] Tryz.func29 rfl Tryz.ntmps29 rfl (by kernel_rfl) hI.tabRw ?_
 refine cSq <| cRg 1 rfl <| bD [0] 1 0 [] [8] ?_
 refine cDn <| tNo <| cSq <| cont_block <| cSq <| cRg 7 rfl <| bD [0] 1 6 [(10, .pointer (pB m))] [] ?_
 refine pSt 2 5 rfl rfl <| call_pure (d := 11) (.agg #[iq 0, iq 0, iq W, iq H]) (by kernel_rfl) (fun w hT => imgBox m W H r n cap px  w ⟨hT.ok 0 _ rfl, Row.rd (hT.ok 1 _ rfl), Row.capLe (hT.ok 1 _ rfl)⟩ hok) ?_
 refine bD [0, 0] 4 3 [(12, iq x), (13, iq y)] [] ?_
 refine pSt 5 2 rfl rfl <| call_pure (d := 14) (.bool (hasB 0 0 W H x y)) (by kernel_rfl) (fun w hT => rectHas 0 0 W H x y w) ?_
 refine bD [0, 0] 7 0 [(9, .bool (!(hasB 0 0 W H x y)))] [15] ?_
 refine cDn <| tNo ?_
 refine cSp 9 (!(hasB 0 0 W H x y)) rfl (fun c1_ => ?_) (fun c1_ => ?_)
 ·
  replace c1_ : (hasB 0 0 W H x y) = false := by simpa using c1_
  refine cTr rfl <| cSq <| cRg 1 rfl <| bS [0] 1 0 [(8, iq 4)] ?_
  refine cDn <| tNo <| cont_ret <| blk_ret <| then_ret ?_
  refine ret_one (.inl rfl) rfl 0 (iq 4) (by kernel_rfl) (by kernel_rfl) (fun w hT => ?_)
  refine ⟨ret_int (by simp [setE, *]), hT.keep 1 rfl rfl, ?_⟩
  have hR := hT.ok 1 _ rfl
  rw [show setL W H px x y c = px from by simp [setL, *]]
  exact hR
 replace c1_ : (hasB 0 0 W H x y) = true := by simpa using c1_
 obtain ⟨hx0, hx1, hy0, hy1⟩ := hasB_true.1 c1_
 have hpl := hok.place hx0 hx1 hy0 hy1
 refine cFa rfl <| cSq <| cRg 4 rfl <| bD [0] 1 3 [(17, cQ c)] [] ?_
 refine pSt 2 2 rfl rfl <| call_pure (d := 18) (.bool (mayB c)) (by kernel_rfl) (fun w hT => colorMay c w (by omega) (by omega)) ?_
 refine bD [0, 0] 4 0 [(16, .bool (!(mayB c)))] [19] ?_
 refine cDn <| tNo ?_
 refine cSp 16 (!(mayB c)) rfl (fun c2_ => ?_) (fun c2_ => ?_)
 ·
  replace c2_ : (mayB c) = false := by simpa using c2_
  refine cTr rfl <| cSq <| cRg 1 rfl <| bS [0] 1 0 [(8, iq 1)] ?_
  refine cDn <| tNo <| cont_ret <| blk_ret <| then_ret ?_
  refine ret_one (.inl rfl) rfl 0 (iq 1) (by kernel_rfl) (by kernel_rfl) (fun w hT => ?_)
  refine ⟨ret_int (by simp [setE, *]), hT.keep 1 rfl rfl, ?_⟩
  have hR := hT.ok 1 _ rfl
  rw [show setL W H px x y c = px from by simp [setL, *]]
  exact hR
 replace c2_ : (mayB c) = true := by simpa using c2_
 refine cFa rfl <| cont_skip <| blk_normal <| tNo <| cSq <| drawn_enter 15 [1] rfl (by kernel_rfl) ?_
 refine tD 0 [1] [(0, 0), (4, 0), (5, 0), (10, 0), (12, 0), (1, 0), (6, 0), (2, 0), (7, 0), (3, 0), (8, 0), (9, 0)] 3 [9, 8, 3, 7, 2, 6, 1, 12, 10, 5, 4, 0] [(23, .slice (pB r) n cap), (29, iq (IntKind.i64.wrap (y * W))), (30, iq x), (32, cQ c)] [20, 21, 22, 24, 25, 26, 27, 28] ?_
 refine cRc 29 (iq (IntKind.i64.wrap (y * W))) (iq (y * W)) rfl (wrapI (by omega) (by omega)) ?_
 refine tD 0 [1] [(11, 0)] 2 [11, 9, 8, 3, 7, 2, 6, 1, 12, 10, 5, 4, 0] [(31, iq (IntKind.i64.wrap ((y * W) + x)))] [] ?_
 refine cRc 31 (iq (IntKind.i64.wrap ((y * W) + x))) (iq ((y * W) + x)) rfl (wrapI (by omega) (by omega)) ?_
 refine sT 0 [1] 13 1 33 (Instr.indexAt 50 (.slice (pB r) n cap) (iq ((y * W) + x))) (.pointer (some ⟨r, Int.toNat ((y * W) + x), none⟩)) (fun w hT => run_indexAt (e := 52) (sz := 1) _ (by kernel_rfl) (by kernel_rfl) (by omega) (by omega) (by omega) w) ?_
 refine dOn 14 0 rfl (by kernel_rfl) ?_
 refine sem_stepU (Instr.storeAt 52 (.pointer (some ⟨r, Int.toNat ((y * W) + x), none⟩)) (cQ c)) (fun _ => [.ro m [iq W, iq H, .slice (pB r) n cap] 116, .gen (rowE (pB r) r n cap 52 1 (cV (px.set (Int.toNat ((y * W) + x)) c)) false)]) (fun _ => True) (by kernel_rfl) (fun w hT => store_row hT (i := 1) rfl (by kernel_rfl) (by omega)) (fun _ _ => ?_)
 refine dNx 0 [1] (by kernel_rfl) ?_
 refine drawn_done (by kernel_rfl) ?_
 refine tNo <| cSq <| cRg 1 rfl <| bS [0] 1 0 [(8, iq 0)] ?_
 refine cDn <| tNo <| cont_ret ?_
 refine ret_one (.inl rfl) rfl 0 (iq 0) (by kernel_rfl) (by kernel_rfl) (fun w hT => ?_)
 refine ⟨ret_int (by simp [setE, *]), hT.keep 1 rfl rfl, ?_⟩
 have hR := hT.ok 1 _ rfl
 rw [show setL W H px x y c = px.set (Int.toNat ((y * W) + x)) c from by simp [setL, *]]
 exact hR
theorem bld (W H : Int) (r n cap : Nat) (px : List Int) (w : World) (hT0 : Tab w w [rD (some ⟨r, 0, none⟩) r 0 n 1 (cV px)]) (hok : ImgOk W H n px) (hmay : AllMay px) :
    Calls Tryz.prog 24 #[.agg #[iQ W, iQ H, sL r n cap]] w fun e w' => ∃ b q : Nat, e = .returned (pT b) ∧ NewImg 116 52 w w' b W H q n n px := by
 have hw1 := hok.w1
 have hw2 := hok.w2
 have hh1 := hok.h1
 have hh2 := hok.h2
 have hnum := hok.num
 have hlen := hok.len
 have hle := hok.le
 refine enter 43 [(0, .agg #[iq W, iq H, .slice (pB r) n cap])] [rD (pB r) r 0 n 1 (cV px)] Tryz.func24 rfl Tryz.ntmps24 rfl (by kernel_rfl) hT0 ?_
 refine cSq <| cRg 2 rfl ?_
 refine batch1 [0, 0] 2 0 (fun b1 => [(1, .pointer (pB b1))]) (fun b1 => [.cells b1 [iq W, iq H, .slice (pB r) n cap] 59 true, rD (pB r) r 0 n 1 (cV px)]) rfl rfl [1] (fun _ => rfl) (fun b1 => by kernel_rfl) (fun b1 => by kernel_rfl) (fun b1 => ?_)
 refine cDn <| tNo <| cSq <| cRg 10 rfl <| bD [0, 0, 0, 0] 4 6 [(8, iq W), (10, iq H)] [7, 9] ?_
 refine pSt 5 5 rfl rfl <| call_gen (d := 11) (α := Nat × Nat × Nat) (fun x_ => .tuple #[.pointer (pB x_.1), iq 0]) (fun x_ => [.cells x_.1 [iq W, iq H, .slice (pB x_.2.1) x_.2.2 x_.2.2] 116 true, .gen (rowE (pB x_.2.1) x_.2.1 x_.2.2 x_.2.2 52 1 (cV (List.replicate x_.2.2 0)) true), .cells b1 [iq W, iq H, .slice (pB r) n cap] 59 true, rD (pB r) r 0 n 1 (cV px)]) (fun x_ => (x_.2.2 : Int) = W * H) (by kernel_rfl) (fun w hT => (imgNew W H w ⟨hw1, hw2, hh1, hh2⟩).mono fun e w' ⟨b_, r_, n_, he_, hn_, hi_⟩ => ⟨(b_, r_, n_), he_, hn_, hT.addImg hi_⟩) ?_
 rintro ⟨b2, r2, n2⟩ hn2
 replace hn2 : (n2 : Int) = W * H := hn2
 have hnn : n2 = n := by have := hok.num; omega
 refine bD [0, 0, 0, 0, 0] 10 0 [(3, .pointer (pB b2)), (4, iq 0)] [6, 12, 13] ?_
 refine cDn <| tNo <| cSq <| cSq <| cRg 6 rfl <| bD [0, 0, 0, 0, 0, 0] 6 0 [(19, .bool false)] [14, 15, 16, 17, 18] ?_
 refine cDn <| tNo <| cFa rfl <| cont_skip <| tNo <| cSq <| cSq <| cRg 1 rfl <| bD [0] 1 0 [(5, iq 0)] [] ?_
 refine cDn <| tNo <| cont_block <| cont_rowEq (k := .u32) 1 (List.replicate n2 0) (bldP px 0) rfl (by rw [bldP_zero, hlen, hnn]) ?_
 refine cont_loop (α := Nat) (fun x_ : Nat => x_ ≤ n2) (fun x_ : Nat => [(1, .pointer (pB b1)), (3, .pointer (pB b2)), (5, iq (x_ : Int))]) (fun x_ : Nat => [.cells b2 [iq W, iq H, .slice (pB r2) n2 n2] 116 true, .gen (rowE (pB r2) r2 n2 n2 52 1 (cV (bldP px x_)) true), .cells b1 [iq W, iq H, .slice (pB r) n cap] 59 true, rD (pB r) r 0 n 1 (cV px)]) (fun x_ : Nat => n2 - x_) 0 (by omega) (by kernel_rfl) (by kernel_rfl) ?_
 rintro i hinv3_
 replace hinv3_ : i ≤ n2 := hinv3_
 have hi := hinv3_
 have hem := emod_range i hw1
 refine cSq <| cSq <| cRg 5 rfl <| bD [0, 0, 2, 0, 0] 5 0 [(24, .bool (decide ((i : Int) < (n : Int))))] [20, 21, 22, 23] ?_
 refine cDn <| tNo ?_
 refine cSp 24 (decide ((i : Int) < (n : Int))) rfl (fun c4_ => ?_) (fun c4_ => ?_)
 ·
  replace c4_ := of_decide_eq_true c4_
  refine cTr rfl <| cont_skip <| tNo <| cSq <| cont_block <| drawn_enter 15 [1] rfl (by kernel_rfl) ?_
  refine tD 0 [1] [(0, 0), (1, 0), (2, 0), (5, 0), (6, 0), (9, 0), (11, 0), (3, 2), (7, 2), (10, 2)] 5 [10, 7, 3, 11, 9, 6, 5, 2, 1, 0] [(27, .pointer (pB b2)), (28, iq (i : Int)), (30, iq W), (32, iq (i : Int)), (34, iq W), (37, .slice (pB r) n cap), (38, iq (i : Int))] [29, 33, 36] ?_
  refine sT 0 [1] 4 4 31 (bopS .rem 3 (.tmp 28) (.tmp 30) (iq (i : Int)) (iq W)) (iq ((i : Int).tmod W)) (fun w hT => run_rem (by omega) w) ?_
  refine cRc 31 (iq ((i : Int).tmod W)) (iq ((i : Int) % W)) rfl (tmodI (by omega)) ?_
  refine sT 0 [1] 8 3 35 (bopS .quo 3 (.tmp 32) (.tmp 34) (iq (i : Int)) (iq W)) (iq (IntKind.i64.wrap ((i : Int).tdiv W))) (fun w hT => run_quo (by omega) w) ?_
  refine cRc 35 (iq (IntKind.i64.wrap ((i : Int).tdiv W))) (iq ((i : Int) / W)) rfl (tdivI (by omega) (by omega) (by omega)) ?_
  refine sT 0 [1] 12 2 39 (Instr.indexAt 50 (.slice (pB r) n cap) (iq (i : Int))) (.pointer (some ⟨r, i, none⟩)) (fun w hT => run_indexAt (e := 52) (sz := 1) _ (by kernel_rfl) (by kernel_rfl) (by omega) (by omega) (by omega) w) ?_
  refine sT 0 [1] 13 1 40 (Instr.loadAt 52 (.pointer (some ⟨r, i, none⟩))) (cQ (px.getD i 0)) (fun w hT => run_load1 (by kernel_rfl) (Rd.cell0 (hT 3 _ rfl) (i) _ (ivals_get (by omega)))) ?_
  refine dOn 14 0 rfl (by kernel_rfl) ?_
  refine call_gen (d := 41) (α := Unit) (fun _ => iq (setE W H ((i : Int) % W) ((i : Int) / W) (px.getD i 0))) (fun _ => [.cells b2 [iq W, iq H, .slice (pB r2) n2 n2] 116 true, .gen (rowE (pB r2) r2 n2 n2 52 1 (cV (setL W H (bldP px i) ((i : Int) % W) ((i : Int) / W) (px.getD i 0))) true), .cells b1 [iq W, iq H, .slice (pB r) n cap] 59 true, rD (pB r) r 0 n 1 (cV px)]) (fun _ => True) (by kernel_rfl) (fun w hT => (imgSet b2 W H r2 n2 n2 (bldP px i) ((i : Int) % W) ((i : Int) / W) (px.getD i 0) w ⟨hT.ok 0 _ rfl, hT.ok 1 _ rfl, fun hne => hT.disj 0 1 _ _ (by omega) rfl rfl (.inr rfl) _ rfl ⟨hne, by simp⟩⟩ (imgOk_of ⟨hw1, hw2, hh1, hh2⟩ hn2 (by rw [bldP_length, hnn]; exact hlen) (bldP_may hmay i)) (hmay.get (by omega)).2).mono fun e w' ⟨he_, hk_, hr_⟩ => ⟨(), he_, trivial, hT.keepBut hk_ (i := 1) rfl hr_⟩) (fun _ _ => ?_)
  refine dNx 0 [1] (by kernel_rfl) ?_
  refine drawn_done (by kernel_rfl) ?_
  refine blk_normal <| tNo <| cRg 3 rfl <| bD [0, 0] 2 1 [(26, iq (IntKind.i64.wrap ((i : Int) + 1)))] [25] ?_
  refine cRc 26 (iq (IntKind.i64.wrap ((i : Int) + 1))) (iq ((i : Int) + 1)) rfl (wrapI (by omega) (by omega)) ?_
  refine bD [0] 3 0 [(5, iq ((i : Int) + 1))] [] ?_
  refine cDn <| tNo <| cont_rowEq (k := .u32) 1 (setL W H (bldP px i) ((i : Int) % W) ((i : Int) / W) (px.getD i 0)) (bldP px (i + 1)) rfl ((setL_at hok.w1 hok.num (by omega) (hmay.get (by omega)).1).trans (bldP_set (by omega))) ?_
  refine cont_again (i + 1) (show (i + 1) ≤ n2 from (by omega)) (show n2 - (i + 1) < n2 - i from by omega) (by kernel_rfl) (by kernel_rfl)
 replace c4_ := of_decide_eq_false c4_
 refine cFa rfl <| cont_exit <| then_exit <| then_exit <| blk_exit <| tNo <| cSq <| cRg 2 rfl <| bS [0, 0] 2 0 [(2, .pointer (pB b2))] ?_
 refine cFg 2 rfl <| cDn <| tNo <| cont_ret ?_
 refine ret_one (.inl rfl) rfl 0 (.pointer (pB b2)) (by kernel_rfl) (by kernel_rfl) (fun w hT => ?_)
 replace hT := hT.erase 2 (fun e h hw => by cases h; first | rfl | cases hw)
 rw [bldP_all (by omega)] at hT
 rw [← hnn]
 exact ⟨_, _, rfl, newImg_of_tab hT⟩
theorem refHas (a b c d x y : Int) (w : World) :
    Calls Tryz.prog 55 #[.agg #[iQ a, iQ b, iQ c, iQ d], iQ x, iQ y] w fun e w' => e = .returned (.bool (hasB a b c d x y)) ∧ Below w.heap.size w w' := by
 refine enter 29 [(0, .agg #[iq a, iq b, iq c, iq d]), (1, iq x), (2, iq y)] [] Tryz.func55 rfl Tryz.ntmps55 rfl (by kernel_rfl) (Tab.start w) ?_
 refine cSq <| cRg 2 rfl ?_
 refine batch1 [0, 0] 2 0 (fun b1 => [(1, iq x), (2, iq y), (3, .pointer (pB b1))]) (fun b1 => [.cells b1 [iq a, iq b, iq c, iq d] 32 true]) rfl rfl [1, 2, 3] (fun _ => rfl) (fun b1 => by kernel_rfl) (fun b1 => by kernel_rfl) (fun b1 => ?_)
 refine cDn <| tNo <| cSq <| cRg 23 rfl <| bD [0, 0, 0, 0, 0] 5 18 [(11, .bool (decide (a ≤ x)))] [7, 8, 9, 10] ?_
 refine cSp 11 (decide (a ≤ x)) rfl (fun c2_ => ?_) (fun c2_ => ?_)
 ·
  replace c2_ := of_decide_eq_true c2_
  refine bD [0, 0, 0, 0, 0, 0] 11 12 [(17, .bool (decide (x < c)))] [12, 13, 14, 15, 16] ?_
  refine cSp 17 (decide (x < c)) rfl (fun c3_ => ?_) (fun c3_ => ?_)
  ·
   replace c3_ := of_decide_eq_true c3_
   refine bD [0, 0, 0, 0, 0, 0] 17 6 [(23, .bool (decide (b ≤ y)))] [18, 19, 20, 21, 22] ?_
   refine cSp 23 (decide (b ≤ y)) rfl (fun c4_ => ?_) (fun c4_ => ?_)
   ·
    replace c4_ := of_decide_eq_true c4_
    refine bS [0, 0, 0, 0, 0, 0] 23 0 [(6, .bool (decide (y < d)))] ?_
    refine cFg 0 rfl <| cDn <| tNo <| cont_ret ?_
    refine ret_one (.inl rfl) rfl 0 (.bool (decide (y < d))) (by kernel_rfl) (by kernel_rfl) (fun w hT => ?_)
    exact ⟨ret_bool (by simp [hasB, *] <;> omega), hT.post rfl⟩
   replace c4_ := of_decide_eq_false c4_
   refine bS [0, 0, 0, 0, 0, 0] 23 0 [(6, .bool false)] ?_
   refine cFg 0 rfl <| cDn <| tNo <| cont_ret ?_
   refine ret_one (.inl rfl) rfl 0 (.bool false) (by kernel_rfl) (by kernel_rfl) (fun w hT => ?_)
   exact ⟨ret_bool (by simp [hasB, *] <;> omega), hT.post rfl⟩
  replace c3_ := of_decide_eq_false c3_
  refine bS [0, 0, 0, 0, 0, 0, 0, 0, 0, 0, 0, 0] 23 0 [(6, .bool false)] ?_
  refine cFg 0 rfl <| cDn <| tNo <| cont_ret ?_
  refine ret_one (.inl rfl) rfl 0 (.bool false) (by kernel_rfl) (by kernel_rfl) (fun w hT => ?_)
  exact ⟨ret_bool (by simp [hasB, *] <;> omega), hT.post rfl⟩
 replace c2_ := of_decide_eq_false c2_
 refine bS [0, 0, 0, 0, 0, 0, 0, 0, 0, 0, 0, 0, 0, 0, 0, 0, 0, 0] 23 0 [(6, .bool false)] ?_
 refine cFg 0 rfl <| cDn <| tNo <| cont_ret ?_
 refine ret_one (.inl rfl) rfl 0 (.bool false) (by kernel_rfl) (by kernel_rfl) (fun w hT => ?_)
 exact ⟨ret_bool (by simp [hasB, *] <;> omega), hT.post rfl⟩
end Go.Proofs.YtlfahohbkgdabaaGreat
namespace Go.Proofs.YtlfahohbkgdabaaGreat
open Go Go.RowKit
def mayR (a b c d : Int) : Bool := decide ((-1048576 ≤ a ∧ a ≤ 1048576) ∧ (-1048576 ≤ b ∧ b ≤ 1048576) ∧ (-1048576 ≤ c ∧ c ≤ 1048576) ∧ (-1048576 ≤ d ∧ d ≤ 1048576) ∧ a ≤ c ∧ b ≤ d)
theorem mayR_true {a b c d : Int} : mayR a b c d = true ↔ (-1048576 ≤ a ∧ a ≤ 1048576) ∧ (-1048576 ≤ b ∧ b ≤ 1048576) ∧ (-1048576 ≤ c ∧ c ≤ 1048576) ∧ (-1048576 ≤ d ∧ d ≤ 1048576) ∧ a ≤ c ∧ b ≤ d := by unfold mayR; rw [decide_eq_true_eq]
def chkR (a b c d : Int) : Rect := if mayR a b c d then ⟨a, b, c, d⟩ else ⟨0, 0, 0, 0⟩
def chkE (a b c d : Int) : Int := if mayR a b c d then 0 else 4
def sclR (a b c d s : Int) : Rect := if s < 1 ∨ s > 8 ∨ mayR a b c d = false then ⟨0, 0, 0, 0⟩ else chkR (a * s) (b * s) (c * s) (d * s)
def sclE (a b c d s : Int) : Int := if s < 1 ∨ s > 8 then 1 else if mayR a b c d = false then 4 else chkE (a * s) (b * s) (c * s) (d * s)
def farM (n : Int) : Int := mn (mx n (-4194304)) 4194304
theorem farM_range (n : Int) : -4194304 ≤ farM n ∧ farM n ≤ 4194304 := by unfold farM mn mx; omega
theorem farM_id {n : Int} (h : -4194304 ≤ n ∧ n ≤ 4194304) : farM n = n := by unfold farM mn mx; omega
def movR (a b c d x y : Int) : Rect := chkR (a + farM x) (b + farM y) (c + farM x) (d + farM y)
def movE (a b c d x y : Int) : Int := chkE (a + farM x) (b + farM y) (c + farM x) (d + farM y)
def shwR (W H X Y s a b c d : Int) : Rect :=
  let r := cutR a b c d 0 0 W H
  if emptyB r.x0 r.y0 r.x1 r.y1 then ⟨0, 0, 0, 0⟩ else if sclE r.x0 r.y0 r.x1 r.y1 s ≠ 0 then ⟨0, 0, 0, 0⟩ else
    movR (sclR r.x0 r.y0 r.x1 r.y1 s).x0 (sclR r.x0 r.y0 r.x1 r.y1 s).y0 (sclR r.x0 r.y0 r.x1 r.y1 s).x1 (sclR r.x0 r.y0 r.x1 r.y1 s).y1 X Y
def shwB (W H X Y s a b c d : Int) : Bool :=
  let r := cutR a b c d 0 0 W H
  if emptyB r.x0 r.y0 r.x1 r.y1 then true else if sclE r.x0 r.y0 r.x1 r.y1 s ≠ 0 then false else
    movE (sclR r.x0 r.y0 r.x1 r.y1 s).x0 (sclR r.x0 r.y0 r.x1 r.y1 s).y0 (sclR r.x0 r.y0 r.x1 r.y1 s).x1 (sclR r.x0 r.y0 r.x1 r.y1 s).y1 X Y == 0
theorem sclR_range (a b c d s : Int) : (-1048576 ≤ (sclR a b c d s).x0 ∧ (sclR a b c d s).x0 ≤ 1048576) ∧ (-1048576 ≤ (sclR a b c d s).y0 ∧ (sclR a b c d s).y0 ≤ 1048576) ∧ (-1048576 ≤ (sclR a b c d s).x1 ∧ (sclR a b c d s).x1 ≤ 1048576) ∧ (-1048576 ≤ (sclR a b c d s).y1 ∧ (sclR a b c d s).y1 ≤ 1048576) := by
  unfold sclR chkR
  split
  · decide
  · split
    · rename_i h
      have := mayR_true.1 h
      simp only
      omega
    · decide
def gl (xs : List Int) (i : Nat) : List Int := (xs.take i).map goodC
theorem mul_scale {x s : Int} {m : Int} (h0 : 0 ≤ x) (h1 : x ≤ m) (hs : 1 ≤ s ∧ s ≤ 8) : 0 ≤ x * s ∧ x * s ≤ m * 8 ∧ x ≤ x * s :=
  ⟨Int.mul_nonneg h0 (by omega), Int.mul_le_mul h1 (by omega) (by omega) (by omega), by have := Int.mul_le_mul_of_nonneg_left (show 1 ≤ s by omega) h0; omega⟩
theorem shw_of {W H X Y s a b c d : Int} (hs : 1 ≤ s ∧ s ≤ 8) (hX : -1048576 ≤ X ∧ X ≤ 1048576) (hY : -1048576 ≤ Y ∧ Y ≤ 1048576) (hw : 1 ≤ W ∧ W ≤ 256) (hh : 1 ≤ H ∧ H ≤ 256) {r : Rect} (hr : r = cutR a b c d 0 0 W H) (hne : emptyB r.x0 r.y0 r.x1 r.y1 = false) :
    shwR W H X Y s a b c d = chkR (X + r.x0 * s) (Y + r.y0 * s) (X + r.x1 * s) (Y + r.y1 * s) ∧ shwB W H X Y s a b c d = mayR (X + r.x0 * s) (Y + r.y0 * s) (X + r.x1 * s) (Y + r.y1 * s) := by
  obtain ⟨h1, h2, h3, h4, h5, h6⟩ := cut_in a b c d (W := W) (H := H) hw.1 hh.1
  unfold shwR shwB
  dsimp only
  rw [← hr] at h1 h2 h3 h4 h5 h6 ⊢
  have hem := emptyB_false.1 hne
  have m0 := mul_scale (m := 256) h1 (by omega) hs
  have m1 := mul_scale (m := 256) (show 0 ≤ r.x1 by omega) (by omega) hs
  have m2 := mul_scale (m := 256) h4 (by omega) hs
  have m3 := mul_scale (m := 256) (show 0 ≤ r.y1 by omega) (by omega) hs
  have l1 := Int.mul_le_mul_of_nonneg_right (show r.x0 ≤ r.x1 by omega) (show 0 ≤ s by omega)
  have l2 := Int.mul_le_mul_of_nonneg_right (show r.y0 ≤ r.y1 by omega) (show 0 ≤ s by omega)
  have hm1 : mayR r.x0 r.y0 r.x1 r.y1 = true := mayR_true.2 (by omega)
  have hm2 : mayR (r.x0 * s) (r.y0 * s) (r.x1 * s) (r.y1 * s) = true := mayR_true.2 (by omega)
  have hE : sclE r.x0 r.y0 r.x1 r.y1 s = 0 := by unfold sclE chkE; rw [if_neg (by omega), hm1, if_neg (by simp), hm2]; rfl
  have hR : sclR r.x0 r.y0 r.x1 r.y1 s = ⟨r.x0 * s, r.y0 * s, r.x1 * s, r.y1 * s⟩ := by unfold sclR chkR; rw [if_neg (by rw [hm1]; simp; omega), hm2]; rfl
  simp only [hne, hE, hR, movR, movE, farM_id (show -4194304 ≤ X ∧ X ≤ 4194304 by omega), farM_id (show -4194304 ≤ Y ∧ Y ≤ 4194304 by omega)]
  rw [Int.add_comm (r.x0 * s) X, Int.add_comm (r.y0 * s) Y, Int.add_comm (r.x1 * s) X, Int.add_comm (r.y1 * s) Y]
  refine ⟨by simp, ?_⟩
  simp only [chkE, Bool.false_eq_true, if_false, ne_eq, not_true_eq_false]
  cases mayR (X + r.x0 * s) (Y + r.y0 * s) (X + r.x1 * s) (Y + r.y1 * s) <;> rfl
def rboxR (W H X Y s a b c d : Int) : Rect :=
  let r := cutR a b c d 0 0 W H
  if emptyB r.x0 r.y0 r.x1 r.y1 then ⟨0, 0, 0, 0⟩ else ⟨X + r.x0 * s, Y + r.y0 * s, X + r.x1 * s, Y + r.y1 * s⟩
theorem box_same {W H X Y s a b c d : Int} (hs : 1 ≤ s ∧ s ≤ 8) (hX : -1000000 ≤ X ∧ X ≤ 1000000) (hY : -1000000 ≤ Y ∧ Y ≤ 1000000) (hw : 1 ≤ W ∧ W ≤ 256) (hh : 1 ≤ H ∧ H ≤ 256) : shwR W H X Y s a b c d = rboxR W H X Y s a b c d := by
  cases hne : emptyB (cutR a b c d 0 0 W H).x0 (cutR a b c d 0 0 W H).y0 (cutR a b c d 0 0 W H).x1 (cutR a b c d 0 0 W H).y1 with
  | true => simp only [shwR, rboxR, hne, if_true]
  | false =>
    rw [(shw_of hs ⟨by omega, by omega⟩ ⟨by omega, by omega⟩ hw hh rfl hne).1]
    obtain ⟨h1, h2, h3, h4, h5, h6⟩ := cut_in a b c d (W := W) (H := H) hw.1 hh.1
    simp only [rboxR, hne, Bool.false_eq_true, if_false]
    generalize cutR a b c d 0 0 W H = r at *
    have m0 := mul_scale (m := 256) h1 (by omega) hs
    have m1 := mul_scale (m := 256) (show 0 ≤ r.x1 by omega) (by omega) hs
    have m2 := mul_scale (m := 256) h4 (by omega) hs
    have m3 := mul_scale (m := 256) (show 0 ≤ r.y1 by omega) (by omega) hs
    have l1 := Int.mul_le_mul_of_nonneg_right (show r.x0 ≤ r.x1 by omega) (show 0 ≤ s by omega)
    have l2 := Int.mul_le_mul_of_nonneg_right (show r.y0 ≤ r.y1 by omega) (show 0 ≤ s by omega)
    unfold chkR
    rw [if_pos (mayR_true.2 (by omega))]
end Go.Proofs.YtlfahohbkgdabaaGreat
