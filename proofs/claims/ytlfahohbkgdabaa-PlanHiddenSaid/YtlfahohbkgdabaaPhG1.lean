/- Texts of this proof's own, put together: what each holds is told ahead of it. -/
import Derived.Test.YtlfahohbkgdabaaPhG0
import Derived.Maps.AppendAt
import Derived.Laws.CopyRow
import Derived.Test.YtlfahohbkgdabaaProg
import Derived.Shelf.Sort.Plain
import Derived.Ground.Names2Prog
import Derived.Shelf.Slices.CompactI
import Derived.Shelf.Slices.In.SortNone
set_option linter.unusedSimpArgs false
set_option linter.unusedVariables false
namespace Go.Proofs.Ytlfahohbkgdabaa
open Go Go.RowKit
variable {dfs : List Deferred}
section
variable {P : Program}
theorem cont_fact {K : Act → World → Prop} {n : Nat} {w0 : World} {L : List (Tmp × Value)} {T : List Ent} {F : Prop} (h : ∀ w, Tab w0 w T → F) (hk : F → Cont dfs K n w0 L T) : Cont dfs K n w0 L T :=
  fun a w ha hf hT => hk (h w hT) a w ha hf hT
theorem Tab.fresh {w0 w : World} {T : List Ent} (hT : Tab w0 w T) (e : Ent) (hok : e.ok w) (hb : ∀ k, ¬ e.blk k) : Tab w0 w (e :: T) :=
  hT.push rfl rfl rfl (Nat.le_refl _) (fun _ _ => rfl) hok (fun k hk => absurd hk (hb k))
theorem cont_nilrow {K : Act → World → Prop} {n : Nat} {w0 : World} {L : List (Tmp × Value)} {T : List Ent} (e : TypeId) (sz : Nat) (hk : Cont dfs K n w0 L (.gen (rowE none 0 0 0 e sz [] true) :: T)) : Cont dfs K n w0 L T :=
  fun a w ha hf hT => hk a w ha hf (hT.fresh _ (show Row w none 0 0 0 e sz [] from ⟨⟨by simp, .inl ⟨rfl, rfl⟩⟩, fun h => by omega, fun a ha => by cases ha⟩) (fun k hk => hk.2 rfl))
theorem Row.ofCells {w : World} {b n sz : Nat} {cs : List Value} {e : TypeId} (h : w.heap[b]? = some (.cells cs.toArray e (0, 0))) (hl : cs.length = n * sz) (hn : n ≤ maxLen) : Row w (some ⟨b, 0, none⟩) b n n e sz cs :=
  ⟨⟨hl, .inr ⟨b, n, cs.toArray, rfl, Nat.zero_le _, h, Nat.le_refl _, hn, by simp [hl], by simp [← hl]⟩⟩, fun _ => rfl, fun a ha => by cases ha; rfl⟩
theorem cont_asRow {K : Act → World → Prop} {n' : Nat} {w0 : World} {L : List (Tmp × Value)} {T : List Ent} (i n sz : Nat) {b : Nat} {cs vals : List Value} {e : TypeId} {own : Bool} (hi : T[i]? = some (.cells b cs e own)) (hv : cs = vals) (hl : cs.length = n * sz) (hn : n ≤ maxLen)
    (hk : Cont dfs K n' w0 L (T.set i (.gen (rowE (some ⟨b, 0, none⟩) b n n e sz vals own)))) : Cont dfs K n' w0 L T := by
  subst hv
  intro a w ha hf hT
  refine hk a w ha hf ?_
  have hok : w.heap[b]? = some (.cells cs.toArray e (0, 0)) := hT.ok i _ hi
  exact hT.replace (e := .cells b cs e own) (e' := .gen (rowE (some ⟨b, 0, none⟩) b n n e sz cs own)) hi rfl rfl id (fun k hk => .inl hk.1) (fun k _ hk _ => ⟨hk, by simp⟩) rfl rfl rfl (Nat.le_refl _) (fun _ _ _ => rfl) (Row.ofCells hok hl hn)
theorem Rd.ofCells {w : World} {b m sz : Nat} {cs vals : List Value} {e : TypeId} (h : w.heap[b]? = some (.cells cs.toArray e (0, 0))) (hv : cs = vals) (hl : cs.length = m * sz) : Rd w (some ⟨b, 0, none⟩) b 0 m sz vals := by
  subst hv
  refine ⟨hl, fun _ => rfl, fun j v hj => ?_⟩
  simp only [Nat.zero_add]
  simp [World.cell?, h, hj]
theorem ivals_append (k : IntKind) (xs ys : List Int) : ivals k xs ++ ivals k ys = ivals k (xs ++ ys) := by simp [ivals]
theorem ivals_one (k : IntKind) (xs : List Int) : ∀ u ∈ ivals k xs, u.oneCell' = true := by
  intro u hu
  obtain ⟨x, _, rfl⟩ := List.mem_map.1 hu
  rfl
theorem addr_add (b o j : Nat) : (⟨b, o, none⟩ : Addr).add j = ⟨b, o + j, none⟩ := by unfold Addr.add; split <;> simp_all
theorem append_own {w0 w : World} {T : List Ent} (hT : Tab w0 w T) {t ty e : TypeId} {A : Option Addr} {i g n cap sz bytes n' : Nat} {vals vals' news : List Value} {z : Value} (hi : T[i]? = some (.gen (rowE A g n cap e sz vals true)))
    (ht : P.underlying t = some (.slice e)) (hinf : (P.info? e).map (fun i => (i.zero, i.size, i.bytes)) = some (some z, sz, bytes)) (hzs : z.cells.size = sz) (hsz : 0 < sz) (hby : 0 < bytes)
    {SA : Option Addr} {sg so m sc : Nat} (hsrc : Rd w SA sg so m sz news) (h1 : ∀ u ∈ news, u.oneCell' = true) (hb : (n + m) * bytes ≤ 140737488355328) (hv : vals ++ news = vals') (hn' : n' = n + m) :
    ∃ (x : Option Addr × Nat × Nat) (w' : World), (Builtin.append_ #[t, t] ty #[.slice A n cap, .slice SA m sc]).run P w = .ok (.slice x.1 n' x.2.2) w' ∧ True ∧ Tab w0 w' (T.set i (.gen (rowE x.1 x.2.1 n' x.2.2 e sz vals' true))) := by
  subst hv hn'
  have hrow : Row w A g n cap e sz vals := hT.ok i _ hi
  obtain ⟨inf, hinf1, hinf2⟩ := Option.map_eq_some_iff.1 hinf
  simp only [Prod.mk.injEq] at hinf2
  obtain ⟨hz, hs, hbt⟩ := hinf2
  by_cases hm : m = 0
  · subst hm
    have hnil : news = [] := List.length_eq_zero_iff.1 (by have := hsrc.len; simpa using this)
    subst hnil
    refine ⟨(A, g, cap), w, ?_, trivial, ?_⟩
    · have hle : n ≤ cap := hrow.capLe
      cases A <;> cases SA <;> simp [Builtin.append_, run_underlying ht, sizeOf, typeInfo, hinf1, Builtin.lenOf, hle, Builtin.firstCells, storeCells, loadCells, loadCellsFrom]
    · simp only [List.append_nil, Nat.add_zero]
      have : T.set i (.gen (rowE A g n cap e sz vals true)) = T := by
        obtain ⟨hlt, he⟩ := List.getElem?_eq_some_iff.1 hi
        rw [← he]
        exact List.set_getElem_self hlt
      rw [this]; exact hT
  · have hSA := hsrc.at_ (by omega)
    subst hSA
    have hml : n + m ≤ maxLen := by
      have h2 : (n + m) * 1 ≤ (n + m) * bytes := Nat.mul_le_mul_left _ hby
      unfold maxLen; omega
    obtain ⟨v', w', hr, hown, hg, _, hat⟩ := run_append_own_at (P := P) w 0 t ty e inf z sz bytes ht hinf1 hz hs hbt hzs hsz (.slice A n cap) n vals hrow.own ⟨sg, so, none⟩ m sc news hsrc.len (fun j u hj => by rw [addr_add]; exact hsrc.cell j u hj) h1 hml hb (Nat.zero_le _)
    rcases hown.2 with ⟨hv0, h0⟩ | ⟨g', cap', cur, hv', _, hg', hle, hcm, hcs, htk⟩
    · omega
    · subst hv'
      refine ⟨(some ⟨g', 0, none⟩, g', cap'), w', hr, trivial, ?_⟩
      have hwhere : (k : Nat) → k = g' → (k = g ∧ A ≠ none) ∨ w.heap.size ≤ k := by
        intro k hk
        subst hk
        rcases hat with hat | hat
        · left
          cases A with
          | none => simp [Value.ownBlock] at hat
          | some a =>
            have := hrow.spot a rfl
            subst this
            simp [Value.ownBlock] at hat
            exact ⟨hat, by simp⟩
        · right
          simp [Value.ownBlock] at hat
          omega
      refine hT.replace (e := .gen (rowE A g n cap e sz vals true)) (e' := .gen (rowE (some ⟨g', 0, none⟩) g' (n + m) cap' e sz (vals ++ news) true)) hi rfl rfl id (fun k hk => hwhere k hk.1) (fun k _ hk hlt => ?_) hg.os hg.tape hg.output hg.size (fun k hk hne => ?_) ?_
      · have := hT.own i _ hi rfl k hk
        omega
      · refine hg.block k hk (fun hek => hne ?_)
        cases A with
        | none => simp [Value.ownBlock] at hek
        | some a =>
          have := hrow.spot a rfl
          subst this
          simp [Value.ownBlock] at hek
          exact ⟨hek, by simp⟩
      · exact ⟨hown, fun _ => rfl, fun a ha => by cases ha; rfl⟩
theorem Row.facts {w : World} {A : Option Addr} {g n cap : Nat} {e : TypeId} {k : IntKind} {xs : List Int} (h : Row w A g n cap e 1 (ivals k xs)) : (0 < n → A = some ⟨g, 0, none⟩) ∧ xs.length = n ∧ n ≤ cap ∧ cap ≤ maxLen := by
  refine ⟨h.at_, ?_, h.capLe, ?_⟩
  · have := h.own.1; rw [ivals_length] at this; omega
  · rcases h.own.2 with ⟨h1, _⟩ | ⟨g', cap', cur, hv, _, _, _, hm, _⟩
    · cases h1; unfold maxLen; omega
    · cases hv; exact hm
theorem Rd.flen {w : World} {A : Option Addr} {g o n : Nat} {k : IntKind} {xs : List Int} (h : Rd w A g o n 1 (ivals k xs)) : xs.length = n := by
  have := h.len; rw [ivals_length] at this; omega
theorem Rd.facts {w : World} {A : Option Addr} {g o n : Nat} {k : IntKind} {xs : List Int} (h : Rd w A g o n 1 (ivals k xs)) : (0 < n → A = some ⟨g, o, none⟩) ∧ xs.length = n := ⟨h.at_, h.flen⟩
end
theorem fI {K : Act → World → Prop} {n : Nat} {w0 : World} {L : List (Tmp × Value)} {T : List Ent} (i m : Nat) (A : Option Addr) (g c : Nat) (l : List Int) {e : TypeId} {k : IntKind} {own : Bool} (hi : T[i]? = some (.gen (rowE A g m c e 1 (ivals k l) own))) (hk : (0 < m → A = some ⟨g, 0, none⟩) → l.length = m → m ≤ c → c ≤ 2 ^ 63 - 1 → Cont dfs K n w0 L T) : Cont dfs K n w0 L T :=
  cont_fact (fun w hT => Row.facts (show Row w A g m c e 1 (ivals k l) from hT.ok i _ hi)) (fun h => hk h.1 h.2.1 h.2.2.1 h.2.2.2)
end Go.Proofs.Ytlfahohbkgdabaa
namespace Go.Proofs.Ytlfahohbkgdabaa
open Go Go.RowKit
def aroundI (n m : Int) : Int := (if n < 0 then 0 - (n + 1) else n) % m
theorem aroundI_range (n : Int) {m : Int} (h : 0 < m) : 0 ≤ aroundI n m ∧ aroundI n m < m := ⟨Int.emod_nonneg _ (by omega), Int.emod_lt_of_pos _ h⟩
def goodC (c : Int) : Int := mkC (pa c) (mn (pr c) (pa c)) (mn (pg c) (pa c)) (mn (pb c) (pa c))
theorem parts_mk (a r g b : Int) : pa (mkC a r g b) = clip a ∧ pr (mkC a r g b) = clip r ∧ pg (mkC a r g b) = clip g ∧ pb (mkC a r g b) = clip b := by
  have := clip_range a; have := clip_range r; have := clip_range g; have := clip_range b
  unfold pa pr pg pb mkC
  omega
theorem pa_range {c : Int} (h : InC c) : 0 ≤ pa c ∧ pa c ≤ 255 := by obtain ⟨h1, h2⟩ := h; unfold pa; omega
theorem goodC_may (c : Int) (h : InC c) : mayB (goodC c) = true ∧ InC (goodC c) := by
  refine ⟨?_, mkC_range _ _ _ _⟩
  obtain ⟨h1, h2, h3, h4⟩ := parts_mk (pa c) (mn (pr c) (pa c)) (mn (pg c) (pa c)) (mn (pb c) (pa c))
  have := pa_range h
  unfold mayB
  rw [goodC, h1, h2, h3, h4]
  simp only [Bool.and_eq_true, decide_eq_true_eq]
  unfold clip mn
  omega
def goodP (n : Nat) (xs : List Int) (i : Nat) : List Int := (List.range n).map fun j => if j < i then goodC (xs.getD j 0) else 0
theorem goodP_length (n : Nat) (xs : List Int) (i : Nat) : (goodP n xs i).length = n := by simp [goodP]
theorem goodP_zero (n : Nat) (xs : List Int) : goodP n xs 0 = List.replicate n 0 := by
  apply List.ext_getElem?
  intro j
  simp only [goodP, List.getElem?_map, List.getElem?_range', List.getElem?_replicate]
  by_cases h : j < n <;> simp [h]
theorem goodP_set {n : Nat} {xs : List Int} {i : Nat} (h : i < n) : (goodP n xs i).set i (goodC (xs.getD i 0)) = goodP n xs (i + 1) := by
  apply List.ext_getElem?
  intro j
  rw [List.getElem?_set]
  simp only [goodP, List.getElem?_map, List.length_map, List.length_range]
  by_cases hj : i = j
  · subst hj
    simp [h]
  · simp only [if_neg hj]
    by_cases hn : j < n
    · simp only [List.getElem?_range hn, Option.map_some]
      by_cases h2 : j < i
      · rw [if_pos h2, if_pos (by omega)]
      · rw [if_neg h2, if_neg (by omega)]
    · simp [hn]
theorem goodC_zero : goodC 0 = 0 := by decide
theorem goodP_end {n : Nat} {xs : List Int} {i : Nat} (h : n ≤ i ∨ xs.length ≤ i) : goodP n xs i = goodP n xs n := by
  unfold goodP
  refine List.map_congr_left fun j hj => ?_
  have hjn : j < n := List.mem_range.1 hj
  rw [if_pos hjn]
  split
  · rfl
  · have : xs.length ≤ j := by omega
    rw [List.getD_eq_getElem?_getD, List.getElem?_eq_none this]
    exact goodC_zero.symm
structure GoodIn (a b : Int) (A : Option Addr) (g o n cap : Nat) (xs : List Int) : Prop where
  a : -9223372036854775808 ≤ a ∧ a ≤ 9223372036854775807
  b : -9223372036854775808 ≤ b ∧ b ≤ 9223372036854775807
  len : xs.length = n
  le : n ≤ cap
  mx : cap ≤ maxLen
  rng : ∀ x ∈ xs, InC x
  at_ : 0 < n → A = some ⟨g, o, none⟩
def AllMay (px : List Int) : Prop := ∀ c ∈ px, mayB c = true ∧ InC c
theorem goodP_may {n : Nat} {xs : List Int} (i : Nat) (h : ∀ x ∈ xs, InC x) : AllMay (goodP n xs i) := by
  intro c hc
  obtain ⟨j, _, rfl⟩ := List.mem_map.1 hc
  split
  · refine goodC_may _ ?_
    rw [List.getD_eq_getElem?_getD]
    cases hx : xs[j]? with
    | none => exact ⟨by simp, by simp⟩
    | some x => exact h x (List.mem_of_getElem? hx)
  · exact ⟨by decide, by decide, by decide⟩
theorem AllMay.get {px : List Int} (h : AllMay px) {i : Nat} (hi : i < px.length) : mayB (px.getD i 0) = true ∧ InC (px.getD i 0) := by
  rw [List.getD_eq_getElem?_getD, List.getElem?_eq_getElem hi]
  exact h _ (List.getElem_mem hi)
theorem imgOk_of {W H : Int} {n : Nat} {px : List Int} (hw : 1 ≤ W ∧ W ≤ 256 ∧ 1 ≤ H ∧ H ≤ 256) (hn : (n : Int) = W * H) (hl : px.length = n) (hm : AllMay px) : ImgOk W H n px :=
  ⟨hw.1, hw.2.1, hw.2.2.1, hw.2.2.2, hn, hl, fun c hc => (hm c hc).2⟩
def setL (W H : Int) (px : List Int) (x y c : Int) : List Int := if hasB 0 0 W H x y && mayB c then px.set (y * W + x).toNat c else px
def setE (W H x y c : Int) : Int := if !hasB 0 0 W H x y then 4 else if !mayB c then 1 else 0
theorem place_inv (i : Nat) {W : Int} (hW : 1 ≤ W) : (i : Int) / W * W + (i : Int) % W = i := by
  rw [Int.mul_comm]; exact Int.mul_ediv_add_emod _ _
theorem in_box {W H : Int} {n i : Nat} (hW : 1 ≤ W) (hn : (n : Int) = W * H) (hi : i < n) : hasB 0 0 W H ((i : Int) % W) ((i : Int) / W) = true := by
  have h1 := Int.emod_nonneg (i : Int) (show W ≠ 0 by omega)
  have h2 := Int.emod_lt_of_pos (i : Int) (show 0 < W by omega)
  have h3 := Int.ediv_nonneg (show 0 ≤ (i : Int) by omega) (show 0 ≤ W by omega)
  refine hasB_true.2 ⟨h1, h2, h3, ?_⟩
  exact Int.ediv_lt_of_lt_mul (by omega) (by rw [Int.mul_comm, ← hn]; omega)
theorem setL_at {W H : Int} {n i : Nat} {px : List Int} {c : Int} (hW : 1 ≤ W) (hn : (n : Int) = W * H) (hi : i < n) (hc : mayB c = true) : setL W H px ((i : Int) % W) ((i : Int) / W) c = px.set i c := by
  unfold setL
  rw [in_box hW hn hi, hc, Bool.and_self, if_pos rfl, place_inv i hW]
  rfl
def bldP (px : List Int) (i : Nat) : List Int := px.mapIdx fun j c => if j < i then c else 0
theorem bldP_length (px : List Int) (i : Nat) : (bldP px i).length = px.length := by simp [bldP]
theorem bldP_zero (px : List Int) : bldP px 0 = List.replicate px.length 0 := by
  apply List.ext_getElem?
  intro j
  simp only [bldP, List.getElem?_mapIdx, List.getElem?_replicate]
  by_cases h : j < px.length
  · simp [h]
  · simp [h]
theorem bldP_all {px : List Int} {i : Nat} (h : px.length ≤ i) : bldP px i = px := by
  apply List.ext_getElem?
  intro j
  simp only [bldP, List.getElem?_mapIdx]
  by_cases hj : j < px.length
  · simp [hj, show j < i by omega]
  · simp [hj]
theorem bldP_set {px : List Int} {i : Nat} (h : i < px.length) : (bldP px i).set i (px.getD i 0) = bldP px (i + 1) := by
  apply List.ext_getElem?
  intro j
  rw [List.getElem?_set]
  simp only [bldP, List.getElem?_mapIdx, List.length_mapIdx]
  by_cases hj : i = j
  · subst hj
    simp [h]
  · simp only [if_neg hj]
    cases px[j]? with
    | none => rfl
    | some v =>
      simp only [Option.map_some]
      by_cases h2 : j < i
      · rw [if_pos h2, if_pos (by omega)]
      · rw [if_neg h2, if_neg (by omega)]
theorem bldP_may {px : List Int} (h : AllMay px) (i : Nat) : AllMay (bldP px i) := by
  intro c hc
  obtain ⟨j, hj⟩ := List.getElem?_of_mem hc
  simp only [bldP, List.getElem?_mapIdx] at hj
  cases hp : px[j]? with
  | none => rw [hp] at hj; cases hj
  | some v =>
    rw [hp] at hj
    simp only [Option.map_some, Option.some.injEq] at hj
    subst hj
    split
    · exact h v (List.mem_of_getElem? hp)
    · exact ⟨by decide, by decide, by decide⟩
theorem emod_range (i : Nat) {W : Int} (hW : 1 ≤ W) : 0 ≤ (i : Int) % W ∧ (i : Int) % W < W ∧ 0 ≤ (i : Int) / W ∧ (i : Int) / W ≤ i :=
  ⟨Int.emod_nonneg _ (by omega), Int.emod_lt_of_pos _ (by omega), Int.ediv_nonneg (by omega) (by omega), Int.ediv_le_self _ (by omega)⟩
end Go.Proofs.Ytlfahohbkgdabaa
namespace Go.Proofs.Ytlfahohbkgdabaa
open Go Go.RowKit
theorem cutR_has (a b c d a' b' c' d' x y : Int) : hasB (cutR a b c d a' b' c' d').x0 (cutR a b c d a' b' c' d').y0 (cutR a b c d a' b' c' d').x1 (cutR a b c d a' b' c' d').y1 x y = true ↔ hasB a b c d x y = true ∧ hasB a' b' c' d' x y = true := by
  unfold cutR
  cases h : emptyB (max a a') (max b b') (min c c') (min d d') with
  | true =>
    have := emptyB_true.1 h
    simp only [if_true, hasB_true]
    omega
  | false =>
    simp only [Bool.false_eq_true, if_false, hasB_true]
    omega
end Go.Proofs.Ytlfahohbkgdabaa
namespace Go.Proofs.Ytlfahohbkgdabaa
open Go Go.RowKit
set_option maxRecDepth 100000
set_option maxHeartbeats 8000000
theorem refAround (n m : Int) (w : World) (hn : -9223372036854775808 ≤ n ∧ n ≤ 9223372036854775807) (hm : 1 ≤ m ∧ m ≤ 9223372036854775807) :
    Calls Try.prog 13 #[iQ n, iQ m] w fun e w' => e = .returned (iQ (aroundI n m)) ∧ Below w.heap.size w w' := by
 refine eN [(0, iq n), (1, iq m)] Try.func13 Try.ntmps13 rfl (Tab.start w) ?_
 refine zSR 1 <| bD [0] 1 0 [] [4] <| zDNSSR 2 <| bD [0, 0] 2 0 [(6, .bool (decide (n < 0)))] [5] <| zDN <| sD 6 rfl (fun c1_ => ?_) fun c1_ => ?_
 ·
  refine cTr rfl <| cRg 4 rfl <| bD [0, 0] 2 2 [(8, iq (IntKind.i64.wrap (n + 1)))] [7] <| wI 8 (n + 1) <| bD [0] 3 1 [(9, iq (IntKind.i64.wrap (0 - (n + 1))))] [] <| wI 9 (0 - (n + 1)) <| bD [0] 4 0 [(0, iq (0 - (n + 1)))] [] <| zDNSR 4 <| bS [0, 0] 2 2 [(10, iq (0 - (n + 1))), (11, iq m)] <| pS 3 1 <| sS 12 (bopS .rem 3 (.tmp 10) (.tmp 11) (iq (0 - (n + 1))) (iq m)) (iq ((0 - (n + 1)).tmod m)) (fun w hT => run_rem (by omega) w) <| rC 12 (iq ((0 - (n + 1)) % m)) rfl (tmodI (by omega)) <| bS [0] 4 0 [(4, iq ((0 - (n + 1)) % m))] <| zDNr <| rA rfl 0 (iq ((0 - (n + 1)) % m)) fun w hT => ?_
  exact ⟨ret_int (by simp [aroundI, *]), hT.post rfl⟩
 refine zFKNSR 4 <| bS [0, 0] 2 2 [(10, iq n), (11, iq m)] <| pS 3 1 <| sS 12 (bopS .rem 3 (.tmp 10) (.tmp 11) (iq n) (iq m)) (iq (n.tmod m)) (fun w hT => run_rem (by omega) w) <| rC 12 (iq (n % m)) rfl (tmodI (by omega)) <| bS [0] 4 0 [(4, iq (n % m))] <| zDNr <| rA rfl 0 (iq (n % m)) fun w hT => ?_
 exact ⟨ret_int (by simp [aroundI, *]), hT.post rfl⟩
theorem refParts (c : Int) (w : World) (h0 : 0 ≤ c) (h1 : c < 4294967296) :
    Calls Try.prog 21 #[cQ c] w fun e w' => e = .returned (.agg #[iQ (pa c), iQ (pr c), iQ (pg c), iQ (pb c)]) ∧ Below w.heap.size w w' := by
 refine eN [(0, cQ c)] Try.func21 Try.ntmps21 rfl (Tab.start w) ?_
 refine zSR 1 <| bW [0] 1 0 (fun b1 => [(0, cQ c), (2, .pointer (pB b1))]) (fun b1 => [.cells b1 [iq 0, iq 0, iq 0, iq 0] 49 true]) [0, 2] fun b1 => ?_
 refine zDNSR 3 <| bD [0, 0] 2 1 [(5, iq (IntKind.i64.wrap c))] [4] <| wI 5 c <| bD [0] 3 0 [(3, iq c)] [] <| zDNSR 12 <| bD [0, 0] 2 10 [(7, iq (IntKind.i64.wrap (c.tdiv 16777216)))] [6] <| rC 7 (iq (c / 16777216)) rfl (tdivI (by omega) (by omega) (by omega)) <| bD [0, 0] 4 8 [(9, iq (IntKind.i64.wrap (c.tdiv 65536)))] [8] <| rC 9 (iq (c / 65536)) rfl (tdivI (by omega) (by omega) (by omega)) <| bD [0] 5 7 [(10, iq ((c / 65536).tmod 256))] [] <| rC 10 (iq ((c / 65536) % 256)) rfl (tmodI (by omega)) <| bD [0, 0] 7 5 [(12, iq (IntKind.i64.wrap (c.tdiv 256)))] [11] <| rC 12 (iq (c / 256)) rfl (tdivI (by omega) (by omega) (by omega)) <| bD [0] 8 4 [(13, iq ((c / 256).tmod 256))] [] <| rC 13 (iq ((c / 256) % 256)) rfl (tmodI (by omega)) <| bD [0, 0] 10 2 [(15, iq (c.tmod 256))] [14] <| rC 15 (iq (c % 256)) rfl (tmodI (by omega)) <| bZ [0, 0] 12 0 [(2, .pointer (pB b1))] [.cells b1 [iq (c / 16777216), iq ((c / 65536) % 256), iq ((c / 256) % 256), iq (c % 256)] 49 true] <| zDNr <| rA rfl 0 (.agg #[iq (c / 16777216), iq ((c / 65536) % 256), iq ((c / 256) % 256), iq (c % 256)]) fun w hT => ?_
 exact ⟨rfl, hT.post rfl⟩
theorem refMake (a r g b : Int) (w : World) :
    Calls Try.prog 22 #[iQ a, iQ r, iQ g, iQ b] w fun e w' => e = .returned (cQ (mkC a r g b)) ∧ Below w.heap.size w w' := by
 have ha : 0 ≤ mn (mx a 0) 255 ∧ mn (mx a 0) 255 ≤ 255 := by unfold mn mx; omega
 have hr : 0 ≤ mn (mx r 0) 255 ∧ mn (mx r 0) 255 ≤ 255 := by unfold mn mx; omega
 have hg : 0 ≤ mn (mx g 0) 255 ∧ mn (mx g 0) 255 ≤ 255 := by unfold mn mx; omega
 have hb : 0 ≤ mn (mx b 0) 255 ∧ mn (mx b 0) 255 ≤ 255 := by unfold mn mx; omega
 refine eN [(0, iq a), (1, iq r), (2, iq g), (3, iq b)] Try.func22 Try.ntmps22 rfl (Tab.start w) ?_
 refine zSR 1 <| bD [0] 1 0 [] [8] <| zDNSR 4 <| bD [0, 0, 0, 0] 4 0 [(0, iq (mn (mx a 0) 255))] [9, 10, 11] <| zDNSR 4 <| bD [0, 0, 0, 0] 4 0 [(1, iq (mn (mx r 0) 255))] [12, 13, 14] <| zDNSR 4 <| bD [0, 0, 0, 0] 4 0 [(2, iq (mn (mx g 0) 255))] [15, 16, 17] <| zDNSR 4 <| bD [0, 0, 0, 0] 4 0 [(3, iq (mn (mx b 0) 255))] [18, 19, 20] <| zDNSR 12 <| bD [0, 0] 2 10 [(22, iq (IntKind.i64.wrap ((mn (mx a 0) 255) * 16777216)))] [21] <| wI 22 ((mn (mx a 0) 255) * 16777216) <| bD [0, 0] 4 8 [(24, iq (IntKind.i64.wrap ((mn (mx r 0) 255) * 65536)))] [23] <| wI 24 ((mn (mx r 0) 255) * 65536) <| bD [0] 5 7 [(25, iq (IntKind.i64.wrap (((mn (mx a 0) 255) * 16777216) + ((mn (mx r 0) 255) * 65536))))] [] <| wI 25 (((mn (mx a 0) 255) * 16777216) + ((mn (mx r 0) 255) * 65536)) <| bD [0, 0] 7 5 [(27, iq (IntKind.i64.wrap ((mn (mx g 0) 255) * 256)))] [26] <| wI 27 ((mn (mx g 0) 255) * 256) <| bD [0] 8 4 [(28, iq (IntKind.i64.wrap ((((mn (mx a 0) 255) * 16777216) + ((mn (mx r 0) 255) * 65536)) + ((mn (mx g 0) 255) * 256))))] [] <| wI 28 ((((mn (mx a 0) 255) * 16777216) + ((mn (mx r 0) 255) * 65536)) + ((mn (mx g 0) 255) * 256)) <| bS [0, 0] 10 2 [(30, iq (IntKind.i64.wrap (((((mn (mx a 0) 255) * 16777216) + ((mn (mx r 0) 255) * 65536)) + ((mn (mx g 0) 255) * 256)) + (mn (mx b 0) 255))))] <| wI 30 (((((mn (mx a 0) 255) * 16777216) + ((mn (mx r 0) 255) * 65536)) + ((mn (mx g 0) 255) * 256)) + (mn (mx b 0) 255)) <| bS [0] 11 1 [(31, cQ (IntKind.u32.wrap (((((mn (mx a 0) 255) * 16777216) + ((mn (mx r 0) 255) * 65536)) + ((mn (mx g 0) 255) * 256)) + (mn (mx b 0) 255))))] <| wU 31 (((((mn (mx a 0) 255) * 16777216) + ((mn (mx r 0) 255) * 65536)) + ((mn (mx g 0) 255) * 256)) + (mn (mx b 0) 255)) <| bS [0] 12 0 [(8, cQ (((((mn (mx a 0) 255) * 16777216) + ((mn (mx r 0) 255) * 65536)) + ((mn (mx g 0) 255) * 256)) + (mn (mx b 0) 255)))] <| zDNr <| rA rfl 0 (cQ (((((mn (mx a 0) 255) * 16777216) + ((mn (mx r 0) 255) * 65536)) + ((mn (mx g 0) 255) * 256)) + (mn (mx b 0) 255))) fun w hT => ?_
 exact ⟨ret_int (by simp only [mkC, clip, mx_eq, mn_eq]), hT.post rfl⟩
theorem refGood3 (c : Int) (w : World) (h0 : 0 ≤ c) (h1 : c < 4294967296) :
    Calls Try.prog 12 #[cQ c] w fun e w' => e = .returned (cQ (goodC c)) ∧ Below w.heap.size w w' := by
 refine eN [(0, cQ c)] Try.func12 Try.ntmps12 rfl (Tab.start w) ?_
 refine zSR 1 <| bD [0] 1 0 [] [2] <| zDNSR 4 <| bS [0] 1 3 [(4, cQ c)] <| pS 2 2 <| cP 5 (.agg #[iq (pa c), iq (pr c), iq (pg c), iq (pb c)]) (fun w hT => refParts c w (by omega) (by omega)) <| bW [0, 0] 4 0 (fun b1 => [(3, .pointer (pB b1))]) (fun b1 => [.cells b1 [iq (pa c), iq (pr c), iq (pg c), iq (pb c)] 49 true]) [3] fun b1 => ?_
 refine zDNSR 19 <| bS [0, 0, 0, 0, 0, 0, 0, 0, 0, 0, 0, 0, 0, 0, 0, 0, 0] 17 2 [(7, iq (pa c)), (12, iq (mn (pr c) (pa c))), (17, iq (mn (pg c) (pa c))), (22, iq (mn (pb c) (pa c)))] <| fG 0 <| pS 18 1 <| cP 23 (cQ (mkC (pa c) (mn (pr c) (pa c)) (mn (pg c) (pa c)) (mn (pb c) (pa c)))) (fun w hT => refMake (pa c) (mn (pr c) (pa c)) (mn (pg c) (pa c)) (mn (pb c) (pa c)) w) <| bS [0] 19 0 [(2, cQ (mkC (pa c) (mn (pr c) (pa c)) (mn (pg c) (pa c)) (mn (pb c) (pa c))))] <| zDNr <| rA rfl 0 (cQ (mkC (pa c) (mn (pr c) (pa c)) (mn (pg c) (pa c)) (mn (pb c) (pa c)))) fun w hT => ?_
 exact ⟨rfl, hT.post rfl⟩
theorem refNew4 (W H : Int) (w : World) (hwh : 1 ≤ W ∧ W ≤ 256 ∧ 1 ≤ H ∧ H ≤ 256) :
    Calls Try.prog 24 #[iQ W, iQ H] w fun e w' => ∃ r n : Nat, e = .returned (.agg #[iQ W, iQ H, sL r n n]) ∧ (n : Int) = W * H ∧ Tab w w' [oE r n n 24 1 (cV (List.replicate n 0))] := by
 have hm : W * H ≤ 256 * 256 := mul_le_of (by omega) (by omega) (by omega) (by omega)
 have hm0 : 0 ≤ W * H := Int.mul_nonneg (by omega) (by omega)
 obtain ⟨n, hn⟩ : ∃ n : Nat, (n : Int) = W * H := ⟨(W * H).toNat, by omega⟩
 refine eN [(0, iq W), (1, iq H)] Try.func24 Try.ntmps24 rfl (Tab.start w) ?_
 refine zSR 1 <| bW [0] 1 0 (fun b1 => [(0, iq W), (1, iq H), (4, .pointer (pB b1))]) (fun b1 => [.cells b1 [iq 0, iq 0, .slice none 0 0] 41 true]) [0, 1, 4] fun b1 => ?_
 refine zDNSR 8 <| bD [0, 0, 0, 0, 0] 5 3 [(5, iq W), (6, iq H), (9, iq (IntKind.i64.wrap (W * H)))] [7, 8] <| rC 9 (iq (n : Int)) rfl (by rw [hn]; exact wrapI (by omega) (by omega)) <| pS 6 2 <| sSW 10 (Instr.makeSlice 39 (iq (n : Int)) (iq (n : Int))) (fun r2 => .slice (pB r2) n n) (fun r2 => [.gen (rowE (pB r2) r2 n n 24 1 (cV (List.replicate n 0)) true), .cells b1 [iq 0, iq 0, .slice none 0 0] 41 true]) (fun _ => True) (by kernel_rfl) (fun w hT => make_row hT (bytes := 4) n (by kernel_rfl) (by kernel_rfl) (by omega) (by omega)) (fun r2 _ => ?_)
 refine bZ [0, 1] 8 0 [(4, .pointer (pB b1))] [.gen (rowE (pB r2) r2 n n 24 1 (cV (List.replicate n 0)) true), .cells b1 [iq W, iq H, .slice (pB r2) n n] 41 true] <| zDNr <| rA rfl 1 (.agg #[iq W, iq H, .slice (pB r2) n n]) fun w hT => ?_
 replace hT := hT.erase 1 (fun e h hw => by cases h; first | rfl | cases hw)
 exact ⟨_, _, rfl, hn, hT⟩
theorem refGood4 (A1 : Option Addr) (g1 o1 n1 cap1 : Nat) (xs1 : List Int) (a b : Int) (w : World) (hT0 : Tab w w [rD (A1) g1 o1 n1 1 (cV xs1)]) (hh : GoodIn a b A1 g1 o1 n1 cap1 xs1) :
    Calls Try.prog 17 #[iQ a, iQ b, .slice A1 n1 cap1] w fun e w' => ∃ r n : Nat, e = .returned (.agg #[iQ (1 + aroundI a 16), iQ (1 + aroundI b 16), sL r n n]) ∧ (n : Int) = (1 + aroundI a 16) * (1 + aroundI b 16) ∧ Tab w w' [oE r n n 24 1 (cV (goodP n xs1 n))] := by
 obtain ⟨ha, hb, hl1, hc1, hm1, hx1, hat1⟩ := hh
 unfold maxLen at hm1
 have hr1a := hat1
 refine eN [(0, iq a), (1, iq b), (2, .slice A1 n1 cap1)] Try.func17 Try.ntmps17 rfl hT0 ?_
 refine zSR 1 <| bW [0] 1 0 (fun b1 => [(0, iq a), (1, iq b), (2, .slice A1 n1 cap1), (6, .pointer (pB b1))]) (fun b1 => [.cells b1 [iq 0, iq 0, .slice none 0 0] 41 true, rD (A1) g1 o1 n1 1 (cV xs1)]) [0, 1, 2, 6] fun b1 => ?_
 refine zDNSR 9 <| bD [0] 1 8 [(9, iq a)] [] <| pS 2 7 <| cP 10 (iq (aroundI a 16)) (fun w hT => refAround a 16 w (by omega) (by omega)) ?_
 have hq2_ := aroundI_range a (m := 16) (by omega)
 refine bD [0] 3 6 [(11, iq (IntKind.i64.wrap (1 + (aroundI a 16))))] [] <| wI 11 (1 + (aroundI a 16)) <| bD [0] 4 5 [(12, iq b)] [] <| pS 5 4 <| cP 13 (iq (aroundI b 16)) (fun w hT => refAround b 16 w (by omega) (by omega)) ?_
 have hq3_ := aroundI_range b (m := 16) (by omega)
 refine bD [0] 6 3 [(14, iq (IntKind.i64.wrap (1 + (aroundI b 16))))] [] <| wI 14 (1 + (aroundI b 16)) <| pS 7 2 <| cG (d := 15) (α := Nat × Nat) (fun x_ => .agg #[iq (1 + (aroundI a 16)), iq (1 + (aroundI b 16)), .slice (pB x_.1) x_.2 x_.2]) (fun x_ => [.gen (rowE (pB x_.1) x_.1 x_.2 x_.2 24 1 (cV (List.replicate x_.2 0)) true), .cells b1 [iq 0, iq 0, .slice none 0 0] 41 true, rD (A1) g1 o1 n1 1 (cV xs1)]) (fun x_ => (x_.2 : Int) = (1 + (aroundI a 16)) * (1 + (aroundI b 16))) (fun w hT => (refNew4 (1 + (aroundI a 16)) (1 + (aroundI b 16)) w (by omega)).mono fun e w' ⟨r4, n5, he_, hf_, ht_⟩ => ⟨(r4, n5), he_, hf_, hT.news ht_ rfl⟩) ?_
 rintro ⟨r4, n5⟩ hf6_
 replace hf6_ : (n5 : Int) = (1 + (aroundI a 16)) * (1 + (aroundI b 16)) := hf6_
 refine bW [0, 0] 9 0 (fun b7 => [(2, .slice A1 n1 cap1), (6, .pointer (pB b1)), (7, .pointer (pB b7))]) (fun b7 => [.cells b7 [iq (1 + (aroundI a 16)), iq (1 + (aroundI b 16)), .slice (pB r4) n5 n5] 41 true, .gen (rowE (pB r4) r4 n5 n5 24 1 (cV (List.replicate n5 0)) true), .cells b1 [iq 0, iq 0, .slice none 0 0] 41 true, rD (A1) g1 o1 n1 1 (cV xs1)]) [2, 6, 7] fun b7 => ?_
 refine zDNSSR 1 <| bD [0] 1 0 [(8, iq 0)] [] <| zDNB <| cont_rowEq (k := .u32) 1 (List.replicate n5 0) (goodP n5 xs1 0) rfl ((goodP_zero _ _).symm) ?_
 refine cL (α := Nat) (fun x_ : Nat => x_ ≤ n1 ∧ x_ ≤ n5) (fun x_ : Nat => [(2, .slice A1 n1 cap1), (6, .pointer (pB b1)), (7, .pointer (pB b7)), (8, iq (x_ : Int))]) (fun x_ : Nat => [.cells b7 [iq (1 + (aroundI a 16)), iq (1 + (aroundI b 16)), .slice (pB r4) n5 n5] 41 true, .gen (rowE (pB r4) r4 n5 n5 24 1 (cV (goodP n5 xs1 x_)) true), .cells b1 [iq 0, iq 0, .slice none 0 0] 41 true, rD (A1) g1 o1 n1 1 (cV xs1)]) (fun x_ : Nat => n1 - x_) 0 (⟨by omega, by omega⟩) ?_
 rintro i hinv8_
 replace hinv8_ : i ≤ n1 ∧ i ≤ n5 := hinv8_
 obtain ⟨hi1, hi2⟩ := hinv8_
 have hxi : i < n1 → 0 ≤ xs1.getD i 0 ∧ xs1.getD i 0 < 4294967296 := fun h => hx1 _ (by rw [List.getD_eq_getElem?_getD, List.getElem?_eq_getElem (by omega)]; simp)
 refine zSSR 11 <| bD [0, 0, 0, 0, 0] 5 6 [(20, .bool (decide ((i : Int) < (n1 : Int))))] [16, 17, 18, 19] <| sD 20 rfl (fun c9_ => ?_) fun c9_ => ?_
 ·
  refine bD [0, 0, 0, 0, 0, 0] 11 0 [(21, iq (i : Int)), (22, .pointer (some ⟨b7, 2, none⟩)), (23, .slice (pB r4) n5 n5), (24, iq (n5 : Int)), (25, .bool (decide ((i : Int) < (n5 : Int)))), (26, .bool (decide ((i : Int) < (n5 : Int))))] [] <| zDN <| cSp 26 _ rfl (fun c10_ => ?_) fun c10_ => ?_
  ·
   refine rC 25 (.bool true) rfl (congrArg Value.bool c10_) ?_
   replace c10_ := of_decide_eq_true c10_
   refine cTr rfl <| cont_skip <| zN <| cSq <| cont_block <| drawn_enter 10 [1] rfl (by kernel_rfl) ?_
   refine tD 0 [1] [(0, 0), (2, 0), (3, 0), (4, 0), (1, 0)] 5 [1, 4, 3, 2, 0] [(30, .slice (pB r4) n5 n5), (31, iq (i : Int)), (32, .slice A1 n1 cap1), (33, iq (i : Int))] [29] <| rC 32 (.slice (some ⟨g1, o1, none⟩) n1 cap1) rfl (by rw [hat1 (by omega)]) <| sT 0 [1] 5 4 34 (Instr.indexAt 39 (.slice (some ⟨g1, o1, none⟩) n1 cap1) (iq (i : Int))) (.pointer (some ⟨g1, o1 + i, none⟩)) (fun w hT => rI 24 1 w) <| sT 0 [1] 6 3 35 (Instr.loadAt 24 (.pointer (some ⟨g1, o1 + i, none⟩))) (cQ (xs1.getD i 0)) (fun w hT => rL (Rd.cell (hT 3 _ rfl) (i) _ (ivals_get (by omega)))) <| dO 7 2 <| cP 36 (cQ (goodC (xs1.getD i 0))) (fun w hT => refGood3 (xs1.getD i 0) w (by omega) (by omega)) <| dX 0 [1] <| sT 0 [1] 8 1 37 (Instr.indexAt 39 (.slice (pB r4) n5 n5) (iq (i : Int))) (.pointer (some ⟨r4, i, none⟩)) (fun w hT => rI 24 1 w) <| dO 9 0 <| sem_stepU (Instr.storeAt 24 (.pointer (some ⟨r4, i, none⟩)) (cQ (goodC (xs1.getD i 0)))) (fun _ => [.cells b7 [iq (1 + (aroundI a 16)), iq (1 + (aroundI b 16)), .slice (pB r4) n5 n5] 41 true, .gen (rowE (pB r4) r4 n5 n5 24 1 (cV ((goodP n5 xs1 i).set i (goodC (xs1.getD i 0)))) true), .cells b1 [iq 0, iq 0, .slice none 0 0] 41 true, rD (A1) g1 o1 n1 1 (cV xs1)]) (fun _ => True) (by kernel_rfl) (fun w hT => store_row hT (i := 1) rfl (by kernel_rfl) (by simp only [goodP_length]; omega)) (fun _ _ => ?_)
   refine dX 0 [1] <| dD <| blk_normal <| zN <| cRg 3 rfl <| bD [0, 0] 2 1 [(28, iq (IntKind.i64.wrap ((i : Int) + 1)))] [27] <| wI 28 ((i : Int) + 1) <| bD [0] 3 0 [(8, iq ((i : Int) + 1))] [] <| zDN <| cont_rowEq (k := .u32) 1 ((goodP n5 xs1 i).set i (goodC (xs1.getD i 0))) (goodP n5 xs1 (i + 1)) rfl (goodP_set (by omega)) ?_
   refine cA (i + 1) (show (i + 1) ≤ n1 ∧ (i + 1) ≤ n5 from ⟨by omega, by omega⟩)
  refine rC 25 (.bool false) rfl (congrArg Value.bool c10_) ?_
  replace c10_ := of_decide_eq_false c10_
  refine zFXxxeNSR 2 <| bZ [0, 2] 2 0 [(6, .pointer (pB b1))] [.cells b7 [iq (1 + (aroundI a 16)), iq (1 + (aroundI b 16)), .slice (pB r4) n5 n5] 41 true, .gen (rowE (pB r4) r4 n5 n5 24 1 (cV (goodP n5 xs1 i)) true), .cells b1 [iq (1 + (aroundI a 16)), iq (1 + (aroundI b 16)), .slice (pB r4) n5 n5] 41 true, rD (A1) g1 o1 n1 1 (cV xs1)] <| fG 0 <| zDNr <| rA rfl 1 (.agg #[iq (1 + (aroundI a 16)), iq (1 + (aroundI b 16)), .slice (pB r4) n5 n5]) fun w hT => ?_
  replace hT := hT.erase 2 (fun e h hw => by cases h; first | rfl | cases hw)
  replace hT := hT.erase 1 (fun e h hw => by cases h; first | rfl | cases hw)
  rw [goodP_end (by omega)] at hT
  exact ⟨_, _, rfl, ‹_›, hT⟩
 refine bD [0, 0, 0, 0, 0, 0] 11 0 [(21, undef), (22, undef), (23, undef), (24, undef), (25, undef), (26, .bool false)] [] <| zDN <| zFXxxeNSR 2 <| bZ [0, 2] 2 0 [(6, .pointer (pB b1))] [.cells b7 [iq (1 + (aroundI a 16)), iq (1 + (aroundI b 16)), .slice (pB r4) n5 n5] 41 true, .gen (rowE (pB r4) r4 n5 n5 24 1 (cV (goodP n5 xs1 i)) true), .cells b1 [iq (1 + (aroundI a 16)), iq (1 + (aroundI b 16)), .slice (pB r4) n5 n5] 41 true, rD (A1) g1 o1 n1 1 (cV xs1)] <| fG 0 <| zDNr <| rA rfl 1 (.agg #[iq (1 + (aroundI a 16)), iq (1 + (aroundI b 16)), .slice (pB r4) n5 n5]) fun w hT => ?_
 replace hT := hT.erase 2 (fun e h hw => by cases h; first | rfl | cases hw)
 replace hT := hT.erase 1 (fun e h hw => by cases h; first | rfl | cases hw)
 rw [goodP_end (by omega)] at hT
 exact ⟨_, _, rfl, ‹_›, hT⟩
theorem imgSet (m : Nat) (W H : Int) (r n cap : Nat) (px : List Int) (x y c : Int) (w : World) (hI : Img 118 24 w m W H r n cap px) (hok : ImgOk W H n px) (hc : InC c) :
    Calls Try.prog 29 #[pT m, iQ x, iQ y, cQ c] w fun e w' => e = .returned (iQ (setE W H x y c)) ∧ KeepBut w w' r ∧ Row w' (some ⟨r, 0, none⟩) r n cap 24 1 (cV (setL W H px x y c)) := by
 have hw1 := hok.w1
 have hw2 := hok.w2
 have hh1 := hok.h1
 have hh2 := hok.h2
 have hnum := hok.num
 have hlen := hok.len
 have hle := hok.le
 have hcap := hI.row.capLe
 obtain ⟨hc0, hc1⟩ := hc
 refine enter 34 [(0, .pointer (pB m)), (1, iq x), (2, iq y), (3, cQ c)] [.ro m [iq W, iq H, .slice (pB r) n cap] 118, .gen (rowE (pB r) r n cap 24 1 (cV px) false)] Try.func29 rfl Try.ntmps29 rfl (by kernel_rfl) hI.tabRw ?_
 refine zSR 1 <| bD [0] 1 0 [] [8] <| zDNS <| cont_block <| zSR 7 <| bD [0] 1 6 [(10, .pointer (pB m))] [] <| pS 2 5 <| cP 11 (.agg #[iq 0, iq 0, iq W, iq H]) (fun w hT => imgBox m W H r n cap px  w ⟨hT.ok 0 _ rfl, Row.rd (hT.ok 1 _ rfl), Row.capLe (hT.ok 1 _ rfl)⟩ hok) <| bD [0, 0] 4 3 [(12, iq x), (13, iq y)] [] <| pS 5 2 <| cP 14 (.bool (hasB 0 0 W H x y)) (fun w hT => rectHas 0 0 W H x y w) <| bD [0, 0] 7 0 [(9, .bool (!(hasB 0 0 W H x y)))] [15] <| zDN <| cSp 9 _ rfl (fun c1_ => ?_) fun c1_ => ?_
 ·
  replace c1_ : (hasB 0 0 W H x y) = false := by simpa using c1_
  refine zTSR 1 <| bS [0] 1 0 [(8, iq 4)] <| zDNr <| blk_ret <| then_ret ?_
  refine rA rfl 0 (iq 4) fun w hT => ?_
  refine ⟨ret_int (by simp [setE, *]), hT.keep 1 rfl rfl, ?_⟩
  have hR := hT.ok 1 _ rfl
  rw [show setL W H px x y c = px from by simp [setL, *]]
  exact hR
 replace c1_ : (hasB 0 0 W H x y) = true := by simpa using c1_
 obtain ⟨hx0, hx1, hy0, hy1⟩ := hasB_true.1 c1_
 have hpl := hok.place hx0 hx1 hy0 hy1
 refine cFa rfl <| zSR 4 <| bD [0] 1 3 [(17, cQ c)] [] <| pS 2 2 <| cP 18 (.bool (mayB c)) (fun w hT => colorMay c w (by omega) (by omega)) <| bD [0, 0] 4 0 [(16, .bool (!(mayB c)))] [19] <| zDN <| cSp 16 _ rfl (fun c2_ => ?_) fun c2_ => ?_
 ·
  replace c2_ : (mayB c) = false := by simpa using c2_
  refine zTSR 1 <| bS [0] 1 0 [(8, iq 1)] <| zDNr <| blk_ret <| then_ret ?_
  refine rA rfl 0 (iq 1) fun w hT => ?_
  refine ⟨ret_int (by simp [setE, *]), hT.keep 1 rfl rfl, ?_⟩
  have hR := hT.ok 1 _ rfl
  rw [show setL W H px x y c = px from by simp [setL, *]]
  exact hR
 replace c2_ : (mayB c) = true := by simpa using c2_
 refine cFa rfl <| cont_skip <| blk_normal <| zN <| cSq <| drawn_enter 15 [1] rfl (by kernel_rfl) ?_
 refine tD 0 [1] [(0, 0), (4, 0), (5, 0), (10, 0), (12, 0), (1, 0), (6, 0), (2, 0), (7, 0), (3, 0), (8, 0), (9, 0)] 3 [9, 8, 3, 7, 2, 6, 1, 12, 10, 5, 4, 0] [(23, .slice (pB r) n cap), (29, iq (IntKind.i64.wrap (y * W))), (30, iq x), (32, cQ c)] [20, 21, 22, 24, 25, 26, 27, 28] <| wI 29 (y * W) <| tD 0 [1] [(11, 0)] 2 [11, 9, 8, 3, 7, 2, 6, 1, 12, 10, 5, 4, 0] [(31, iq (IntKind.i64.wrap ((y * W) + x)))] [] <| wI 31 ((y * W) + x) <| sT 0 [1] 13 1 33 (Instr.indexAt 39 (.slice (pB r) n cap) (iq ((y * W) + x))) (.pointer (some ⟨r, Int.toNat ((y * W) + x), none⟩)) (fun w hT => rI 24 1 w) <| dO 14 0 <| sem_stepU (Instr.storeAt 24 (.pointer (some ⟨r, Int.toNat ((y * W) + x), none⟩)) (cQ c)) (fun _ => [.ro m [iq W, iq H, .slice (pB r) n cap] 118, .gen (rowE (pB r) r n cap 24 1 (cV (px.set (Int.toNat ((y * W) + x)) c)) false)]) (fun _ => True) (by kernel_rfl) (fun w hT => store_row hT (i := 1) rfl (by kernel_rfl) (by omega)) (fun _ _ => ?_)
 refine dX 0 [1] <| dD <| zN <| zSR 1 <| bS [0] 1 0 [(8, iq 0)] <| zDNr <| rA rfl 0 (iq 0) fun w hT => ?_
 refine ⟨ret_int (by simp [setE, *]), hT.keep 1 rfl rfl, ?_⟩
 have hR := hT.ok 1 _ rfl
 rw [show setL W H px x y c = px.set (Int.toNat ((y * W) + x)) c from by simp [setL, *]]
 exact hR
theorem bld (W H : Int) (r n cap : Nat) (px : List Int) (w : World) (hT0 : Tab w w [rD (some ⟨r, 0, none⟩) r 0 n 1 (cV px)]) (hok : ImgOk W H n px) (hmay : AllMay px) :
    Calls Try.prog 60 #[.agg #[iQ W, iQ H, sL r n cap]] w fun e w' => ∃ b q : Nat, e = .returned (pT b) ∧ NewImg 118 24 w w' b W H q n n px := by
 have hw1 := hok.w1
 have hw2 := hok.w2
 have hh1 := hok.h1
 have hh2 := hok.h2
 have hnum := hok.num
 have hlen := hok.len
 have hle := hok.le
 refine eN [(0, .agg #[iq W, iq H, .slice (pB r) n cap])] Try.func60 Try.ntmps60 rfl hT0 ?_
 refine zSR 2 <| bW [0, 0] 2 0 (fun b1 => [(1, .pointer (pB b1))]) (fun b1 => [.cells b1 [iq W, iq H, .slice (pB r) n cap] 41 true, rD (pB r) r 0 n 1 (cV px)]) [1] fun b1 => ?_
 refine zDNSR 10 <| bD [0, 0, 0, 0] 4 6 [(8, iq W), (10, iq H)] [7, 9] <| pS 5 5 <| cG (d := 11) (α := Nat × Nat × Nat) (fun x_ => .tuple #[.pointer (pB x_.1), iq 0]) (fun x_ => [.cells x_.1 [iq W, iq H, .slice (pB x_.2.1) x_.2.2 x_.2.2] 118 true, .gen (rowE (pB x_.2.1) x_.2.1 x_.2.2 x_.2.2 24 1 (cV (List.replicate x_.2.2 0)) true), .cells b1 [iq W, iq H, .slice (pB r) n cap] 41 true, rD (pB r) r 0 n 1 (cV px)]) (fun x_ => (x_.2.2 : Int) = W * H) (fun w hT => (imgNew W H w ⟨hw1, hw2, hh1, hh2⟩).mono fun e w' ⟨b_, r_, n_, he_, hn_, hi_⟩ => ⟨(b_, r_, n_), he_, hn_, hT.addImg hi_⟩) ?_
 rintro ⟨b2, r2, n2⟩ hn2
 replace hn2 : (n2 : Int) = W * H := hn2
 have hnn : n2 = n := by have := hok.num; omega
 refine bD [0, 0, 0, 0, 0] 10 0 [(3, .pointer (pB b2)), (4, iq 0)] [6, 12, 13] <| zDNSSR 6 <| bD [0, 0, 0, 0, 0, 0] 6 0 [(19, .bool false)] [14, 15, 16, 17, 18] <| zDN <| zFKNSSR 1 <| bD [0] 1 0 [(5, iq 0)] [] <| zDNB <| cont_rowEq (k := .u32) 1 (List.replicate n2 0) (bldP px 0) rfl (by rw [bldP_zero, hlen, hnn]) ?_
 refine cL (α := Nat) (fun x_ : Nat => x_ ≤ n2) (fun x_ : Nat => [(1, .pointer (pB b1)), (3, .pointer (pB b2)), (5, iq (x_ : Int))]) (fun x_ : Nat => [.cells b2 [iq W, iq H, .slice (pB r2) n2 n2] 118 true, .gen (rowE (pB r2) r2 n2 n2 24 1 (cV (bldP px x_)) true), .cells b1 [iq W, iq H, .slice (pB r) n cap] 41 true, rD (pB r) r 0 n 1 (cV px)]) (fun x_ : Nat => n2 - x_) 0 (by omega) ?_
 rintro i hinv3_
 replace hinv3_ : i ≤ n2 := hinv3_
 have hi := hinv3_
 have hem := emod_range i hw1
 refine zSSR 5 <| bD [0, 0, 2, 0, 0] 5 0 [(24, .bool (decide ((i : Int) < (n : Int))))] [20, 21, 22, 23] <| zDN <| sD 24 rfl (fun c4_ => ?_) fun c4_ => ?_
 ·
  refine cTr rfl <| cont_skip <| zN <| cSq <| cont_block <| drawn_enter 15 [1] rfl (by kernel_rfl) ?_
  refine tD 0 [1] [(0, 0), (1, 0), (2, 0), (5, 0), (6, 0), (9, 0), (11, 0), (3, 2), (7, 2), (10, 2)] 5 [10, 7, 3, 11, 9, 6, 5, 2, 1, 0] [(27, .pointer (pB b2)), (28, iq (i : Int)), (30, iq W), (32, iq (i : Int)), (34, iq W), (37, .slice (pB r) n cap), (38, iq (i : Int))] [29, 33, 36] <| sT 0 [1] 4 4 31 (bopS .rem 3 (.tmp 28) (.tmp 30) (iq (i : Int)) (iq W)) (iq ((i : Int).tmod W)) (fun w hT => run_rem (by omega) w) <| rC 31 (iq ((i : Int) % W)) rfl (tmodI (by omega)) <| sT 0 [1] 8 3 35 (bopS .quo 3 (.tmp 32) (.tmp 34) (iq (i : Int)) (iq W)) (iq (IntKind.i64.wrap ((i : Int).tdiv W))) (fun w hT => run_quo (by omega) w) <| rC 35 (iq ((i : Int) / W)) rfl (tdivI (by omega) (by omega) (by omega)) <| sT 0 [1] 12 2 39 (Instr.indexAt 39 (.slice (pB r) n cap) (iq (i : Int))) (.pointer (some ⟨r, i, none⟩)) (fun w hT => rI 24 1 w) <| sT 0 [1] 13 1 40 (Instr.loadAt 24 (.pointer (some ⟨r, i, none⟩))) (cQ (px.getD i 0)) (fun w hT => rL (Rd.cell0 (hT 3 _ rfl) (i) _ (ivals_get (by omega)))) <| dO 14 0 <| cG (d := 41) (α := Unit) (fun _ => iq (setE W H ((i : Int) % W) ((i : Int) / W) (px.getD i 0))) (fun _ => [.cells b2 [iq W, iq H, .slice (pB r2) n2 n2] 118 true, .gen (rowE (pB r2) r2 n2 n2 24 1 (cV (setL W H (bldP px i) ((i : Int) % W) ((i : Int) / W) (px.getD i 0))) true), .cells b1 [iq W, iq H, .slice (pB r) n cap] 41 true, rD (pB r) r 0 n 1 (cV px)]) (fun _ => True) (fun w hT => (imgSet b2 W H r2 n2 n2 (bldP px i) ((i : Int) % W) ((i : Int) / W) (px.getD i 0) w ⟨hT.ok 0 _ rfl, hT.ok 1 _ rfl, fun hne => hT.disj 0 1 _ _ (by omega) rfl rfl (.inr rfl) _ rfl ⟨hne, by simp⟩⟩ (imgOk_of ⟨hw1, hw2, hh1, hh2⟩ hn2 (by rw [bldP_length, hnn]; exact hlen) (bldP_may hmay i)) (hmay.get (by omega)).2).mono fun e w' ⟨he_, hk_, hr_⟩ => ⟨(), he_, trivial, hT.keepBut hk_ (i := 1) rfl hr_⟩) (fun _ _ => ?_)
  refine dX 0 [1] <| dD <| blk_normal <| zN <| cRg 3 rfl <| bD [0, 0] 2 1 [(26, iq (IntKind.i64.wrap ((i : Int) + 1)))] [25] <| wI 26 ((i : Int) + 1) <| bD [0] 3 0 [(5, iq ((i : Int) + 1))] [] <| zDN <| cont_rowEq (k := .u32) 1 (setL W H (bldP px i) ((i : Int) % W) ((i : Int) / W) (px.getD i 0)) (bldP px (i + 1)) rfl ((setL_at hok.w1 hok.num (by omega) (hmay.get (by omega)).1).trans (bldP_set (by omega))) ?_
  refine cA (i + 1) (show (i + 1) ≤ n2 from (by omega))
 refine zFXxxeNSR 2 <| bS [0, 0] 2 0 [(2, .pointer (pB b2))] <| fG 2 <| zDNr <| rA rfl 0 (.pointer (pB b2)) fun w hT => ?_
 replace hT := hT.erase 2 (fun e h hw => by cases h; first | rfl | cases hw)
 rw [bldP_all (by omega)] at hT
 rw [← hnn]
 exact ⟨_, _, rfl, newImg_of_tab hT⟩
theorem refHas (a b c d x y : Int) (w : World) :
    Calls Try.prog 65 #[.agg #[iQ a, iQ b, iQ c, iQ d], iQ x, iQ y] w fun e w' => e = .returned (.bool (hasB a b c d x y)) ∧ Below w.heap.size w w' := by
 refine eN [(0, .agg #[iq a, iq b, iq c, iq d]), (1, iq x), (2, iq y)] Try.func65 Try.ntmps65 rfl (Tab.start w) ?_
 refine zSR 2 <| bW [0, 0] 2 0 (fun b1 => [(1, iq x), (2, iq y), (3, .pointer (pB b1))]) (fun b1 => [.cells b1 [iq a, iq b, iq c, iq d] 53 true]) [1, 2, 3] fun b1 => ?_
 refine zDNSR 23 <| bD [0, 0, 0, 0, 0] 5 18 [(11, .bool (decide (a ≤ x)))] [7, 8, 9, 10] <| sD 11 rfl (fun c2_ => ?_) fun c2_ => ?_
 ·
  refine bD [0, 0, 0, 0, 0, 0] 11 12 [(17, .bool (decide (x < c)))] [12, 13, 14, 15, 16] <| sD 17 rfl (fun c3_ => ?_) fun c3_ => ?_
  ·
   refine bD [0, 0, 0, 0, 0, 0] 17 6 [(23, .bool (decide (b ≤ y)))] [18, 19, 20, 21, 22] <| sD 23 rfl (fun c4_ => ?_) fun c4_ => ?_
   ·
    refine bS [0, 0, 0, 0, 0, 0] 23 0 [(6, .bool (decide (y < d)))] <| fG 0 <| zDNr <| rA rfl 0 (.bool (decide (y < d))) fun w hT => ?_
    exact ⟨ret_bool (by simp [hasB, *] <;> omega), hT.post rfl⟩
   refine bS [0, 0, 0, 0, 0, 0] 23 0 [(6, .bool false)] <| fG 0 <| zDNr <| rA rfl 0 (.bool false) fun w hT => ?_
   exact ⟨ret_bool (by simp [hasB, *] <;> omega), hT.post rfl⟩
  refine bS [0, 0, 0, 0, 0, 0, 0, 0, 0, 0, 0, 0] 23 0 [(6, .bool false)] <| fG 0 <| zDNr <| rA rfl 0 (.bool false) fun w hT => ?_
  exact ⟨ret_bool (by simp [hasB, *] <;> omega), hT.post rfl⟩
 refine bS [0, 0, 0, 0, 0, 0, 0, 0, 0, 0, 0, 0, 0, 0, 0, 0, 0, 0] 23 0 [(6, .bool false)] <| fG 0 <| zDNr <| rA rfl 0 (.bool false) fun w hT => ?_
 exact ⟨ret_bool (by simp [hasB, *] <;> omega), hT.post rfl⟩
end Go.Proofs.Ytlfahohbkgdabaa
namespace Go.Proofs.Ytlfahohbkgdabaa
open Go Go.RowKit
def mayR (a b c d : Int) : Bool := decide ((-1048576 ≤ a ∧ a ≤ 1048576) ∧ (-1048576 ≤ b ∧ b ≤ 1048576) ∧ (-1048576 ≤ c ∧ c ≤ 1048576) ∧ (-1048576 ≤ d ∧ d ≤ 1048576) ∧ a ≤ c ∧ b ≤ d)
theorem mayR_true {a b c d : Int} : mayR a b c d = true ↔ (-1048576 ≤ a ∧ a ≤ 1048576) ∧ (-1048576 ≤ b ∧ b ≤ 1048576) ∧ (-1048576 ≤ c ∧ c ≤ 1048576) ∧ (-1048576 ≤ d ∧ d ≤ 1048576) ∧ a ≤ c ∧ b ≤ d := by unfold mayR; rw [decide_eq_true_eq]
def chkR (a b c d : Int) : Rect := if mayR a b c d then ⟨a, b, c, d⟩ else ⟨0, 0, 0, 0⟩
def chkE (a b c d : Int) : Int := if mayR a b c d then 0 else 4
def sclR (a b c d s : Int) : Rect := if s < 1 ∨ s > 8 ∨ mayR a b c d = false then ⟨0, 0, 0, 0⟩ else chkR (a * s) (b * s) (c * s) (d * s)
def sclE (a b c d s : Int) : Int := if s < 1 ∨ s > 8 then 1 else if mayR a b c d = false then 4 else chkE (a * s) (b * s) (c * s) (d * s)
def farM (n : Int) : Int := mn (mx n (-4194304)) 4194304
theorem farM_range (n : Int) : -4194304 ≤ farM n ∧ farM n ≤ 4194304 := by unfold farM mn mx; omega
theorem farM_id {n : Int} (h : -4194304 ≤ n ∧ n ≤ 4194304) : farM n = n := by unfold farM mn mx; omega
def movR (a b c d x y : Int) : Rect := chkR (a + farM x) (b + farM y) (c + farM x) (d + farM y)
def movE (a b c d x y : Int) : Int := chkE (a + farM x) (b + farM y) (c + farM x) (d + farM y)
def shwR (W H X Y s a b c d : Int) : Rect :=
  let r := cutR a b c d 0 0 W H
  if emptyB r.x0 r.y0 r.x1 r.y1 then ⟨0, 0, 0, 0⟩ else if sclE r.x0 r.y0 r.x1 r.y1 s ≠ 0 then ⟨0, 0, 0, 0⟩ else
    movR (sclR r.x0 r.y0 r.x1 r.y1 s).x0 (sclR r.x0 r.y0 r.x1 r.y1 s).y0 (sclR r.x0 r.y0 r.x1 r.y1 s).x1 (sclR r.x0 r.y0 r.x1 r.y1 s).y1 X Y
def shwB (W H X Y s a b c d : Int) : Bool :=
  let r := cutR a b c d 0 0 W H
  if emptyB r.x0 r.y0 r.x1 r.y1 then true else if sclE r.x0 r.y0 r.x1 r.y1 s ≠ 0 then false else
    movE (sclR r.x0 r.y0 r.x1 r.y1 s).x0 (sclR r.x0 r.y0 r.x1 r.y1 s).y0 (sclR r.x0 r.y0 r.x1 r.y1 s).x1 (sclR r.x0 r.y0 r.x1 r.y1 s).y1 X Y == 0
theorem sclR_range (a b c d s : Int) : (-1048576 ≤ (sclR a b c d s).x0 ∧ (sclR a b c d s).x0 ≤ 1048576) ∧ (-1048576 ≤ (sclR a b c d s).y0 ∧ (sclR a b c d s).y0 ≤ 1048576) ∧ (-1048576 ≤ (sclR a b c d s).x1 ∧ (sclR a b c d s).x1 ≤ 1048576) ∧ (-1048576 ≤ (sclR a b c d s).y1 ∧ (sclR a b c d s).y1 ≤ 1048576) := by
  unfold sclR chkR
  split
  · decide
  · split
    · rename_i h
      have := mayR_true.1 h
      simp only
      omega
    · decide
def gl (xs : List Int) (i : Nat) : List Int := (xs.take i).map goodC
theorem mul_scale {x s : Int} {m : Int} (h0 : 0 ≤ x) (h1 : x ≤ m) (hs : 1 ≤ s ∧ s ≤ 8) : 0 ≤ x * s ∧ x * s ≤ m * 8 ∧ x ≤ x * s :=
  ⟨Int.mul_nonneg h0 (by omega), Int.mul_le_mul h1 (by omega) (by omega) (by omega), by have := Int.mul_le_mul_of_nonneg_left (show 1 ≤ s by omega) h0; omega⟩
theorem shw_of {W H X Y s a b c d : Int} (hs : 1 ≤ s ∧ s ≤ 8) (hX : -1048576 ≤ X ∧ X ≤ 1048576) (hY : -1048576 ≤ Y ∧ Y ≤ 1048576) (hw : 1 ≤ W ∧ W ≤ 256) (hh : 1 ≤ H ∧ H ≤ 256) {r : Rect} (hr : r = cutR a b c d 0 0 W H) (hne : emptyB r.x0 r.y0 r.x1 r.y1 = false) :
    shwR W H X Y s a b c d = chkR (X + r.x0 * s) (Y + r.y0 * s) (X + r.x1 * s) (Y + r.y1 * s) ∧ shwB W H X Y s a b c d = mayR (X + r.x0 * s) (Y + r.y0 * s) (X + r.x1 * s) (Y + r.y1 * s) := by
  obtain ⟨h1, h2, h3, h4, h5, h6⟩ := cut_in a b c d (W := W) (H := H) hw.1 hh.1
  unfold shwR shwB
  dsimp only
  rw [← hr] at h1 h2 h3 h4 h5 h6 ⊢
  have hem := emptyB_false.1 hne
  have m0 := mul_scale (m := 256) h1 (by omega) hs
  have m1 := mul_scale (m := 256) (show 0 ≤ r.x1 by omega) (by omega) hs
  have m2 := mul_scale (m := 256) h4 (by omega) hs
  have m3 := mul_scale (m := 256) (show 0 ≤ r.y1 by omega) (by omega) hs
  have l1 := Int.mul_le_mul_of_nonneg_right (show r.x0 ≤ r.x1 by omega) (show 0 ≤ s by omega)
  have l2 := Int.mul_le_mul_of_nonneg_right (show r.y0 ≤ r.y1 by omega) (show 0 ≤ s by omega)
  have hm1 : mayR r.x0 r.y0 r.x1 r.y1 = true := mayR_true.2 (by omega)
  have hm2 : mayR (r.x0 * s) (r.y0 * s) (r.x1 * s) (r.y1 * s) = true := mayR_true.2 (by omega)
  have hE : sclE r.x0 r.y0 r.x1 r.y1 s = 0 := by unfold sclE chkE; rw [if_neg (by omega), hm1, if_neg (by simp), hm2]; rfl
  have hR : sclR r.x0 r.y0 r.x1 r.y1 s = ⟨r.x0 * s, r.y0 * s, r.x1 * s, r.y1 * s⟩ := by unfold sclR chkR; rw [if_neg (by rw [hm1]; simp; omega), hm2]; rfl
  simp only [hne, hE, hR, movR, movE, farM_id (show -4194304 ≤ X ∧ X ≤ 4194304 by omega), farM_id (show -4194304 ≤ Y ∧ Y ≤ 4194304 by omega)]
  rw [Int.add_comm (r.x0 * s) X, Int.add_comm (r.y0 * s) Y, Int.add_comm (r.x1 * s) X, Int.add_comm (r.y1 * s) Y]
  refine ⟨by simp, ?_⟩
  simp only [chkE, Bool.false_eq_true, if_false, ne_eq, not_true_eq_false]
  cases mayR (X + r.x0 * s) (Y + r.y0 * s) (X + r.x1 * s) (Y + r.y1 * s) <;> rfl
def rboxR (W H X Y s a b c d : Int) : Rect :=
  let r := cutR a b c d 0 0 W H
  if emptyB r.x0 r.y0 r.x1 r.y1 then ⟨0, 0, 0, 0⟩ else ⟨X + r.x0 * s, Y + r.y0 * s, X + r.x1 * s, Y + r.y1 * s⟩
theorem box_same {W H X Y s a b c d : Int} (hs : 1 ≤ s ∧ s ≤ 8) (hX : -1000000 ≤ X ∧ X ≤ 1000000) (hY : -1000000 ≤ Y ∧ Y ≤ 1000000) (hw : 1 ≤ W ∧ W ≤ 256) (hh : 1 ≤ H ∧ H ≤ 256) : shwR W H X Y s a b c d = rboxR W H X Y s a b c d := by
  cases hne : emptyB (cutR a b c d 0 0 W H).x0 (cutR a b c d 0 0 W H).y0 (cutR a b c d 0 0 W H).x1 (cutR a b c d 0 0 W H).y1 with
  | true => simp only [shwR, rboxR, hne, if_true]
  | false =>
    rw [(shw_of hs ⟨by omega, by omega⟩ ⟨by omega, by omega⟩ hw hh rfl hne).1]
    obtain ⟨h1, h2, h3, h4, h5, h6⟩ := cut_in a b c d (W := W) (H := H) hw.1 hh.1
    simp only [rboxR, hne, Bool.false_eq_true, if_false]
    generalize cutR a b c d 0 0 W H = r at *
    have m0 := mul_scale (m := 256) h1 (by omega) hs
    have m1 := mul_scale (m := 256) (show 0 ≤ r.x1 by omega) (by omega) hs
    have m2 := mul_scale (m := 256) h4 (by omega) hs
    have m3 := mul_scale (m := 256) (show 0 ≤ r.y1 by omega) (by omega) hs
    have l1 := Int.mul_le_mul_of_nonneg_right (show r.x0 ≤ r.x1 by omega) (show 0 ≤ s by omega)
    have l2 := Int.mul_le_mul_of_nonneg_right (show r.y0 ≤ r.y1 by omega) (show 0 ≤ s by omega)
    unfold chkR
    rw [if_pos (mayR_true.2 (by omega))]
end Go.Proofs.Ytlfahohbkgdabaa
namespace Go.Proofs.Ytlfahohbkgdabaa
open Go Go.RowKit
set_option maxRecDepth 100000
set_option maxHeartbeats 8000000
theorem rectMay (a b c d : Int) (w : World) :
    Calls Try.prog 123 #[.agg #[iQ a, iQ b, iQ c, iQ d]] w fun e w' => e = .returned (.bool (mayR a b c d)) ∧ Below w.heap.size w w' := by
 refine eN [(0, .agg #[iq a, iq b, iq c, iq d])] Try.func123 Try.ntmps123 rfl (Tab.start w) ?_
 refine zSR 2 <| bW [0, 0] 2 0 (fun b1 => [(1, .pointer (pB b1))]) (fun b1 => [.cells b1 [iq a, iq b, iq c, iq d] 53 true]) [1] fun b1 => ?_
 refine zDNSR 37 <| bD [0, 0, 0, 0, 0, 0, 0, 0, 0, 0, 0] 11 26 [(13, .bool (decide ((mn (mn (mn a b) c) d) ≥ (-1048576))))] [3, 4, 5, 6, 7, 8, 9, 10, 11, 12] <| sD 13 rfl (fun c2_ => ?_) fun c2_ => ?_
 ·
  refine bS [0, 0, 0, 0, 0, 0, 0, 0, 0, 0, 0, 0] 23 14 [(1, .pointer (pB b1)), (25, .bool (decide ((mx (mx (mx a b) c) d) ≤ 1048576)))] <| sD 25 rfl (fun c3_ => ?_) fun c3_ => ?_
  ·
   refine bD [0, 0, 0, 0, 0, 0, 0] 30 7 [(32, .bool (decide (a ≤ c)))] [26, 27, 28, 29, 30, 31] <| sD 32 rfl (fun c4_ => ?_) fun c4_ => ?_
   ·
    refine bS [0, 0, 0, 0, 0, 0, 0] 37 0 [(2, .bool (decide (b ≤ d)))] <| fG 0 <| zDNr <| rA rfl 0 (.bool (decide (b ≤ d))) fun w hT => ?_
    refine ⟨ret_bool ?_, hT.post rfl⟩
    rw [Bool.eq_iff_iff]
    simp only [mayR, decide_eq_true_eq, Bool.false_eq_true, true_iff, false_iff]
    try unfold mn at *
    try unfold mx at *
    omega
   refine bS [0, 0, 0, 0, 0, 0, 0] 37 0 [(2, .bool false)] <| fG 0 <| zDNr <| rA rfl 0 (.bool false) fun w hT => ?_
   refine ⟨ret_bool ?_, hT.post rfl⟩
   rw [Bool.eq_iff_iff]
   simp only [mayR, decide_eq_true_eq, Bool.false_eq_true, true_iff, false_iff]
   try unfold mn at *
   try unfold mx at *
   omega
  refine bS [0, 0, 0, 0, 0, 0, 0, 0, 0, 0, 0, 0, 0, 0] 37 0 [(2, .bool false)] <| fG 0 <| zDNr <| rA rfl 0 (.bool false) fun w hT => ?_
  refine ⟨ret_bool ?_, hT.post rfl⟩
  rw [Bool.eq_iff_iff]
  simp only [mayR, decide_eq_true_eq, Bool.false_eq_true, true_iff, false_iff]
  try unfold mn at *
  try unfold mx at *
  omega
 refine bS [0, 0, 0, 0, 0, 0, 0, 0, 0, 0, 0, 0, 0, 0, 0, 0, 0, 0, 0, 0, 0, 0, 0, 0, 0, 0] 37 0 [(2, .bool false)] <| fG 0 <| zDNr <| rA rfl 0 (.bool false) fun w hT => ?_
 refine ⟨ret_bool ?_, hT.post rfl⟩
 rw [Bool.eq_iff_iff]
 simp only [mayR, decide_eq_true_eq, Bool.false_eq_true, true_iff, false_iff]
 try unfold mn at *
 try unfold mx at *
 omega
theorem rectChk (a b c d : Int) (w : World) :
    Calls Try.prog 124 #[.agg #[iQ a, iQ b, iQ c, iQ d]] w fun e w' => e = .returned (.tuple #[.agg #[iQ ((chkR a b c d).x0), iQ ((chkR a b c d).y0), iQ ((chkR a b c d).x1), iQ ((chkR a b c d).y1)], iQ (chkE a b c d)]) ∧ Below w.heap.size w w' := by
 refine eN [(0, .agg #[iq a, iq b, iq c, iq d])] Try.func124 Try.ntmps124 rfl (Tab.start w) ?_
 refine zSR 3 <| batch2 [0, 0, 0] 3 0 (fun b1 b2 => [(1, .pointer (pB b1)), (2, .pointer (pB b2))]) (fun b1 b2 => [.cells b2 [iq 0, iq 0, iq 0, iq 0] 53 true, .cells b1 [iq a, iq b, iq c, iq d] 53 true]) rfl rfl [1, 2] (fun _ _ => rfl) (fun b1 b2 => by kernel_rfl) (fun b1 b2 => by kernel_rfl) (fun b1 b2 => ?_)
 refine zDNSSR 3 <| bD [1] 1 2 [(4, .agg #[iq a, iq b, iq c, iq d])] [] <| pS 2 1 <| cP 5 (.bool (mayR a b c d)) (fun w hT => rectMay a b c d w) <| bD [0] 3 0 [(6, .bool (!(mayR a b c d)))] [] <| zDN <| cSp 6 _ rfl (fun c3_ => ?_) fun c3_ => ?_
 ·
  replace c3_ : (mayR a b c d) = false := by simpa using c3_
  refine zTSR 3 <| bD [0, 0, 0] 3 0 [(3, iq 4)] [7] <| fG 1 <| zDNrt <| rB rfl 0 0 (.agg #[iq 0, iq 0, iq 0, iq 0]) (iq 4) fun w hT => ?_
  exact ⟨by simp [chkR, chkE, *], hT.post rfl⟩
 replace c3_ : (mayR a b c d) = true := by simpa using c3_
 refine zFKNSR 3 <| bZ [1, 0, 0] 3 0 [(2, .pointer (pB b2)), (3, iq 0)] [.cells b2 [iq a, iq b, iq c, iq d] 53 true, .cells b1 [iq a, iq b, iq c, iq d] 53 true] <| fG 1 <| zDNr <| rB rfl 0 0 (.agg #[iq a, iq b, iq c, iq d]) (iq 0) fun w hT => ?_
 exact ⟨by simp [chkR, chkE, *], hT.post rfl⟩
theorem rectScl (a b c d s : Int) (w : World) :
    Calls Try.prog 111 #[.agg #[iQ a, iQ b, iQ c, iQ d], iQ s] w fun e w' => e = .returned (.tuple #[.agg #[iQ ((sclR a b c d s).x0), iQ ((sclR a b c d s).y0), iQ ((sclR a b c d s).x1), iQ ((sclR a b c d s).y1)], iQ (sclE a b c d s)]) ∧ Below w.heap.size w w' := by
 refine eN [(0, .agg #[iq a, iq b, iq c, iq d]), (1, iq s)] Try.func111 Try.ntmps111 rfl (Tab.start w) ?_
 refine zSR 3 <| batch2 [0, 0, 0] 3 0 (fun b1 b2 => [(1, iq s), (2, .pointer (pB b1)), (4, .pointer (pB b2))]) (fun b1 b2 => [.cells b2 [iq 0, iq 0, iq 0, iq 0] 53 true, .cells b1 [iq a, iq b, iq c, iq d] 53 true]) rfl rfl [1, 2, 4] (fun _ _ => rfl) (fun b1 b2 => by kernel_rfl) (fun b1 b2 => by kernel_rfl) (fun b1 b2 => ?_)
 refine zDNS <| cont_block <| zSR 7 <| bD [0, 0, 0] 3 4 [(9, .bool (decide (s < 1)))] [7, 8] <| sD 9 rfl (fun c3_ => ?_) fun c3_ => ?_
 ·
  refine bD [0, 0, 0, 0] 7 0 [(6, .bool true)] [10, 11, 12] <| zDN <| zTSR 3 <| bD [0, 0, 0] 3 0 [(5, iq 1)] [13] <| fG 1 <| zDNr <| blk_ret <| then_ret ?_
  refine rB rfl 0 0 (.agg #[iq 0, iq 0, iq 0, iq 0]) (iq 1) fun w hT => ?_
  exact ⟨by simp [sclR, sclE, *] <;> omega, hT.post rfl⟩
 refine bD [0, 0, 0, 0] 7 0 [(6, .bool (decide (s > 8)))] [10, 11, 12] <| zDN <| sD 6 rfl (fun c4_ => ?_) fun c4_ => ?_
 ·
  refine zTSR 3 <| bD [0, 0, 0] 3 0 [(5, iq 1)] [13] <| fG 1 <| zDNr <| blk_ret <| then_ret ?_
  refine rB rfl 0 0 (.agg #[iq 0, iq 0, iq 0, iq 0]) (iq 1) fun w hT => ?_
  exact ⟨by simp [sclR, sclE, *] <;> omega, hT.post rfl⟩
 refine cFa rfl <| zSR 4 <| bD [1] 1 3 [(15, .agg #[iq a, iq b, iq c, iq d])] [] <| pS 2 2 <| cP 16 (.bool (mayR a b c d)) (fun w hT => rectMay a b c d w) <| bD [0, 0] 4 0 [(14, .bool (!(mayR a b c d)))] [17] <| zDN <| cSp 14 _ rfl (fun c5_ => ?_) fun c5_ => ?_
 ·
  replace c5_ : (mayR a b c d) = false := by simpa using c5_
  refine zTSR 3 <| bD [0, 0, 0] 3 0 [(5, iq 4)] [18] <| fG 1 <| zDNr <| blk_ret <| then_ret ?_
  refine rB rfl 0 0 (.agg #[iq 0, iq 0, iq 0, iq 0]) (iq 4) fun w hT => ?_
  exact ⟨by simp [sclR, sclE, *] <;> omega, hT.post rfl⟩
 replace c5_ : (mayR a b c d) = true := by simpa using c5_
 refine cFa rfl <| cont_skip <| blk_normal <| zN <| zSR 22 ?_
 have hm_ := mayR_true.1 ‹_›
 have hsc : ∀ x : Int, -1048576 ≤ x → x ≤ 1048576 → -8388608 ≤ x * s ∧ x * s ≤ 8388608 := fun x h1 h2 => by
   have := Int.mul_le_mul_of_nonneg_right h1 (show 0 ≤ s by omega)
   have := Int.mul_le_mul_of_nonneg_right h2 (show 0 ≤ s by omega)
   omega
 have hs1 := hsc a (by omega) (by omega)
 have hs2 := hsc b (by omega) (by omega)
 have hs3 := hsc c (by omega) (by omega)
 have hs4 := hsc d (by omega) (by omega)
 refine bD [0, 1, 0, 0] 4 18 [(22, iq (IntKind.i64.wrap (a * s)))] [19, 20, 21] <| wI 22 (a * s) <| bD [0, 1, 0, 0] 8 14 [(26, iq (IntKind.i64.wrap (b * s)))] [23, 24, 25] <| wI 26 (b * s) <| bD [0, 1, 0, 0] 12 10 [(30, iq (IntKind.i64.wrap (c * s)))] [27, 28, 29] <| wI 30 (c * s) <| bD [0, 1, 0, 0] 16 6 [(34, iq (IntKind.i64.wrap (d * s)))] [31, 32, 33] <| wI 34 (d * s) <| fG 1 <| bD [0] 17 5 [(35, .agg #[iq (a * s), iq (b * s), iq (c * s), iq (d * s)])] [] <| pS 18 4 <| cP 36 (.tuple #[.agg #[iq ((chkR (a * s) (b * s) (c * s) (d * s)).x0), iq ((chkR (a * s) (b * s) (c * s) (d * s)).y0), iq ((chkR (a * s) (b * s) (c * s) (d * s)).x1), iq ((chkR (a * s) (b * s) (c * s) (d * s)).y1)], iq (chkE (a * s) (b * s) (c * s) (d * s))]) (fun w hT => rectChk (a * s) (b * s) (c * s) (d * s) w) <| bZ [0, 0, 0, 0] 22 0 [(4, .pointer (pB b2)), (5, iq (chkE (a * s) (b * s) (c * s) (d * s)))] [.cells b2 [iq ((chkR (a * s) (b * s) (c * s) (d * s)).x0), iq ((chkR (a * s) (b * s) (c * s) (d * s)).y0), iq ((chkR (a * s) (b * s) (c * s) (d * s)).x1), iq ((chkR (a * s) (b * s) (c * s) (d * s)).y1)] 53 true] <| zDNr <| rB rfl 0 0 (.agg #[iq ((chkR (a * s) (b * s) (c * s) (d * s)).x0), iq ((chkR (a * s) (b * s) (c * s) (d * s)).y0), iq ((chkR (a * s) (b * s) (c * s) (d * s)).x1), iq ((chkR (a * s) (b * s) (c * s) (d * s)).y1)]) (iq (chkE (a * s) (b * s) (c * s) (d * s))) fun w hT => ?_
 exact ⟨by simp [sclR, sclE, *] <;> omega, hT.post rfl⟩
theorem movFar (n : Int) (w : World) :
    Calls Try.prog 125 #[iQ n] w fun e w' => e = .returned (iQ (farM n)) ∧ Below w.heap.size w w' := by
 refine eN [(0, iq n)] Try.func125 Try.ntmps125 rfl (Tab.start w) ?_
 refine zSR 1 <| bD [0] 1 0 [] [2] <| zDNSR 4 <| bS [0, 0, 0, 0] 4 0 [(2, iq (mn (mx n (-4194304)) 4194304))] <| zDNr <| rA rfl 0 (iq (mn (mx n (-4194304)) 4194304)) fun w hT => ?_
 exact ⟨rfl, hT.post rfl⟩
theorem rectMov (a b c d x y : Int) (w : World) (ha : -2097152 ≤ a ∧ a ≤ 2097152) (hb : -2097152 ≤ b ∧ b ≤ 2097152) (hc : -2097152 ≤ c ∧ c ≤ 2097152) (hd : -2097152 ≤ d ∧ d ≤ 2097152) :
    Calls Try.prog 112 #[.agg #[iQ a, iQ b, iQ c, iQ d], iQ x, iQ y] w fun e w' => e = .returned (.tuple #[.agg #[iQ ((movR a b c d x y).x0), iQ ((movR a b c d x y).y0), iQ ((movR a b c d x y).x1), iQ ((movR a b c d x y).y1)], iQ (movE a b c d x y)]) ∧ Below w.heap.size w w' := by
 have hfx := farM_range x
 have hfy := farM_range y
 refine eN [(0, .agg #[iq a, iq b, iq c, iq d]), (1, iq x), (2, iq y)] Try.func112 Try.ntmps112 rfl (Tab.start w) ?_
 refine zSR 3 <| batch2 [0, 0, 0] 3 0 (fun b1 b2 => [(1, iq x), (2, iq y), (3, .pointer (pB b1)), (6, .pointer (pB b2))]) (fun b1 b2 => [.cells b2 [iq 0, iq 0, iq 0, iq 0] 53 true, .cells b1 [iq a, iq b, iq c, iq d] 53 true]) rfl rfl [1, 2, 3, 6] (fun _ _ => rfl) (fun b1 b2 => by kernel_rfl) (fun b1 b2 => by kernel_rfl) (fun b1 b2 => ?_)
 refine zDNSR 1 <| bD [0] 1 0 [(8, .func (.func 125) #[] #[])] [] <| zDNSR 8 <| bD [0, 0] 2 6 [(9, .func (.func 125) #[] #[]), (10, iq x)] [] <| pS 3 5 <| cP 11 (iq (farM x)) (fun w hT => movFar x w) <| bD [0, 0] 5 3 [(12, .func (.func 125) #[] #[]), (13, iq y)] [] <| pS 6 2 <| cP 14 (iq (farM y)) (fun w hT => movFar y w) <| bD [0, 0] 8 0 [(1, iq (farM x)), (2, iq (farM y))] [] <| zDNSR 22 <| bD [0, 1, 0, 0] 4 18 [(18, iq (IntKind.i64.wrap (a + (farM x))))] [15, 16, 17] <| wI 18 (a + (farM x)) <| bD [0, 1, 0, 0] 8 14 [(22, iq (IntKind.i64.wrap (b + (farM y))))] [19, 20, 21] <| wI 22 (b + (farM y)) <| bD [0, 1, 0, 0] 12 10 [(26, iq (IntKind.i64.wrap (c + (farM x))))] [23, 24, 25] <| wI 26 (c + (farM x)) <| bD [0, 1, 0, 0] 16 6 [(30, iq (IntKind.i64.wrap (d + (farM y))))] [27, 28, 29] <| wI 30 (d + (farM y)) <| fG 1 <| bD [0] 17 5 [(31, .agg #[iq (a + (farM x)), iq (b + (farM y)), iq (c + (farM x)), iq (d + (farM y))])] [] <| pS 18 4 <| cP 32 (.tuple #[.agg #[iq ((chkR (a + (farM x)) (b + (farM y)) (c + (farM x)) (d + (farM y))).x0), iq ((chkR (a + (farM x)) (b + (farM y)) (c + (farM x)) (d + (farM y))).y0), iq ((chkR (a + (farM x)) (b + (farM y)) (c + (farM x)) (d + (farM y))).x1), iq ((chkR (a + (farM x)) (b + (farM y)) (c + (farM x)) (d + (farM y))).y1)], iq (chkE (a + (farM x)) (b + (farM y)) (c + (farM x)) (d + (farM y)))]) (fun w hT => rectChk (a + (farM x)) (b + (farM y)) (c + (farM x)) (d + (farM y)) w) <| bZ [0, 0, 0, 0] 22 0 [(6, .pointer (pB b2)), (7, iq (chkE (a + (farM x)) (b + (farM y)) (c + (farM x)) (d + (farM y))))] [.cells b2 [iq ((chkR (a + (farM x)) (b + (farM y)) (c + (farM x)) (d + (farM y))).x0), iq ((chkR (a + (farM x)) (b + (farM y)) (c + (farM x)) (d + (farM y))).y0), iq ((chkR (a + (farM x)) (b + (farM y)) (c + (farM x)) (d + (farM y))).x1), iq ((chkR (a + (farM x)) (b + (farM y)) (c + (farM x)) (d + (farM y))).y1)] 53 true] <| zDNr <| rB rfl 0 0 (.agg #[iq ((chkR (a + (farM x)) (b + (farM y)) (c + (farM x)) (d + (farM y))).x0), iq ((chkR (a + (farM x)) (b + (farM y)) (c + (farM x)) (d + (farM y))).y0), iq ((chkR (a + (farM x)) (b + (farM y)) (c + (farM x)) (d + (farM y))).x1), iq ((chkR (a + (farM x)) (b + (farM y)) (c + (farM x)) (d + (farM y))).y1)]) (iq (chkE (a + (farM x)) (b + (farM y)) (c + (farM x)) (d + (farM y)))) fun w hT => ?_
 exact ⟨rfl, hT.post rfl⟩
theorem layShown (m : Nat) (W H : Int) (r n cap : Nat) (px : List Int) (X Y s al ca cb cc cd : Int) (a b c d : Int) (w : World) (hI : ImgR 118 w m W H r n cap px) (hok : ImgOk W H n px) :
    Calls Try.prog 96 #[.agg #[pT m, iQ X, iQ Y, iQ s, iQ al, iQ ca, iQ cb, iQ cc, iQ cd], .agg #[iQ a, iQ b, iQ c, iQ d]] w fun e w' => e = .returned (.tuple #[.agg #[iQ ((shwR W H X Y s a b c d).x0), iQ ((shwR W H X Y s a b c d).y0), iQ ((shwR W H X Y s a b c d).x1), iQ ((shwR W H X Y s a b c d).y1)], .bool (shwB W H X Y s a b c d)]) ∧ Below w.heap.size w w' := by
 have hcap := hI.cap
 refine enter 39 [(0, .agg #[.pointer (pB m), iq X, iq Y, iq s, iq al, iq ca, iq cb, iq cc, iq cd]), (1, .agg #[iq a, iq b, iq c, iq d])] [.ro m [iq W, iq H, .slice (pB r) n cap] 118, rD (pB r) r 0 n 1 (cV px)] Try.func96 rfl Try.ntmps96 rfl (by kernel_rfl) hI.tab ?_
 refine zSR 4 <| batch3 [0, 0, 0, 0] 4 0 (fun b1 b2 b3 => [(2, .pointer (pB b1)), (3, .pointer (pB b2)), (4, .pointer (pB b3))]) (fun b1 b2 b3 => [.cells b3 [iq 0, iq 0, iq 0, iq 0] 53 true, .cells b2 [iq a, iq b, iq c, iq d] 53 true, .cells b1 [.pointer (pB m), iq X, iq Y, iq s, iq al, iq ca, iq cb, iq cc, iq cd] 106 true, .ro m [iq W, iq H, .slice (pB r) n cap] 118, rD (pB r) r 0 n 1 (cV px)]) rfl rfl [2, 3, 4] (fun _ _ _ => rfl) (fun b1 b2 b3 => by kernel_rfl) (fun b1 b2 b3 => by kernel_rfl) (fun b1 b2 b3 => ?_)
 refine zDNS <| drawn_enter 6 [1] rfl (by kernel_rfl) ?_
 refine tD 0 [1] [(1, 0), (2, 2)] 4 [2, 1] [(9, .pointer (pB m))] [8] <| drawn_two 0 3 3 rfl (by kernel_rfl) ?_ ?_
 ·
  refine oS 1 [(2, .pointer (pB b1)), (3, .pointer (pB b2)), (4, .pointer (pB b3)), (7, .agg #[iq a, iq b, iq c, iq d]), (9, .pointer (pB m))] [.cells b3 [iq 0, iq 0, iq 0, iq 0] 53 true, .cells b2 [iq a, iq b, iq c, iq d] 53 true, .cells b1 [.pointer (pB m), iq X, iq Y, iq s, iq al, iq ca, iq cb, iq cc, iq cd] 106 true, .ro m [iq W, iq H, .slice (pB r) n cap] 118, rD (pB r) r 0 n 1 (cV px)] <| dX 0 [1] <| dO 3 2 <| cP 10 (.agg #[iq 0, iq 0, iq W, iq H]) (fun w hT => imgBox m W H r n cap px  w ⟨hT.ok 3 _ rfl, hT.ok 4 _ rfl, by omega⟩ hok) <| dX 0 [1] <| dO 4 1 <| cP 11 (.agg #[iq ((cutR a b c d 0 0 W H).x0), iq ((cutR a b c d 0 0 W H).y0), iq ((cutR a b c d 0 0 W H).x1), iq ((cutR a b c d 0 0 W H).y1)]) (fun w hT => rectCut a b c d 0 0 W H w) <| dX 0 [1] <| dO 5 0 <| oS 1 [(2, .pointer (pB b1)), (3, .pointer (pB b2)), (4, .pointer (pB b3))] [.cells b3 [iq 0, iq 0, iq 0, iq 0] 53 true, .cells b2 [iq ((cutR a b c d 0 0 W H).x0), iq ((cutR a b c d 0 0 W H).y0), iq ((cutR a b c d 0 0 W H).x1), iq ((cutR a b c d 0 0 W H).y1)] 53 true, .cells b1 [.pointer (pB m), iq X, iq Y, iq s, iq al, iq ca, iq cb, iq cc, iq cd] 106 true, .ro m [iq W, iq H, .slice (pB r) n cap] 118, rD (pB r) r 0 n 1 (cV px)] <| dX 0 [1] <| dD <| zN <| zSSR 2 <| bD [1] 1 1 [(12, .agg #[iq ((cutR a b c d 0 0 W H).x0), iq ((cutR a b c d 0 0 W H).y0), iq ((cutR a b c d 0 0 W H).x1), iq ((cutR a b c d 0 0 W H).y1)])] [] <| pS 2 0 <| cP 13 (.bool (emptyB ((cutR a b c d 0 0 W H).x0) ((cutR a b c d 0 0 W H).y0) ((cutR a b c d 0 0 W H).x1) ((cutR a b c d 0 0 W H).y1))) (fun w hT => rectEmpty ((cutR a b c d 0 0 W H).x0) ((cutR a b c d 0 0 W H).y0) ((cutR a b c d 0 0 W H).x1) ((cutR a b c d 0 0 W H).y1) w) <| zDN <| cSp 13 _ rfl (fun c4_ => ?_) fun c4_ => ?_
  ·
   refine zTSR 3 <| bD [0, 0, 0] 3 0 [(5, .bool true)] [14] <| fG 1 <| fG 1 <| zDNrt <| rB rfl 0 0 (.agg #[iq 0, iq 0, iq 0, iq 0]) (.bool true) fun w hT => ?_
   exact ⟨by simp [shwR, shwB, *], hT.post rfl⟩
  refine zFKNSR 9 <| bD [1, 0, 2] 3 6 [(16, .agg #[iq ((cutR a b c d 0 0 W H).x0), iq ((cutR a b c d 0 0 W H).y0), iq ((cutR a b c d 0 0 W H).x1), iq ((cutR a b c d 0 0 W H).y1)]), (18, iq s)] [17] <| pS 4 5 <| cP 19 (.tuple #[.agg #[iq ((sclR ((cutR a b c d 0 0 W H).x0) ((cutR a b c d 0 0 W H).y0) ((cutR a b c d 0 0 W H).x1) ((cutR a b c d 0 0 W H).y1) s).x0), iq ((sclR ((cutR a b c d 0 0 W H).x0) ((cutR a b c d 0 0 W H).y0) ((cutR a b c d 0 0 W H).x1) ((cutR a b c d 0 0 W H).y1) s).y0), iq ((sclR ((cutR a b c d 0 0 W H).x0) ((cutR a b c d 0 0 W H).y0) ((cutR a b c d 0 0 W H).x1) ((cutR a b c d 0 0 W H).y1) s).x1), iq ((sclR ((cutR a b c d 0 0 W H).x0) ((cutR a b c d 0 0 W H).y0) ((cutR a b c d 0 0 W H).x1) ((cutR a b c d 0 0 W H).y1) s).y1)], iq (sclE ((cutR a b c d 0 0 W H).x0) ((cutR a b c d 0 0 W H).y0) ((cutR a b c d 0 0 W H).x1) ((cutR a b c d 0 0 W H).y1) s)]) (fun w hT => rectScl ((cutR a b c d 0 0 W H).x0) ((cutR a b c d 0 0 W H).y0) ((cutR a b c d 0 0 W H).x1) ((cutR a b c d 0 0 W H).y1) s w) <| bZ [0, 0, 0, 1, 0] 9 0 [(2, .pointer (pB b1)), (3, .pointer (pB b2)), (4, .pointer (pB b3)), (6, iq (sclE ((cutR a b c d 0 0 W H).x0) ((cutR a b c d 0 0 W H).y0) ((cutR a b c d 0 0 W H).x1) ((cutR a b c d 0 0 W H).y1) s))] [.cells b3 [iq 0, iq 0, iq 0, iq 0] 53 true, .cells b2 [iq ((sclR ((cutR a b c d 0 0 W H).x0) ((cutR a b c d 0 0 W H).y0) ((cutR a b c d 0 0 W H).x1) ((cutR a b c d 0 0 W H).y1) s).x0), iq ((sclR ((cutR a b c d 0 0 W H).x0) ((cutR a b c d 0 0 W H).y0) ((cutR a b c d 0 0 W H).x1) ((cutR a b c d 0 0 W H).y1) s).y0), iq ((sclR ((cutR a b c d 0 0 W H).x0) ((cutR a b c d 0 0 W H).y0) ((cutR a b c d 0 0 W H).x1) ((cutR a b c d 0 0 W H).y1) s).x1), iq ((sclR ((cutR a b c d 0 0 W H).x0) ((cutR a b c d 0 0 W H).y0) ((cutR a b c d 0 0 W H).x1) ((cutR a b c d 0 0 W H).y1) s).y1)] 53 true, .cells b1 [.pointer (pB m), iq X, iq Y, iq s, iq al, iq ca, iq cb, iq cc, iq cd] 106 true, .ro m [iq W, iq H, .slice (pB r) n cap] 118, rD (pB r) r 0 n 1 (cV px)] <| zDNSSR 2 <| bD [0, 0] 2 0 [(23, .bool ((sclE ((cutR a b c d 0 0 W H).x0) ((cutR a b c d 0 0 W H).y0) ((cutR a b c d 0 0 W H).x1) ((cutR a b c d 0 0 W H).y1) s) != 0))] [22] <| zDN <| sN 23 rfl (fun c5_ => ?_) fun c5_ => ?_
  ·
   refine zTSR 3 <| bD [0, 0, 0] 3 0 [(5, .bool false)] [24] <| fG 1 <| fG 1 <| zDNrt <| rB rfl 0 0 (.agg #[iq 0, iq 0, iq 0, iq 0]) (.bool false) fun w hT => ?_
   exact ⟨by simp [shwR, shwB, *], hT.post rfl⟩
  refine zFKNSR 13 ?_
  have hsr := sclR_range (cutR a b c d 0 0 W H).x0 (cutR a b c d 0 0 W H).y0 (cutR a b c d 0 0 W H).x1 (cutR a b c d 0 0 W H).y1 s
  refine bD [1, 0, 0, 2, 0, 0, 2] 7 6 [(26, .agg #[iq ((sclR ((cutR a b c d 0 0 W H).x0) ((cutR a b c d 0 0 W H).y0) ((cutR a b c d 0 0 W H).x1) ((cutR a b c d 0 0 W H).y1) s).x0), iq ((sclR ((cutR a b c d 0 0 W H).x0) ((cutR a b c d 0 0 W H).y0) ((cutR a b c d 0 0 W H).x1) ((cutR a b c d 0 0 W H).y1) s).y0), iq ((sclR ((cutR a b c d 0 0 W H).x0) ((cutR a b c d 0 0 W H).y0) ((cutR a b c d 0 0 W H).x1) ((cutR a b c d 0 0 W H).y1) s).x1), iq ((sclR ((cutR a b c d 0 0 W H).x0) ((cutR a b c d 0 0 W H).y0) ((cutR a b c d 0 0 W H).x1) ((cutR a b c d 0 0 W H).y1) s).y1)]), (29, iq X), (32, iq Y)] [27, 28, 30, 31] <| fG 2 <| pS 8 5 <| cP 33 (.tuple #[.agg #[iq ((movR ((sclR ((cutR a b c d 0 0 W H).x0) ((cutR a b c d 0 0 W H).y0) ((cutR a b c d 0 0 W H).x1) ((cutR a b c d 0 0 W H).y1) s).x0) ((sclR ((cutR a b c d 0 0 W H).x0) ((cutR a b c d 0 0 W H).y0) ((cutR a b c d 0 0 W H).x1) ((cutR a b c d 0 0 W H).y1) s).y0) ((sclR ((cutR a b c d 0 0 W H).x0) ((cutR a b c d 0 0 W H).y0) ((cutR a b c d 0 0 W H).x1) ((cutR a b c d 0 0 W H).y1) s).x1) ((sclR ((cutR a b c d 0 0 W H).x0) ((cutR a b c d 0 0 W H).y0) ((cutR a b c d 0 0 W H).x1) ((cutR a b c d 0 0 W H).y1) s).y1) X Y).x0), iq ((movR ((sclR ((cutR a b c d 0 0 W H).x0) ((cutR a b c d 0 0 W H).y0) ((cutR a b c d 0 0 W H).x1) ((cutR a b c d 0 0 W H).y1) s).x0) ((sclR ((cutR a b c d 0 0 W H).x0) ((cutR a b c d 0 0 W H).y0) ((cutR a b c d 0 0 W H).x1) ((cutR a b c d 0 0 W H).y1) s).y0) ((sclR ((cutR a b c d 0 0 W H).x0) ((cutR a b c d 0 0 W H).y0) ((cutR a b c d 0 0 W H).x1) ((cutR a b c d 0 0 W H).y1) s).x1) ((sclR ((cutR a b c d 0 0 W H).x0) ((cutR a b c d 0 0 W H).y0) ((cutR a b c d 0 0 W H).x1) ((cutR a b c d 0 0 W H).y1) s).y1) X Y).y0), iq ((movR ((sclR ((cutR a b c d 0 0 W H).x0) ((cutR a b c d 0 0 W H).y0) ((cutR a b c d 0 0 W H).x1) ((cutR a b c d 0 0 W H).y1) s).x0) ((sclR ((cutR a b c d 0 0 W H).x0) ((cutR a b c d 0 0 W H).y0) ((cutR a b c d 0 0 W H).x1) ((cutR a b c d 0 0 W H).y1) s).y0) ((sclR ((cutR a b c d 0 0 W H).x0) ((cutR a b c d 0 0 W H).y0) ((cutR a b c d 0 0 W H).x1) ((cutR a b c d 0 0 W H).y1) s).x1) ((sclR ((cutR a b c d 0 0 W H).x0) ((cutR a b c d 0 0 W H).y0) ((cutR a b c d 0 0 W H).x1) ((cutR a b c d 0 0 W H).y1) s).y1) X Y).x1), iq ((movR ((sclR ((cutR a b c d 0 0 W H).x0) ((cutR a b c d 0 0 W H).y0) ((cutR a b c d 0 0 W H).x1) ((cutR a b c d 0 0 W H).y1) s).x0) ((sclR ((cutR a b c d 0 0 W H).x0) ((cutR a b c d 0 0 W H).y0) ((cutR a b c d 0 0 W H).x1) ((cutR a b c d 0 0 W H).y1) s).y0) ((sclR ((cutR a b c d 0 0 W H).x0) ((cutR a b c d 0 0 W H).y0) ((cutR a b c d 0 0 W H).x1) ((cutR a b c d 0 0 W H).y1) s).x1) ((sclR ((cutR a b c d 0 0 W H).x0) ((cutR a b c d 0 0 W H).y0) ((cutR a b c d 0 0 W H).x1) ((cutR a b c d 0 0 W H).y1) s).y1) X Y).y1)], iq (movE ((sclR ((cutR a b c d 0 0 W H).x0) ((cutR a b c d 0 0 W H).y0) ((cutR a b c d 0 0 W H).x1) ((cutR a b c d 0 0 W H).y1) s).x0) ((sclR ((cutR a b c d 0 0 W H).x0) ((cutR a b c d 0 0 W H).y0) ((cutR a b c d 0 0 W H).x1) ((cutR a b c d 0 0 W H).y1) s).y0) ((sclR ((cutR a b c d 0 0 W H).x0) ((cutR a b c d 0 0 W H).y0) ((cutR a b c d 0 0 W H).x1) ((cutR a b c d 0 0 W H).y1) s).x1) ((sclR ((cutR a b c d 0 0 W H).x0) ((cutR a b c d 0 0 W H).y0) ((cutR a b c d 0 0 W H).x1) ((cutR a b c d 0 0 W H).y1) s).y1) X Y)]) (fun w hT => rectMov ((sclR ((cutR a b c d 0 0 W H).x0) ((cutR a b c d 0 0 W H).y0) ((cutR a b c d 0 0 W H).x1) ((cutR a b c d 0 0 W H).y1) s).x0) ((sclR ((cutR a b c d 0 0 W H).x0) ((cutR a b c d 0 0 W H).y0) ((cutR a b c d 0 0 W H).x1) ((cutR a b c d 0 0 W H).y1) s).y0) ((sclR ((cutR a b c d 0 0 W H).x0) ((cutR a b c d 0 0 W H).y0) ((cutR a b c d 0 0 W H).x1) ((cutR a b c d 0 0 W H).y1) s).x1) ((sclR ((cutR a b c d 0 0 W H).x0) ((cutR a b c d 0 0 W H).y0) ((cutR a b c d 0 0 W H).x1) ((cutR a b c d 0 0 W H).y1) s).y1) X Y w (by omega) (by omega) (by omega) (by omega)) ?_
  refine bZ [0, 0, 0, 1, 0] 13 0 [(3, .pointer (pB b2)), (4, .pointer (pB b3)), (6, iq (movE ((sclR ((cutR a b c d 0 0 W H).x0) ((cutR a b c d 0 0 W H).y0) ((cutR a b c d 0 0 W H).x1) ((cutR a b c d 0 0 W H).y1) s).x0) ((sclR ((cutR a b c d 0 0 W H).x0) ((cutR a b c d 0 0 W H).y0) ((cutR a b c d 0 0 W H).x1) ((cutR a b c d 0 0 W H).y1) s).y0) ((sclR ((cutR a b c d 0 0 W H).x0) ((cutR a b c d 0 0 W H).y0) ((cutR a b c d 0 0 W H).x1) ((cutR a b c d 0 0 W H).y1) s).x1) ((sclR ((cutR a b c d 0 0 W H).x0) ((cutR a b c d 0 0 W H).y0) ((cutR a b c d 0 0 W H).x1) ((cutR a b c d 0 0 W H).y1) s).y1) X Y))] [.cells b3 [iq 0, iq 0, iq 0, iq 0] 53 true, .cells b2 [iq ((movR ((sclR ((cutR a b c d 0 0 W H).x0) ((cutR a b c d 0 0 W H).y0) ((cutR a b c d 0 0 W H).x1) ((cutR a b c d 0 0 W H).y1) s).x0) ((sclR ((cutR a b c d 0 0 W H).x0) ((cutR a b c d 0 0 W H).y0) ((cutR a b c d 0 0 W H).x1) ((cutR a b c d 0 0 W H).y1) s).y0) ((sclR ((cutR a b c d 0 0 W H).x0) ((cutR a b c d 0 0 W H).y0) ((cutR a b c d 0 0 W H).x1) ((cutR a b c d 0 0 W H).y1) s).x1) ((sclR ((cutR a b c d 0 0 W H).x0) ((cutR a b c d 0 0 W H).y0) ((cutR a b c d 0 0 W H).x1) ((cutR a b c d 0 0 W H).y1) s).y1) X Y).x0), iq ((movR ((sclR ((cutR a b c d 0 0 W H).x0) ((cutR a b c d 0 0 W H).y0) ((cutR a b c d 0 0 W H).x1) ((cutR a b c d 0 0 W H).y1) s).x0) ((sclR ((cutR a b c d 0 0 W H).x0) ((cutR a b c d 0 0 W H).y0) ((cutR a b c d 0 0 W H).x1) ((cutR a b c d 0 0 W H).y1) s).y0) ((sclR ((cutR a b c d 0 0 W H).x0) ((cutR a b c d 0 0 W H).y0) ((cutR a b c d 0 0 W H).x1) ((cutR a b c d 0 0 W H).y1) s).x1) ((sclR ((cutR a b c d 0 0 W H).x0) ((cutR a b c d 0 0 W H).y0) ((cutR a b c d 0 0 W H).x1) ((cutR a b c d 0 0 W H).y1) s).y1) X Y).y0), iq ((movR ((sclR ((cutR a b c d 0 0 W H).x0) ((cutR a b c d 0 0 W H).y0) ((cutR a b c d 0 0 W H).x1) ((cutR a b c d 0 0 W H).y1) s).x0) ((sclR ((cutR a b c d 0 0 W H).x0) ((cutR a b c d 0 0 W H).y0) ((cutR a b c d 0 0 W H).x1) ((cutR a b c d 0 0 W H).y1) s).y0) ((sclR ((cutR a b c d 0 0 W H).x0) ((cutR a b c d 0 0 W H).y0) ((cutR a b c d 0 0 W H).x1) ((cutR a b c d 0 0 W H).y1) s).x1) ((sclR ((cutR a b c d 0 0 W H).x0) ((cutR a b c d 0 0 W H).y0) ((cutR a b c d 0 0 W H).x1) ((cutR a b c d 0 0 W H).y1) s).y1) X Y).x1), iq ((movR ((sclR ((cutR a b c d 0 0 W H).x0) ((cutR a b c d 0 0 W H).y0) ((cutR a b c d 0 0 W H).x1) ((cutR a b c d 0 0 W H).y1) s).x0) ((sclR ((cutR a b c d 0 0 W H).x0) ((cutR a b c d 0 0 W H).y0) ((cutR a b c d 0 0 W H).x1) ((cutR a b c d 0 0 W H).y1) s).y0) ((sclR ((cutR a b c d 0 0 W H).x0) ((cutR a b c d 0 0 W H).y0) ((cutR a b c d 0 0 W H).x1) ((cutR a b c d 0 0 W H).y1) s).x1) ((sclR ((cutR a b c d 0 0 W H).x0) ((cutR a b c d 0 0 W H).y0) ((cutR a b c d 0 0 W H).x1) ((cutR a b c d 0 0 W H).y1) s).y1) X Y).y1)] 53 true, .ro m [iq W, iq H, .slice (pB r) n cap] 118, rD (pB r) r 0 n 1 (cV px)] ?_
  refine zDNSR 5 <| bZ [1, 0, 0, 0, 0] 5 0 [(4, .pointer (pB b3)), (5, .bool ((movE ((sclR ((cutR a b c d 0 0 W H).x0) ((cutR a b c d 0 0 W H).y0) ((cutR a b c d 0 0 W H).x1) ((cutR a b c d 0 0 W H).y1) s).x0) ((sclR ((cutR a b c d 0 0 W H).x0) ((cutR a b c d 0 0 W H).y0) ((cutR a b c d 0 0 W H).x1) ((cutR a b c d 0 0 W H).y1) s).y0) ((sclR ((cutR a b c d 0 0 W H).x0) ((cutR a b c d 0 0 W H).y0) ((cutR a b c d 0 0 W H).x1) ((cutR a b c d 0 0 W H).y1) s).x1) ((sclR ((cutR a b c d 0 0 W H).x0) ((cutR a b c d 0 0 W H).y0) ((cutR a b c d 0 0 W H).x1) ((cutR a b c d 0 0 W H).y1) s).y1) X Y) == 0))] [.cells b3 [iq ((movR ((sclR ((cutR a b c d 0 0 W H).x0) ((cutR a b c d 0 0 W H).y0) ((cutR a b c d 0 0 W H).x1) ((cutR a b c d 0 0 W H).y1) s).x0) ((sclR ((cutR a b c d 0 0 W H).x0) ((cutR a b c d 0 0 W H).y0) ((cutR a b c d 0 0 W H).x1) ((cutR a b c d 0 0 W H).y1) s).y0) ((sclR ((cutR a b c d 0 0 W H).x0) ((cutR a b c d 0 0 W H).y0) ((cutR a b c d 0 0 W H).x1) ((cutR a b c d 0 0 W H).y1) s).x1) ((sclR ((cutR a b c d 0 0 W H).x0) ((cutR a b c d 0 0 W H).y0) ((cutR a b c d 0 0 W H).x1) ((cutR a b c d 0 0 W H).y1) s).y1) X Y).x0), iq ((movR ((sclR ((cutR a b c d 0 0 W H).x0) ((cutR a b c d 0 0 W H).y0) ((cutR a b c d 0 0 W H).x1) ((cutR a b c d 0 0 W H).y1) s).x0) ((sclR ((cutR a b c d 0 0 W H).x0) ((cutR a b c d 0 0 W H).y0) ((cutR a b c d 0 0 W H).x1) ((cutR a b c d 0 0 W H).y1) s).y0) ((sclR ((cutR a b c d 0 0 W H).x0) ((cutR a b c d 0 0 W H).y0) ((cutR a b c d 0 0 W H).x1) ((cutR a b c d 0 0 W H).y1) s).x1) ((sclR ((cutR a b c d 0 0 W H).x0) ((cutR a b c d 0 0 W H).y0) ((cutR a b c d 0 0 W H).x1) ((cutR a b c d 0 0 W H).y1) s).y1) X Y).y0), iq ((movR ((sclR ((cutR a b c d 0 0 W H).x0) ((cutR a b c d 0 0 W H).y0) ((cutR a b c d 0 0 W H).x1) ((cutR a b c d 0 0 W H).y1) s).x0) ((sclR ((cutR a b c d 0 0 W H).x0) ((cutR a b c d 0 0 W H).y0) ((cutR a b c d 0 0 W H).x1) ((cutR a b c d 0 0 W H).y1) s).y0) ((sclR ((cutR a b c d 0 0 W H).x0) ((cutR a b c d 0 0 W H).y0) ((cutR a b c d 0 0 W H).x1) ((cutR a b c d 0 0 W H).y1) s).x1) ((sclR ((cutR a b c d 0 0 W H).x0) ((cutR a b c d 0 0 W H).y0) ((cutR a b c d 0 0 W H).x1) ((cutR a b c d 0 0 W H).y1) s).y1) X Y).x1), iq ((movR ((sclR ((cutR a b c d 0 0 W H).x0) ((cutR a b c d 0 0 W H).y0) ((cutR a b c d 0 0 W H).x1) ((cutR a b c d 0 0 W H).y1) s).x0) ((sclR ((cutR a b c d 0 0 W H).x0) ((cutR a b c d 0 0 W H).y0) ((cutR a b c d 0 0 W H).x1) ((cutR a b c d 0 0 W H).y1) s).y0) ((sclR ((cutR a b c d 0 0 W H).x0) ((cutR a b c d 0 0 W H).y0) ((cutR a b c d 0 0 W H).x1) ((cutR a b c d 0 0 W H).y1) s).x1) ((sclR ((cutR a b c d 0 0 W H).x0) ((cutR a b c d 0 0 W H).y0) ((cutR a b c d 0 0 W H).x1) ((cutR a b c d 0 0 W H).y1) s).y1) X Y).y1)] 53 true, .cells b2 [iq ((movR ((sclR ((cutR a b c d 0 0 W H).x0) ((cutR a b c d 0 0 W H).y0) ((cutR a b c d 0 0 W H).x1) ((cutR a b c d 0 0 W H).y1) s).x0) ((sclR ((cutR a b c d 0 0 W H).x0) ((cutR a b c d 0 0 W H).y0) ((cutR a b c d 0 0 W H).x1) ((cutR a b c d 0 0 W H).y1) s).y0) ((sclR ((cutR a b c d 0 0 W H).x0) ((cutR a b c d 0 0 W H).y0) ((cutR a b c d 0 0 W H).x1) ((cutR a b c d 0 0 W H).y1) s).x1) ((sclR ((cutR a b c d 0 0 W H).x0) ((cutR a b c d 0 0 W H).y0) ((cutR a b c d 0 0 W H).x1) ((cutR a b c d 0 0 W H).y1) s).y1) X Y).x0), iq ((movR ((sclR ((cutR a b c d 0 0 W H).x0) ((cutR a b c d 0 0 W H).y0) ((cutR a b c d 0 0 W H).x1) ((cutR a b c d 0 0 W H).y1) s).x0) ((sclR ((cutR a b c d 0 0 W H).x0) ((cutR a b c d 0 0 W H).y0) ((cutR a b c d 0 0 W H).x1) ((cutR a b c d 0 0 W H).y1) s).y0) ((sclR ((cutR a b c d 0 0 W H).x0) ((cutR a b c d 0 0 W H).y0) ((cutR a b c d 0 0 W H).x1) ((cutR a b c d 0 0 W H).y1) s).x1) ((sclR ((cutR a b c d 0 0 W H).x0) ((cutR a b c d 0 0 W H).y0) ((cutR a b c d 0 0 W H).x1) ((cutR a b c d 0 0 W H).y1) s).y1) X Y).y0), iq ((movR ((sclR ((cutR a b c d 0 0 W H).x0) ((cutR a b c d 0 0 W H).y0) ((cutR a b c d 0 0 W H).x1) ((cutR a b c d 0 0 W H).y1) s).x0) ((sclR ((cutR a b c d 0 0 W H).x0) ((cutR a b c d 0 0 W H).y0) ((cutR a b c d 0 0 W H).x1) ((cutR a b c d 0 0 W H).y1) s).y0) ((sclR ((cutR a b c d 0 0 W H).x0) ((cutR a b c d 0 0 W H).y0) ((cutR a b c d 0 0 W H).x1) ((cutR a b c d 0 0 W H).y1) s).x1) ((sclR ((cutR a b c d 0 0 W H).x0) ((cutR a b c d 0 0 W H).y0) ((cutR a b c d 0 0 W H).x1) ((cutR a b c d 0 0 W H).y1) s).y1) X Y).x1), iq ((movR ((sclR ((cutR a b c d 0 0 W H).x0) ((cutR a b c d 0 0 W H).y0) ((cutR a b c d 0 0 W H).x1) ((cutR a b c d 0 0 W H).y1) s).x0) ((sclR ((cutR a b c d 0 0 W H).x0) ((cutR a b c d 0 0 W H).y0) ((cutR a b c d 0 0 W H).x1) ((cutR a b c d 0 0 W H).y1) s).y0) ((sclR ((cutR a b c d 0 0 W H).x0) ((cutR a b c d 0 0 W H).y0) ((cutR a b c d 0 0 W H).x1) ((cutR a b c d 0 0 W H).y1) s).x1) ((sclR ((cutR a b c d 0 0 W H).x0) ((cutR a b c d 0 0 W H).y0) ((cutR a b c d 0 0 W H).x1) ((cutR a b c d 0 0 W H).y1) s).y1) X Y).y1)] 53 true, .ro m [iq W, iq H, .slice (pB r) n cap] 118, rD (pB r) r 0 n 1 (cV px)] <| fG 1 <| zDNr ?_
  refine rB rfl 0 0 (.agg #[iq ((movR ((sclR ((cutR a b c d 0 0 W H).x0) ((cutR a b c d 0 0 W H).y0) ((cutR a b c d 0 0 W H).x1) ((cutR a b c d 0 0 W H).y1) s).x0) ((sclR ((cutR a b c d 0 0 W H).x0) ((cutR a b c d 0 0 W H).y0) ((cutR a b c d 0 0 W H).x1) ((cutR a b c d 0 0 W H).y1) s).y0) ((sclR ((cutR a b c d 0 0 W H).x0) ((cutR a b c d 0 0 W H).y0) ((cutR a b c d 0 0 W H).x1) ((cutR a b c d 0 0 W H).y1) s).x1) ((sclR ((cutR a b c d 0 0 W H).x0) ((cutR a b c d 0 0 W H).y0) ((cutR a b c d 0 0 W H).x1) ((cutR a b c d 0 0 W H).y1) s).y1) X Y).x0), iq ((movR ((sclR ((cutR a b c d 0 0 W H).x0) ((cutR a b c d 0 0 W H).y0) ((cutR a b c d 0 0 W H).x1) ((cutR a b c d 0 0 W H).y1) s).x0) ((sclR ((cutR a b c d 0 0 W H).x0) ((cutR a b c d 0 0 W H).y0) ((cutR a b c d 0 0 W H).x1) ((cutR a b c d 0 0 W H).y1) s).y0) ((sclR ((cutR a b c d 0 0 W H).x0) ((cutR a b c d 0 0 W H).y0) ((cutR a b c d 0 0 W H).x1) ((cutR a b c d 0 0 W H).y1) s).x1) ((sclR ((cutR a b c d 0 0 W H).x0) ((cutR a b c d 0 0 W H).y0) ((cutR a b c d 0 0 W H).x1) ((cutR a b c d 0 0 W H).y1) s).y1) X Y).y0), iq ((movR ((sclR ((cutR a b c d 0 0 W H).x0) ((cutR a b c d 0 0 W H).y0) ((cutR a b c d 0 0 W H).x1) ((cutR a b c d 0 0 W H).y1) s).x0) ((sclR ((cutR a b c d 0 0 W H).x0) ((cutR a b c d 0 0 W H).y0) ((cutR a b c d 0 0 W H).x1) ((cutR a b c d 0 0 W H).y1) s).y0) ((sclR ((cutR a b c d 0 0 W H).x0) ((cutR a b c d 0 0 W H).y0) ((cutR a b c d 0 0 W H).x1) ((cutR a b c d 0 0 W H).y1) s).x1) ((sclR ((cutR a b c d 0 0 W H).x0) ((cutR a b c d 0 0 W H).y0) ((cutR a b c d 0 0 W H).x1) ((cutR a b c d 0 0 W H).y1) s).y1) X Y).x1), iq ((movR ((sclR ((cutR a b c d 0 0 W H).x0) ((cutR a b c d 0 0 W H).y0) ((cutR a b c d 0 0 W H).x1) ((cutR a b c d 0 0 W H).y1) s).x0) ((sclR ((cutR a b c d 0 0 W H).x0) ((cutR a b c d 0 0 W H).y0) ((cutR a b c d 0 0 W H).x1) ((cutR a b c d 0 0 W H).y1) s).y0) ((sclR ((cutR a b c d 0 0 W H).x0) ((cutR a b c d 0 0 W H).y0) ((cutR a b c d 0 0 W H).x1) ((cutR a b c d 0 0 W H).y1) s).x1) ((sclR ((cutR a b c d 0 0 W H).x0) ((cutR a b c d 0 0 W H).y0) ((cutR a b c d 0 0 W H).x1) ((cutR a b c d 0 0 W H).y1) s).y1) X Y).y1)]) (.bool ((movE ((sclR ((cutR a b c d 0 0 W H).x0) ((cutR a b c d 0 0 W H).y0) ((cutR a b c d 0 0 W H).x1) ((cutR a b c d 0 0 W H).y1) s).x0) ((sclR ((cutR a b c d 0 0 W H).x0) ((cutR a b c d 0 0 W H).y0) ((cutR a b c d 0 0 W H).x1) ((cutR a b c d 0 0 W H).y1) s).y0) ((sclR ((cutR a b c d 0 0 W H).x0) ((cutR a b c d 0 0 W H).y0) ((cutR a b c d 0 0 W H).x1) ((cutR a b c d 0 0 W H).y1) s).x1) ((sclR ((cutR a b c d 0 0 W H).x0) ((cutR a b c d 0 0 W H).y0) ((cutR a b c d 0 0 W H).x1) ((cutR a b c d 0 0 W H).y1) s).y1) X Y) == 0)) fun w hT => ?_
  exact ⟨by simp [shwR, shwB, *], hT.post rfl⟩
 refine cP 10 (.agg #[iq 0, iq 0, iq W, iq H]) (fun w hT => imgBox m W H r n cap px  w ⟨hT.ok 3 _ rfl, hT.ok 4 _ rfl, by omega⟩ hok) <| dX 0 [1] <| dO 0 2 <| oS 1 [(2, .pointer (pB b1)), (3, .pointer (pB b2)), (4, .pointer (pB b3)), (7, .agg #[iq a, iq b, iq c, iq d]), (10, .agg #[iq 0, iq 0, iq W, iq H])] [.cells b3 [iq 0, iq 0, iq 0, iq 0] 53 true, .cells b2 [iq a, iq b, iq c, iq d] 53 true, .cells b1 [.pointer (pB m), iq X, iq Y, iq s, iq al, iq ca, iq cb, iq cc, iq cd] 106 true, .ro m [iq W, iq H, .slice (pB r) n cap] 118, rD (pB r) r 0 n 1 (cV px)] <| dX 0 [1] <| dO 4 1 <| cP 11 (.agg #[iq ((cutR a b c d 0 0 W H).x0), iq ((cutR a b c d 0 0 W H).y0), iq ((cutR a b c d 0 0 W H).x1), iq ((cutR a b c d 0 0 W H).y1)]) (fun w hT => rectCut a b c d 0 0 W H w) <| dX 0 [1] <| dO 5 0 <| oS 1 [(2, .pointer (pB b1)), (3, .pointer (pB b2)), (4, .pointer (pB b3))] [.cells b3 [iq 0, iq 0, iq 0, iq 0] 53 true, .cells b2 [iq ((cutR a b c d 0 0 W H).x0), iq ((cutR a b c d 0 0 W H).y0), iq ((cutR a b c d 0 0 W H).x1), iq ((cutR a b c d 0 0 W H).y1)] 53 true, .cells b1 [.pointer (pB m), iq X, iq Y, iq s, iq al, iq ca, iq cb, iq cc, iq cd] 106 true, .ro m [iq W, iq H, .slice (pB r) n cap] 118, rD (pB r) r 0 n 1 (cV px)] <| dX 0 [1] <| dD <| zN <| zSSR 2 <| bD [1] 1 1 [(12, .agg #[iq ((cutR a b c d 0 0 W H).x0), iq ((cutR a b c d 0 0 W H).y0), iq ((cutR a b c d 0 0 W H).x1), iq ((cutR a b c d 0 0 W H).y1)])] [] <| pS 2 0 <| cP 13 (.bool (emptyB ((cutR a b c d 0 0 W H).x0) ((cutR a b c d 0 0 W H).y0) ((cutR a b c d 0 0 W H).x1) ((cutR a b c d 0 0 W H).y1))) (fun w hT => rectEmpty ((cutR a b c d 0 0 W H).x0) ((cutR a b c d 0 0 W H).y0) ((cutR a b c d 0 0 W H).x1) ((cutR a b c d 0 0 W H).y1) w) <| zDN <| cSp 13 _ rfl (fun c6_ => ?_) fun c6_ => ?_
 ·
  refine zTSR 3 <| bD [0, 0, 0] 3 0 [(5, .bool true)] [14] <| fG 1 <| fG 1 <| zDNrt <| rB rfl 0 0 (.agg #[iq 0, iq 0, iq 0, iq 0]) (.bool true) fun w hT => ?_
  exact ⟨by simp [shwR, shwB, *], hT.post rfl⟩
 refine zFKNSR 9 <| bD [1, 0, 2] 3 6 [(16, .agg #[iq ((cutR a b c d 0 0 W H).x0), iq ((cutR a b c d 0 0 W H).y0), iq ((cutR a b c d 0 0 W H).x1), iq ((cutR a b c d 0 0 W H).y1)]), (18, iq s)] [17] <| pS 4 5 <| cP 19 (.tuple #[.agg #[iq ((sclR ((cutR a b c d 0 0 W H).x0) ((cutR a b c d 0 0 W H).y0) ((cutR a b c d 0 0 W H).x1) ((cutR a b c d 0 0 W H).y1) s).x0), iq ((sclR ((cutR a b c d 0 0 W H).x0) ((cutR a b c d 0 0 W H).y0) ((cutR a b c d 0 0 W H).x1) ((cutR a b c d 0 0 W H).y1) s).y0), iq ((sclR ((cutR a b c d 0 0 W H).x0) ((cutR a b c d 0 0 W H).y0) ((cutR a b c d 0 0 W H).x1) ((cutR a b c d 0 0 W H).y1) s).x1), iq ((sclR ((cutR a b c d 0 0 W H).x0) ((cutR a b c d 0 0 W H).y0) ((cutR a b c d 0 0 W H).x1) ((cutR a b c d 0 0 W H).y1) s).y1)], iq (sclE ((cutR a b c d 0 0 W H).x0) ((cutR a b c d 0 0 W H).y0) ((cutR a b c d 0 0 W H).x1) ((cutR a b c d 0 0 W H).y1) s)]) (fun w hT => rectScl ((cutR a b c d 0 0 W H).x0) ((cutR a b c d 0 0 W H).y0) ((cutR a b c d 0 0 W H).x1) ((cutR a b c d 0 0 W H).y1) s w) <| bZ [0, 0, 0, 1, 0] 9 0 [(2, .pointer (pB b1)), (3, .pointer (pB b2)), (4, .pointer (pB b3)), (6, iq (sclE ((cutR a b c d 0 0 W H).x0) ((cutR a b c d 0 0 W H).y0) ((cutR a b c d 0 0 W H).x1) ((cutR a b c d 0 0 W H).y1) s))] [.cells b3 [iq 0, iq 0, iq 0, iq 0] 53 true, .cells b2 [iq ((sclR ((cutR a b c d 0 0 W H).x0) ((cutR a b c d 0 0 W H).y0) ((cutR a b c d 0 0 W H).x1) ((cutR a b c d 0 0 W H).y1) s).x0), iq ((sclR ((cutR a b c d 0 0 W H).x0) ((cutR a b c d 0 0 W H).y0) ((cutR a b c d 0 0 W H).x1) ((cutR a b c d 0 0 W H).y1) s).y0), iq ((sclR ((cutR a b c d 0 0 W H).x0) ((cutR a b c d 0 0 W H).y0) ((cutR a b c d 0 0 W H).x1) ((cutR a b c d 0 0 W H).y1) s).x1), iq ((sclR ((cutR a b c d 0 0 W H).x0) ((cutR a b c d 0 0 W H).y0) ((cutR a b c d 0 0 W H).x1) ((cutR a b c d 0 0 W H).y1) s).y1)] 53 true, .cells b1 [.pointer (pB m), iq X, iq Y, iq s, iq al, iq ca, iq cb, iq cc, iq cd] 106 true, .ro m [iq W, iq H, .slice (pB r) n cap] 118, rD (pB r) r 0 n 1 (cV px)] <| zDNSSR 2 <| bD [0, 0] 2 0 [(23, .bool ((sclE ((cutR a b c d 0 0 W H).x0) ((cutR a b c d 0 0 W H).y0) ((cutR a b c d 0 0 W H).x1) ((cutR a b c d 0 0 W H).y1) s) != 0))] [22] <| zDN <| sN 23 rfl (fun c7_ => ?_) fun c7_ => ?_
 ·
  refine zTSR 3 <| bD [0, 0, 0] 3 0 [(5, .bool false)] [24] <| fG 1 <| fG 1 <| zDNrt <| rB rfl 0 0 (.agg #[iq 0, iq 0, iq 0, iq 0]) (.bool false) fun w hT => ?_
  exact ⟨by simp [shwR, shwB, *], hT.post rfl⟩
 refine zFKNSR 13 ?_
 have hsr := sclR_range (cutR a b c d 0 0 W H).x0 (cutR a b c d 0 0 W H).y0 (cutR a b c d 0 0 W H).x1 (cutR a b c d 0 0 W H).y1 s
 refine bD [1, 0, 0, 2, 0, 0, 2] 7 6 [(26, .agg #[iq ((sclR ((cutR a b c d 0 0 W H).x0) ((cutR a b c d 0 0 W H).y0) ((cutR a b c d 0 0 W H).x1) ((cutR a b c d 0 0 W H).y1) s).x0), iq ((sclR ((cutR a b c d 0 0 W H).x0) ((cutR a b c d 0 0 W H).y0) ((cutR a b c d 0 0 W H).x1) ((cutR a b c d 0 0 W H).y1) s).y0), iq ((sclR ((cutR a b c d 0 0 W H).x0) ((cutR a b c d 0 0 W H).y0) ((cutR a b c d 0 0 W H).x1) ((cutR a b c d 0 0 W H).y1) s).x1), iq ((sclR ((cutR a b c d 0 0 W H).x0) ((cutR a b c d 0 0 W H).y0) ((cutR a b c d 0 0 W H).x1) ((cutR a b c d 0 0 W H).y1) s).y1)]), (29, iq X), (32, iq Y)] [27, 28, 30, 31] <| fG 2 <| pS 8 5 <| cP 33 (.tuple #[.agg #[iq ((movR ((sclR ((cutR a b c d 0 0 W H).x0) ((cutR a b c d 0 0 W H).y0) ((cutR a b c d 0 0 W H).x1) ((cutR a b c d 0 0 W H).y1) s).x0) ((sclR ((cutR a b c d 0 0 W H).x0) ((cutR a b c d 0 0 W H).y0) ((cutR a b c d 0 0 W H).x1) ((cutR a b c d 0 0 W H).y1) s).y0) ((sclR ((cutR a b c d 0 0 W H).x0) ((cutR a b c d 0 0 W H).y0) ((cutR a b c d 0 0 W H).x1) ((cutR a b c d 0 0 W H).y1) s).x1) ((sclR ((cutR a b c d 0 0 W H).x0) ((cutR a b c d 0 0 W H).y0) ((cutR a b c d 0 0 W H).x1) ((cutR a b c d 0 0 W H).y1) s).y1) X Y).x0), iq ((movR ((sclR ((cutR a b c d 0 0 W H).x0) ((cutR a b c d 0 0 W H).y0) ((cutR a b c d 0 0 W H).x1) ((cutR a b c d 0 0 W H).y1) s).x0) ((sclR ((cutR a b c d 0 0 W H).x0) ((cutR a b c d 0 0 W H).y0) ((cutR a b c d 0 0 W H).x1) ((cutR a b c d 0 0 W H).y1) s).y0) ((sclR ((cutR a b c d 0 0 W H).x0) ((cutR a b c d 0 0 W H).y0) ((cutR a b c d 0 0 W H).x1) ((cutR a b c d 0 0 W H).y1) s).x1) ((sclR ((cutR a b c d 0 0 W H).x0) ((cutR a b c d 0 0 W H).y0) ((cutR a b c d 0 0 W H).x1) ((cutR a b c d 0 0 W H).y1) s).y1) X Y).y0), iq ((movR ((sclR ((cutR a b c d 0 0 W H).x0) ((cutR a b c d 0 0 W H).y0) ((cutR a b c d 0 0 W H).x1) ((cutR a b c d 0 0 W H).y1) s).x0) ((sclR ((cutR a b c d 0 0 W H).x0) ((cutR a b c d 0 0 W H).y0) ((cutR a b c d 0 0 W H).x1) ((cutR a b c d 0 0 W H).y1) s).y0) ((sclR ((cutR a b c d 0 0 W H).x0) ((cutR a b c d 0 0 W H).y0) ((cutR a b c d 0 0 W H).x1) ((cutR a b c d 0 0 W H).y1) s).x1) ((sclR ((cutR a b c d 0 0 W H).x0) ((cutR a b c d 0 0 W H).y0) ((cutR a b c d 0 0 W H).x1) ((cutR a b c d 0 0 W H).y1) s).y1) X Y).x1), iq ((movR ((sclR ((cutR a b c d 0 0 W H).x0) ((cutR a b c d 0 0 W H).y0) ((cutR a b c d 0 0 W H).x1) ((cutR a b c d 0 0 W H).y1) s).x0) ((sclR ((cutR a b c d 0 0 W H).x0) ((cutR a b c d 0 0 W H).y0) ((cutR a b c d 0 0 W H).x1) ((cutR a b c d 0 0 W H).y1) s).y0) ((sclR ((cutR a b c d 0 0 W H).x0) ((cutR a b c d 0 0 W H).y0) ((cutR a b c d 0 0 W H).x1) ((cutR a b c d 0 0 W H).y1) s).x1) ((sclR ((cutR a b c d 0 0 W H).x0) ((cutR a b c d 0 0 W H).y0) ((cutR a b c d 0 0 W H).x1) ((cutR a b c d 0 0 W H).y1) s).y1) X Y).y1)], iq (movE ((sclR ((cutR a b c d 0 0 W H).x0) ((cutR a b c d 0 0 W H).y0) ((cutR a b c d 0 0 W H).x1) ((cutR a b c d 0 0 W H).y1) s).x0) ((sclR ((cutR a b c d 0 0 W H).x0) ((cutR a b c d 0 0 W H).y0) ((cutR a b c d 0 0 W H).x1) ((cutR a b c d 0 0 W H).y1) s).y0) ((sclR ((cutR a b c d 0 0 W H).x0) ((cutR a b c d 0 0 W H).y0) ((cutR a b c d 0 0 W H).x1) ((cutR a b c d 0 0 W H).y1) s).x1) ((sclR ((cutR a b c d 0 0 W H).x0) ((cutR a b c d 0 0 W H).y0) ((cutR a b c d 0 0 W H).x1) ((cutR a b c d 0 0 W H).y1) s).y1) X Y)]) (fun w hT => rectMov ((sclR ((cutR a b c d 0 0 W H).x0) ((cutR a b c d 0 0 W H).y0) ((cutR a b c d 0 0 W H).x1) ((cutR a b c d 0 0 W H).y1) s).x0) ((sclR ((cutR a b c d 0 0 W H).x0) ((cutR a b c d 0 0 W H).y0) ((cutR a b c d 0 0 W H).x1) ((cutR a b c d 0 0 W H).y1) s).y0) ((sclR ((cutR a b c d 0 0 W H).x0) ((cutR a b c d 0 0 W H).y0) ((cutR a b c d 0 0 W H).x1) ((cutR a b c d 0 0 W H).y1) s).x1) ((sclR ((cutR a b c d 0 0 W H).x0) ((cutR a b c d 0 0 W H).y0) ((cutR a b c d 0 0 W H).x1) ((cutR a b c d 0 0 W H).y1) s).y1) X Y w (by omega) (by omega) (by omega) (by omega)) ?_
 refine bZ [0, 0, 0, 1, 0] 13 0 [(3, .pointer (pB b2)), (4, .pointer (pB b3)), (6, iq (movE ((sclR ((cutR a b c d 0 0 W H).x0) ((cutR a b c d 0 0 W H).y0) ((cutR a b c d 0 0 W H).x1) ((cutR a b c d 0 0 W H).y1) s).x0) ((sclR ((cutR a b c d 0 0 W H).x0) ((cutR a b c d 0 0 W H).y0) ((cutR a b c d 0 0 W H).x1) ((cutR a b c d 0 0 W H).y1) s).y0) ((sclR ((cutR a b c d 0 0 W H).x0) ((cutR a b c d 0 0 W H).y0) ((cutR a b c d 0 0 W H).x1) ((cutR a b c d 0 0 W H).y1) s).x1) ((sclR ((cutR a b c d 0 0 W H).x0) ((cutR a b c d 0 0 W H).y0) ((cutR a b c d 0 0 W H).x1) ((cutR a b c d 0 0 W H).y1) s).y1) X Y))] [.cells b3 [iq 0, iq 0, iq 0, iq 0] 53 true, .cells b2 [iq ((movR ((sclR ((cutR a b c d 0 0 W H).x0) ((cutR a b c d 0 0 W H).y0) ((cutR a b c d 0 0 W H).x1) ((cutR a b c d 0 0 W H).y1) s).x0) ((sclR ((cutR a b c d 0 0 W H).x0) ((cutR a b c d 0 0 W H).y0) ((cutR a b c d 0 0 W H).x1) ((cutR a b c d 0 0 W H).y1) s).y0) ((sclR ((cutR a b c d 0 0 W H).x0) ((cutR a b c d 0 0 W H).y0) ((cutR a b c d 0 0 W H).x1) ((cutR a b c d 0 0 W H).y1) s).x1) ((sclR ((cutR a b c d 0 0 W H).x0) ((cutR a b c d 0 0 W H).y0) ((cutR a b c d 0 0 W H).x1) ((cutR a b c d 0 0 W H).y1) s).y1) X Y).x0), iq ((movR ((sclR ((cutR a b c d 0 0 W H).x0) ((cutR a b c d 0 0 W H).y0) ((cutR a b c d 0 0 W H).x1) ((cutR a b c d 0 0 W H).y1) s).x0) ((sclR ((cutR a b c d 0 0 W H).x0) ((cutR a b c d 0 0 W H).y0) ((cutR a b c d 0 0 W H).x1) ((cutR a b c d 0 0 W H).y1) s).y0) ((sclR ((cutR a b c d 0 0 W H).x0) ((cutR a b c d 0 0 W H).y0) ((cutR a b c d 0 0 W H).x1) ((cutR a b c d 0 0 W H).y1) s).x1) ((sclR ((cutR a b c d 0 0 W H).x0) ((cutR a b c d 0 0 W H).y0) ((cutR a b c d 0 0 W H).x1) ((cutR a b c d 0 0 W H).y1) s).y1) X Y).y0), iq ((movR ((sclR ((cutR a b c d 0 0 W H).x0) ((cutR a b c d 0 0 W H).y0) ((cutR a b c d 0 0 W H).x1) ((cutR a b c d 0 0 W H).y1) s).x0) ((sclR ((cutR a b c d 0 0 W H).x0) ((cutR a b c d 0 0 W H).y0) ((cutR a b c d 0 0 W H).x1) ((cutR a b c d 0 0 W H).y1) s).y0) ((sclR ((cutR a b c d 0 0 W H).x0) ((cutR a b c d 0 0 W H).y0) ((cutR a b c d 0 0 W H).x1) ((cutR a b c d 0 0 W H).y1) s).x1) ((sclR ((cutR a b c d 0 0 W H).x0) ((cutR a b c d 0 0 W H).y0) ((cutR a b c d 0 0 W H).x1) ((cutR a b c d 0 0 W H).y1) s).y1) X Y).x1), iq ((movR ((sclR ((cutR a b c d 0 0 W H).x0) ((cutR a b c d 0 0 W H).y0) ((cutR a b c d 0 0 W H).x1) ((cutR a b c d 0 0 W H).y1) s).x0) ((sclR ((cutR a b c d 0 0 W H).x0) ((cutR a b c d 0 0 W H).y0) ((cutR a b c d 0 0 W H).x1) ((cutR a b c d 0 0 W H).y1) s).y0) ((sclR ((cutR a b c d 0 0 W H).x0) ((cutR a b c d 0 0 W H).y0) ((cutR a b c d 0 0 W H).x1) ((cutR a b c d 0 0 W H).y1) s).x1) ((sclR ((cutR a b c d 0 0 W H).x0) ((cutR a b c d 0 0 W H).y0) ((cutR a b c d 0 0 W H).x1) ((cutR a b c d 0 0 W H).y1) s).y1) X Y).y1)] 53 true, .ro m [iq W, iq H, .slice (pB r) n cap] 118, rD (pB r) r 0 n 1 (cV px)] ?_
 refine zDNSR 5 <| bZ [1, 0, 0, 0, 0] 5 0 [(4, .pointer (pB b3)), (5, .bool ((movE ((sclR ((cutR a b c d 0 0 W H).x0) ((cutR a b c d 0 0 W H).y0) ((cutR a b c d 0 0 W H).x1) ((cutR a b c d 0 0 W H).y1) s).x0) ((sclR ((cutR a b c d 0 0 W H).x0) ((cutR a b c d 0 0 W H).y0) ((cutR a b c d 0 0 W H).x1) ((cutR a b c d 0 0 W H).y1) s).y0) ((sclR ((cutR a b c d 0 0 W H).x0) ((cutR a b c d 0 0 W H).y0) ((cutR a b c d 0 0 W H).x1) ((cutR a b c d 0 0 W H).y1) s).x1) ((sclR ((cutR a b c d 0 0 W H).x0) ((cutR a b c d 0 0 W H).y0) ((cutR a b c d 0 0 W H).x1) ((cutR a b c d 0 0 W H).y1) s).y1) X Y) == 0))] [.cells b3 [iq ((movR ((sclR ((cutR a b c d 0 0 W H).x0) ((cutR a b c d 0 0 W H).y0) ((cutR a b c d 0 0 W H).x1) ((cutR a b c d 0 0 W H).y1) s).x0) ((sclR ((cutR a b c d 0 0 W H).x0) ((cutR a b c d 0 0 W H).y0) ((cutR a b c d 0 0 W H).x1) ((cutR a b c d 0 0 W H).y1) s).y0) ((sclR ((cutR a b c d 0 0 W H).x0) ((cutR a b c d 0 0 W H).y0) ((cutR a b c d 0 0 W H).x1) ((cutR a b c d 0 0 W H).y1) s).x1) ((sclR ((cutR a b c d 0 0 W H).x0) ((cutR a b c d 0 0 W H).y0) ((cutR a b c d 0 0 W H).x1) ((cutR a b c d 0 0 W H).y1) s).y1) X Y).x0), iq ((movR ((sclR ((cutR a b c d 0 0 W H).x0) ((cutR a b c d 0 0 W H).y0) ((cutR a b c d 0 0 W H).x1) ((cutR a b c d 0 0 W H).y1) s).x0) ((sclR ((cutR a b c d 0 0 W H).x0) ((cutR a b c d 0 0 W H).y0) ((cutR a b c d 0 0 W H).x1) ((cutR a b c d 0 0 W H).y1) s).y0) ((sclR ((cutR a b c d 0 0 W H).x0) ((cutR a b c d 0 0 W H).y0) ((cutR a b c d 0 0 W H).x1) ((cutR a b c d 0 0 W H).y1) s).x1) ((sclR ((cutR a b c d 0 0 W H).x0) ((cutR a b c d 0 0 W H).y0) ((cutR a b c d 0 0 W H).x1) ((cutR a b c d 0 0 W H).y1) s).y1) X Y).y0), iq ((movR ((sclR ((cutR a b c d 0 0 W H).x0) ((cutR a b c d 0 0 W H).y0) ((cutR a b c d 0 0 W H).x1) ((cutR a b c d 0 0 W H).y1) s).x0) ((sclR ((cutR a b c d 0 0 W H).x0) ((cutR a b c d 0 0 W H).y0) ((cutR a b c d 0 0 W H).x1) ((cutR a b c d 0 0 W H).y1) s).y0) ((sclR ((cutR a b c d 0 0 W H).x0) ((cutR a b c d 0 0 W H).y0) ((cutR a b c d 0 0 W H).x1) ((cutR a b c d 0 0 W H).y1) s).x1) ((sclR ((cutR a b c d 0 0 W H).x0) ((cutR a b c d 0 0 W H).y0) ((cutR a b c d 0 0 W H).x1) ((cutR a b c d 0 0 W H).y1) s).y1) X Y).x1), iq ((movR ((sclR ((cutR a b c d 0 0 W H).x0) ((cutR a b c d 0 0 W H).y0) ((cutR a b c d 0 0 W H).x1) ((cutR a b c d 0 0 W H).y1) s).x0) ((sclR ((cutR a b c d 0 0 W H).x0) ((cutR a b c d 0 0 W H).y0) ((cutR a b c d 0 0 W H).x1) ((cutR a b c d 0 0 W H).y1) s).y0) ((sclR ((cutR a b c d 0 0 W H).x0) ((cutR a b c d 0 0 W H).y0) ((cutR a b c d 0 0 W H).x1) ((cutR a b c d 0 0 W H).y1) s).x1) ((sclR ((cutR a b c d 0 0 W H).x0) ((cutR a b c d 0 0 W H).y0) ((cutR a b c d 0 0 W H).x1) ((cutR a b c d 0 0 W H).y1) s).y1) X Y).y1)] 53 true, .cells b2 [iq ((movR ((sclR ((cutR a b c d 0 0 W H).x0) ((cutR a b c d 0 0 W H).y0) ((cutR a b c d 0 0 W H).x1) ((cutR a b c d 0 0 W H).y1) s).x0) ((sclR ((cutR a b c d 0 0 W H).x0) ((cutR a b c d 0 0 W H).y0) ((cutR a b c d 0 0 W H).x1) ((cutR a b c d 0 0 W H).y1) s).y0) ((sclR ((cutR a b c d 0 0 W H).x0) ((cutR a b c d 0 0 W H).y0) ((cutR a b c d 0 0 W H).x1) ((cutR a b c d 0 0 W H).y1) s).x1) ((sclR ((cutR a b c d 0 0 W H).x0) ((cutR a b c d 0 0 W H).y0) ((cutR a b c d 0 0 W H).x1) ((cutR a b c d 0 0 W H).y1) s).y1) X Y).x0), iq ((movR ((sclR ((cutR a b c d 0 0 W H).x0) ((cutR a b c d 0 0 W H).y0) ((cutR a b c d 0 0 W H).x1) ((cutR a b c d 0 0 W H).y1) s).x0) ((sclR ((cutR a b c d 0 0 W H).x0) ((cutR a b c d 0 0 W H).y0) ((cutR a b c d 0 0 W H).x1) ((cutR a b c d 0 0 W H).y1) s).y0) ((sclR ((cutR a b c d 0 0 W H).x0) ((cutR a b c d 0 0 W H).y0) ((cutR a b c d 0 0 W H).x1) ((cutR a b c d 0 0 W H).y1) s).x1) ((sclR ((cutR a b c d 0 0 W H).x0) ((cutR a b c d 0 0 W H).y0) ((cutR a b c d 0 0 W H).x1) ((cutR a b c d 0 0 W H).y1) s).y1) X Y).y0), iq ((movR ((sclR ((cutR a b c d 0 0 W H).x0) ((cutR a b c d 0 0 W H).y0) ((cutR a b c d 0 0 W H).x1) ((cutR a b c d 0 0 W H).y1) s).x0) ((sclR ((cutR a b c d 0 0 W H).x0) ((cutR a b c d 0 0 W H).y0) ((cutR a b c d 0 0 W H).x1) ((cutR a b c d 0 0 W H).y1) s).y0) ((sclR ((cutR a b c d 0 0 W H).x0) ((cutR a b c d 0 0 W H).y0) ((cutR a b c d 0 0 W H).x1) ((cutR a b c d 0 0 W H).y1) s).x1) ((sclR ((cutR a b c d 0 0 W H).x0) ((cutR a b c d 0 0 W H).y0) ((cutR a b c d 0 0 W H).x1) ((cutR a b c d 0 0 W H).y1) s).y1) X Y).x1), iq ((movR ((sclR ((cutR a b c d 0 0 W H).x0) ((cutR a b c d 0 0 W H).y0) ((cutR a b c d 0 0 W H).x1) ((cutR a b c d 0 0 W H).y1) s).x0) ((sclR ((cutR a b c d 0 0 W H).x0) ((cutR a b c d 0 0 W H).y0) ((cutR a b c d 0 0 W H).x1) ((cutR a b c d 0 0 W H).y1) s).y0) ((sclR ((cutR a b c d 0 0 W H).x0) ((cutR a b c d 0 0 W H).y0) ((cutR a b c d 0 0 W H).x1) ((cutR a b c d 0 0 W H).y1) s).x1) ((sclR ((cutR a b c d 0 0 W H).x0) ((cutR a b c d 0 0 W H).y0) ((cutR a b c d 0 0 W H).x1) ((cutR a b c d 0 0 W H).y1) s).y1) X Y).y1)] 53 true, .ro m [iq W, iq H, .slice (pB r) n cap] 118, rD (pB r) r 0 n 1 (cV px)] <| fG 1 <| zDNr ?_
 refine rB rfl 0 0 (.agg #[iq ((movR ((sclR ((cutR a b c d 0 0 W H).x0) ((cutR a b c d 0 0 W H).y0) ((cutR a b c d 0 0 W H).x1) ((cutR a b c d 0 0 W H).y1) s).x0) ((sclR ((cutR a b c d 0 0 W H).x0) ((cutR a b c d 0 0 W H).y0) ((cutR a b c d 0 0 W H).x1) ((cutR a b c d 0 0 W H).y1) s).y0) ((sclR ((cutR a b c d 0 0 W H).x0) ((cutR a b c d 0 0 W H).y0) ((cutR a b c d 0 0 W H).x1) ((cutR a b c d 0 0 W H).y1) s).x1) ((sclR ((cutR a b c d 0 0 W H).x0) ((cutR a b c d 0 0 W H).y0) ((cutR a b c d 0 0 W H).x1) ((cutR a b c d 0 0 W H).y1) s).y1) X Y).x0), iq ((movR ((sclR ((cutR a b c d 0 0 W H).x0) ((cutR a b c d 0 0 W H).y0) ((cutR a b c d 0 0 W H).x1) ((cutR a b c d 0 0 W H).y1) s).x0) ((sclR ((cutR a b c d 0 0 W H).x0) ((cutR a b c d 0 0 W H).y0) ((cutR a b c d 0 0 W H).x1) ((cutR a b c d 0 0 W H).y1) s).y0) ((sclR ((cutR a b c d 0 0 W H).x0) ((cutR a b c d 0 0 W H).y0) ((cutR a b c d 0 0 W H).x1) ((cutR a b c d 0 0 W H).y1) s).x1) ((sclR ((cutR a b c d 0 0 W H).x0) ((cutR a b c d 0 0 W H).y0) ((cutR a b c d 0 0 W H).x1) ((cutR a b c d 0 0 W H).y1) s).y1) X Y).y0), iq ((movR ((sclR ((cutR a b c d 0 0 W H).x0) ((cutR a b c d 0 0 W H).y0) ((cutR a b c d 0 0 W H).x1) ((cutR a b c d 0 0 W H).y1) s).x0) ((sclR ((cutR a b c d 0 0 W H).x0) ((cutR a b c d 0 0 W H).y0) ((cutR a b c d 0 0 W H).x1) ((cutR a b c d 0 0 W H).y1) s).y0) ((sclR ((cutR a b c d 0 0 W H).x0) ((cutR a b c d 0 0 W H).y0) ((cutR a b c d 0 0 W H).x1) ((cutR a b c d 0 0 W H).y1) s).x1) ((sclR ((cutR a b c d 0 0 W H).x0) ((cutR a b c d 0 0 W H).y0) ((cutR a b c d 0 0 W H).x1) ((cutR a b c d 0 0 W H).y1) s).y1) X Y).x1), iq ((movR ((sclR ((cutR a b c d 0 0 W H).x0) ((cutR a b c d 0 0 W H).y0) ((cutR a b c d 0 0 W H).x1) ((cutR a b c d 0 0 W H).y1) s).x0) ((sclR ((cutR a b c d 0 0 W H).x0) ((cutR a b c d 0 0 W H).y0) ((cutR a b c d 0 0 W H).x1) ((cutR a b c d 0 0 W H).y1) s).y0) ((sclR ((cutR a b c d 0 0 W H).x0) ((cutR a b c d 0 0 W H).y0) ((cutR a b c d 0 0 W H).x1) ((cutR a b c d 0 0 W H).y1) s).x1) ((sclR ((cutR a b c d 0 0 W H).x0) ((cutR a b c d 0 0 W H).y0) ((cutR a b c d 0 0 W H).x1) ((cutR a b c d 0 0 W H).y1) s).y1) X Y).y1)]) (.bool ((movE ((sclR ((cutR a b c d 0 0 W H).x0) ((cutR a b c d 0 0 W H).y0) ((cutR a b c d 0 0 W H).x1) ((cutR a b c d 0 0 W H).y1) s).x0) ((sclR ((cutR a b c d 0 0 W H).x0) ((cutR a b c d 0 0 W H).y0) ((cutR a b c d 0 0 W H).x1) ((cutR a b c d 0 0 W H).y1) s).y0) ((sclR ((cutR a b c d 0 0 W H).x0) ((cutR a b c d 0 0 W H).y0) ((cutR a b c d 0 0 W H).x1) ((cutR a b c d 0 0 W H).y1) s).x1) ((sclR ((cutR a b c d 0 0 W H).x0) ((cutR a b c d 0 0 W H).y0) ((cutR a b c d 0 0 W H).x1) ((cutR a b c d 0 0 W H).y1) s).y1) X Y) == 0)) fun w hT => ?_
 exact ⟨by simp [shwR, shwB, *], hT.post rfl⟩
theorem layBox (m : Nat) (W H : Int) (r n cap : Nat) (px : List Int) (X Y s al ca cb cc cd : Int) (w : World) (hI : ImgR 118 w m W H r n cap px) (hok : ImgOk W H n px) :
    Calls Try.prog 69 #[.agg #[pT m, iQ X, iQ Y, iQ s, iQ al, iQ ca, iQ cb, iQ cc, iQ cd]] w fun e w' => e = .returned (.agg #[iQ ((shwR W H X Y s ca cb cc cd).x0), iQ ((shwR W H X Y s ca cb cc cd).y0), iQ ((shwR W H X Y s ca cb cc cd).x1), iQ ((shwR W H X Y s ca cb cc cd).y1)]) ∧ Below w.heap.size w w' := by
 have hcap := hI.cap
 refine enter 13 [(0, .agg #[.pointer (pB m), iq X, iq Y, iq s, iq al, iq ca, iq cb, iq cc, iq cd])] [.ro m [iq W, iq H, .slice (pB r) n cap] 118, rD (pB r) r 0 n 1 (cV px)] Try.func69 rfl Try.ntmps69 rfl (by kernel_rfl) hI.tab ?_
 refine zSR 2 <| batch2 [0, 0] 2 0 (fun b1 b2 => [(1, .pointer (pB b1)), (2, .pointer (pB b2))]) (fun b1 b2 => [.cells b2 [iq 0, iq 0, iq 0, iq 0] 53 true, .cells b1 [.pointer (pB m), iq X, iq Y, iq s, iq al, iq ca, iq cb, iq cc, iq cd] 106 true, .ro m [iq W, iq H, .slice (pB r) n cap] 118, rD (pB r) r 0 n 1 (cV px)]) rfl rfl [1, 2] (fun _ _ => rfl) (fun b1 b2 => by kernel_rfl) (fun b1 b2 => by kernel_rfl) (fun b1 b2 => ?_)
 refine zDNSR 10 <| bD [1, 0, 1] 3 7 [(6, .agg #[.pointer (pB m), iq X, iq Y, iq s, iq al, iq ca, iq cb, iq cc, iq cd]), (8, .agg #[iq ca, iq cb, iq cc, iq cd])] [7] <| fG 1 <| pS 4 6 <| cP 9 (.tuple #[.agg #[iq ((shwR W H X Y s ca cb cc cd).x0), iq ((shwR W H X Y s ca cb cc cd).y0), iq ((shwR W H X Y s ca cb cc cd).x1), iq ((shwR W H X Y s ca cb cc cd).y1)], .bool (shwB W H X Y s ca cb cc cd)]) (fun w hT => layShown m W H r n cap px X Y s al ca cb cc cd ca cb cc cd w ⟨hT.ok 1 _ rfl, hT.ok 2 _ rfl, by omega⟩ hok) <| bW [0, 0, 0, 0, 0, 0] 10 0 (fun b3 => [(2, .pointer (pB b2)), (3, .pointer (pB b3))]) (fun b3 => [.cells b3 [iq ((shwR W H X Y s ca cb cc cd).x0), iq ((shwR W H X Y s ca cb cc cd).y0), iq ((shwR W H X Y s ca cb cc cd).x1), iq ((shwR W H X Y s ca cb cc cd).y1)] 53 true, .cells b2 [iq 0, iq 0, iq 0, iq 0] 53 true, .ro m [iq W, iq H, .slice (pB r) n cap] 118, rD (pB r) r 0 n 1 (cV px)]) [2, 3] fun b3 => ?_
 refine zDNSR 2 <| bZ [0, 1] 2 0 [(2, .pointer (pB b2))] [.cells b3 [iq ((shwR W H X Y s ca cb cc cd).x0), iq ((shwR W H X Y s ca cb cc cd).y0), iq ((shwR W H X Y s ca cb cc cd).x1), iq ((shwR W H X Y s ca cb cc cd).y1)] 53 true, .cells b2 [iq ((shwR W H X Y s ca cb cc cd).x0), iq ((shwR W H X Y s ca cb cc cd).y0), iq ((shwR W H X Y s ca cb cc cd).x1), iq ((shwR W H X Y s ca cb cc cd).y1)] 53 true, .ro m [iq W, iq H, .slice (pB r) n cap] 118, rD (pB r) r 0 n 1 (cV px)] <| fG 0 <| zDNr <| rA rfl 0 (.agg #[iq ((shwR W H X Y s ca cb cc cd).x0), iq ((shwR W H X Y s ca cb cc cd).y0), iq ((shwR W H X Y s ca cb cc cd).x1), iq ((shwR W H X Y s ca cb cc cd).y1)]) fun w hT => ?_
 exact ⟨rfl, hT.post rfl⟩
theorem refEmpty (a b c d : Int) (w : World) :
    Calls Try.prog 88 #[.agg #[iQ a, iQ b, iQ c, iQ d]] w fun e w' => e = .returned (.bool (emptyB a b c d)) ∧ Below w.heap.size w w' := by
 refine eN [(0, .agg #[iq a, iq b, iq c, iq d])] Try.func88 Try.ntmps88 rfl (Tab.start w) ?_
 refine zSR 2 <| bW [0, 0] 2 0 (fun b1 => [(1, .pointer (pB b1))]) (fun b1 => [.cells b1 [iq a, iq b, iq c, iq d] 53 true]) [1] fun b1 => ?_
 refine zDNSR 13 <| bD [0, 0, 0, 0, 0, 0] 6 7 [(8, .bool (decide (a ≥ c)))] [3, 4, 5, 6, 7] <| sD 8 rfl (fun c2_ => ?_) fun c2_ => ?_
 ·
  refine bS [0, 0, 0, 0, 0, 0, 0] 13 0 [(2, .bool true)] <| fG 0 <| zDNr <| rA rfl 0 (.bool true) fun w hT => ?_
  exact ⟨ret_bool (by simp [emptyB, *] <;> omega), hT.post rfl⟩
 refine bS [0, 0, 0, 0, 0, 0, 0] 13 0 [(2, .bool (decide (b ≥ d)))] <| fG 0 <| zDNr <| rA rfl 0 (.bool (decide (b ≥ d))) fun w hT => ?_
 exact ⟨ret_bool (by simp [emptyB, *] <;> omega), hT.post rfl⟩
theorem refGood5 (A1 : Option Addr) (g1 o1 n1 cap1 : Nat) (xs1 : List Int) (sm : Bool) (mw mh : Int) (ms : Value) (X Y s al ca cb cc cd : Int) (a b : Int) (w : World) (hT0 : Tab w w [rD (A1) g1 o1 n1 1 (cV xs1)]) (hh : GoodIn a b A1 g1 o1 n1 cap1 xs1) (hX : -9223372036854775808 ≤ X ∧ X ≤ 9223372036854775807) (hY : -9223372036854775808 ≤ Y ∧ Y ≤ 9223372036854775807) (hs : -9223372036854775808 ≤ s ∧ s ≤ 9223372036854775807) (hal : -9223372036854775808 ≤ al ∧ al ≤ 9223372036854775807) :
    Calls Try.prog 46 #[.agg #[.bool sm, iQ mw, iQ mh, ms, iQ X, iQ Y, iQ s, iQ al, iQ ca, iQ cb, iQ cc, iQ cd], iQ a, iQ b, .slice A1 n1 cap1] w fun e w' => ∃ r n : Nat, e = .returned (.agg #[.bool true, iQ (1 + aroundI (aroundI a 6) 16), iQ (1 + aroundI (aroundI b 6) 16), sL r n n, iQ (aroundI X 24 - 6), iQ (aroundI Y 24 - 6), iQ (1 + aroundI s 3), iQ (aroundI al 256), iQ ca, iQ cb, iQ cc, iQ cd]) ∧ (n : Int) = (1 + aroundI (aroundI a 6) 16) * (1 + aroundI (aroundI b 6) 16) ∧ Tab w w' [oE r n n 24 1 (cV (goodP n xs1 n))] := by
 obtain ⟨ha, hb, hl1, hc1, hm1, hx1, hat1⟩ := hh
 have hqa := aroundI_range a (m := 6) (by omega)
 have hqb := aroundI_range b (m := 6) (by omega)
 refine eN [(0, .agg #[.bool sm, iq mw, iq mh, ms, iq X, iq Y, iq s, iq al, iq ca, iq cb, iq cc, iq cd]), (1, iq a), (2, iq b), (3, .slice A1 n1 cap1)] Try.func46 Try.ntmps46 rfl hT0 ?_
 refine zSR 2 <| batch2 [0, 0] 2 0 (fun b1 b2 => [(1, iq a), (2, iq b), (3, .slice A1 n1 cap1), (4, .pointer (pB b1)), (8, .pointer (pB b2))]) (fun b1 b2 => [.cells b2 [.bool false, iq 0, iq 0, .slice none 0 0, iq 0, iq 0, iq 0, iq 0, iq 0, iq 0, iq 0, iq 0] 93 true, .cells b1 [.bool sm, iq mw, iq mh, ms, iq X, iq Y, iq s, iq al, iq ca, iq cb, iq cc, iq cd] 93 true, rD (A1) g1 o1 n1 1 (cV xs1)]) rfl rfl [1, 2, 3, 4, 8] (fun _ _ => rfl) (fun b1 b2 => by kernel_rfl) (fun b1 b2 => by kernel_rfl) (fun b1 b2 => ?_)
 refine zDNSR 2 <| bZ [0, 1] 2 0 [(1, iq a), (2, iq b), (3, .slice A1 n1 cap1), (4, .pointer (pB b1)), (8, .pointer (pB b2))] [.cells b2 [.bool false, iq 0, iq 0, .slice none 0 0, iq 0, iq 0, iq 0, iq 0, iq 0, iq 0, iq 0, iq 0] 93 true, .cells b1 [.bool true, iq mw, iq mh, ms, iq X, iq Y, iq s, iq al, iq ca, iq cb, iq cc, iq cd] 93 true, rD (A1) g1 o1 n1 1 (cV xs1)] <| zDNSR 8 <| bD [0] 1 7 [(10, iq a)] [] <| pS 2 6 <| cP 11 (iq (aroundI a 6)) (fun w hT => refAround a 6 w (by omega) (by omega)) ?_
 have hq3_ := aroundI_range a (m := 6) (by omega)
 refine bD [0] 3 5 [(12, iq b)] [] <| pS 4 4 <| cP 13 (iq (aroundI b 6)) (fun w hT => refAround b 6 w (by omega) (by omega)) ?_
 have hq4_ := aroundI_range b (m := 6) (by omega)
 refine bD [0] 5 3 [(14, .slice A1 n1 cap1)] [] <| pS 6 2 <| cG (d := 15) (α := Nat × Nat) (fun x_ => .agg #[iq (1 + aroundI (aroundI a 6) 16), iq (1 + aroundI (aroundI b 6) 16), .slice (pB x_.1) x_.2 x_.2]) (fun x_ => [.gen (rowE (pB x_.1) x_.1 x_.2 x_.2 24 1 (cV (goodP x_.2 xs1 x_.2)) true), .cells b2 [.bool false, iq 0, iq 0, .slice none 0 0, iq 0, iq 0, iq 0, iq 0, iq 0, iq 0, iq 0, iq 0] 93 true, .cells b1 [.bool true, iq mw, iq mh, ms, iq X, iq Y, iq s, iq al, iq ca, iq cb, iq cc, iq cd] 93 true, rD (A1) g1 o1 n1 1 (cV xs1)]) (fun x_ => (x_.2 : Int) = (1 + aroundI (aroundI a 6) 16) * (1 + aroundI (aroundI b 6) 16)) (fun w hT => (refGood4 A1 g1 o1 n1 cap1 xs1 (aroundI a 6) (aroundI b 6) w (hT.viewRo (.cons (i := 2) rfl Vw.rd .nil) rfl) ⟨by omega, by omega, hl1, hc1, hm1, hx1, hat1⟩).mono fun e w' ⟨r5, n6, he_, hf_, ht_⟩ => ⟨(r5, n6), he_, hf_, hT.news ht_ rfl⟩) ?_
 rintro ⟨r5, n6⟩ hf7_
 replace hf7_ : (n6 : Int) = (1 + aroundI (aroundI a 6) 16) * (1 + aroundI (aroundI b 6) 16) := hf7_
 refine bZ [0, 2] 8 0 [(4, .pointer (pB b1)), (8, .pointer (pB b2))] [.gen (rowE (pB r5) r5 n6 n6 24 1 (cV (goodP n6 xs1 n6)) true), .cells b2 [.bool false, iq 0, iq 0, .slice none 0 0, iq 0, iq 0, iq 0, iq 0, iq 0, iq 0, iq 0, iq 0] 93 true, .cells b1 [.bool true, iq (1 + aroundI (aroundI a 6) 16), iq (1 + aroundI (aroundI b 6) 16), .slice (pB r5) n6 n6, iq X, iq Y, iq s, iq al, iq ca, iq cb, iq cc, iq cd] 93 true, rD (A1) g1 o1 n1 1 (cV xs1)] <| zDNS <| drawn_enter 13 [2] rfl (by kernel_rfl) ?_
 refine tD 0 [2] [(0, 0), (5, 0), (1, 0), (6, 0)] 9 [6, 1, 5, 0] [(18, .pointer (some ⟨b1, 4, none⟩)), (23, .pointer (some ⟨b1, 5, none⟩))] [17, 22] <| drawn_two 2 7 8 rfl (by kernel_rfl) ?_ ?_
 ·
  refine oS 2 [(4, .pointer (pB b1)), (8, .pointer (pB b2)), (19, iq X), (23, .pointer (some ⟨b1, 5, none⟩))] [.gen (rowE (pB r5) r5 n6 n6 24 1 (cV (goodP n6 xs1 n6)) true), .cells b2 [.bool false, iq 0, iq 0, .slice none 0 0, iq 0, iq 0, iq 0, iq 0, iq 0, iq 0, iq 0, iq 0] 93 true, .cells b1 [.bool true, iq (1 + aroundI (aroundI a 6) 16), iq (1 + aroundI (aroundI b 6) 16), .slice (pB r5) n6 n6, iq X, iq Y, iq s, iq al, iq ca, iq cb, iq cc, iq cd] 93 true, rD (A1) g1 o1 n1 1 (cV xs1)] <| dX 0 [2] <| drawn_two 3 7 7 rfl (by kernel_rfl) ?_ ?_
  ·
   refine cP 20 (iq (aroundI X 24)) (fun w hT => refAround X 24 w (by omega) (by omega)) ?_
   have hq8_ := aroundI_range X (m := 24) (by omega)
   refine dX 0 [2] <| tD 0 [2] [(4, 0)] 6 [4, 3, 2, 6, 1, 5, 0] [(21, iq (IntKind.i64.wrap ((aroundI X 24) - 6)))] [] <| wI 21 ((aroundI X 24) - 6) <| dO 7 5 <| oS 2 [(4, .pointer (pB b1)), (8, .pointer (pB b2)), (21, iq ((aroundI X 24) - 6)), (24, iq Y)] [.gen (rowE (pB r5) r5 n6 n6 24 1 (cV (goodP n6 xs1 n6)) true), .cells b2 [.bool false, iq 0, iq 0, .slice none 0 0, iq 0, iq 0, iq 0, iq 0, iq 0, iq 0, iq 0, iq 0] 93 true, .cells b1 [.bool true, iq (1 + aroundI (aroundI a 6) 16), iq (1 + aroundI (aroundI b 6) 16), .slice (pB r5) n6 n6, iq X, iq Y, iq s, iq al, iq ca, iq cb, iq cc, iq cd] 93 true, rD (A1) g1 o1 n1 1 (cV xs1)] <| dX 0 [2] <| dO 8 4 <| cP 25 (iq (aroundI Y 24)) (fun w hT => refAround Y 24 w (by omega) (by omega)) ?_
   have hq9_ := aroundI_range Y (m := 24) (by omega)
   refine dX 0 [2] <| tD 0 [2] [(9, 0)] 3 [9, 8, 7, 4, 3, 2, 6, 1, 5, 0] [(26, iq (IntKind.i64.wrap ((aroundI Y 24) - 6)))] [] <| wI 26 ((aroundI Y 24) - 6) <| tD 0 [2] [(10, 0), (11, 0)] 1 [11, 10, 9, 8, 7, 4, 3, 2, 6, 1, 5, 0] [(27, .agg #[iq ((aroundI X 24) - 6), iq ((aroundI Y 24) - 6)]), (28, .pointer (some ⟨b1, 4, none⟩))] [] <| dO 12 0 <| oS 2 [(4, .pointer (pB b1)), (8, .pointer (pB b2))] [.gen (rowE (pB r5) r5 n6 n6 24 1 (cV (goodP n6 xs1 n6)) true), .cells b2 [.bool false, iq 0, iq 0, .slice none 0 0, iq 0, iq 0, iq 0, iq 0, iq 0, iq 0, iq 0, iq 0] 93 true, .cells b1 [.bool true, iq (1 + aroundI (aroundI a 6) 16), iq (1 + aroundI (aroundI b 6) 16), .slice (pB r5) n6 n6, iq ((aroundI X 24) - 6), iq ((aroundI Y 24) - 6), iq s, iq al, iq ca, iq cb, iq cc, iq cd] 93 true, rD (A1) g1 o1 n1 1 (cV xs1)] <| dX 0 [2] <| dD <| zN <| zSR 6 <| bD [0, 2] 2 4 [(30, iq s)] [29] <| pS 3 3 <| cP 31 (iq (aroundI s 3)) (fun w hT => refAround s 3 w (by omega) (by omega)) ?_
   have hq10_ := aroundI_range s (m := 3) (by omega)
   refine bD [0] 4 2 [(32, iq (IntKind.i64.wrap (1 + (aroundI s 3))))] [] <| wI 32 (1 + (aroundI s 3)) <| bZ [0, 2] 6 0 [(4, .pointer (pB b1)), (8, .pointer (pB b2))] [.gen (rowE (pB r5) r5 n6 n6 24 1 (cV (goodP n6 xs1 n6)) true), .cells b2 [.bool false, iq 0, iq 0, .slice none 0 0, iq 0, iq 0, iq 0, iq 0, iq 0, iq 0, iq 0, iq 0] 93 true, .cells b1 [.bool true, iq (1 + aroundI (aroundI a 6) 16), iq (1 + aroundI (aroundI b 6) 16), .slice (pB r5) n6 n6, iq ((aroundI X 24) - 6), iq ((aroundI Y 24) - 6), iq (1 + (aroundI s 3)), iq al, iq ca, iq cb, iq cc, iq cd] 93 true, rD (A1) g1 o1 n1 1 (cV xs1)] <| zDNSR 5 <| bD [0, 2] 2 3 [(35, iq al)] [34] <| pS 3 2 <| cP 36 (iq (aroundI al 256)) (fun w hT => refAround al 256 w (by omega) (by omega)) ?_
   have hq11_ := aroundI_range al (m := 256) (by omega)
   refine bZ [0, 2] 5 0 [(4, .pointer (pB b1)), (8, .pointer (pB b2))] [.gen (rowE (pB r5) r5 n6 n6 24 1 (cV (goodP n6 xs1 n6)) true), .cells b2 [.bool false, iq 0, iq 0, .slice none 0 0, iq 0, iq 0, iq 0, iq 0, iq 0, iq 0, iq 0, iq 0] 93 true, .cells b1 [.bool true, iq (1 + aroundI (aroundI a 6) 16), iq (1 + aroundI (aroundI b 6) 16), .slice (pB r5) n6 n6, iq ((aroundI X 24) - 6), iq ((aroundI Y 24) - 6), iq (1 + (aroundI s 3)), iq (aroundI al 256), iq ca, iq cb, iq cc, iq cd] 93 true, rD (A1) g1 o1 n1 1 (cV xs1)] <| zDNSR 2 <| bZ [2, 1] 2 0 [(8, .pointer (pB b2))] [.gen (rowE (pB r5) r5 n6 n6 24 1 (cV (goodP n6 xs1 n6)) true), .cells b2 [.bool true, iq (1 + aroundI (aroundI a 6) 16), iq (1 + aroundI (aroundI b 6) 16), .slice (pB r5) n6 n6, iq ((aroundI X 24) - 6), iq ((aroundI Y 24) - 6), iq (1 + (aroundI s 3)), iq (aroundI al 256), iq ca, iq cb, iq cc, iq cd] 93 true, .cells b1 [.bool true, iq (1 + aroundI (aroundI a 6) 16), iq (1 + aroundI (aroundI b 6) 16), .slice (pB r5) n6 n6, iq ((aroundI X 24) - 6), iq ((aroundI Y 24) - 6), iq (1 + (aroundI s 3)), iq (aroundI al 256), iq ca, iq cb, iq cc, iq cd] 93 true, rD (A1) g1 o1 n1 1 (cV xs1)] <| fG 2 <| zDNr <| rA rfl 1 (.agg #[.bool true, iq (1 + aroundI (aroundI a 6) 16), iq (1 + aroundI (aroundI b 6) 16), .slice (pB r5) n6 n6, iq ((aroundI X 24) - 6), iq ((aroundI Y 24) - 6), iq (1 + (aroundI s 3)), iq (aroundI al 256), iq ca, iq cb, iq cc, iq cd]) fun w hT => ?_
   replace hT := hT.erase 2 (fun e h hw => by cases h; first | rfl | cases hw)
   replace hT := hT.erase 1 (fun e h hw => by cases h; first | rfl | cases hw)
   exact ⟨_, _, rfl, ‹_›, hT⟩
  refine oS 2 [(4, .pointer (pB b1)), (8, .pointer (pB b2)), (19, iq X), (24, iq Y)] [.gen (rowE (pB r5) r5 n6 n6 24 1 (cV (goodP n6 xs1 n6)) true), .cells b2 [.bool false, iq 0, iq 0, .slice none 0 0, iq 0, iq 0, iq 0, iq 0, iq 0, iq 0, iq 0, iq 0] 93 true, .cells b1 [.bool true, iq (1 + aroundI (aroundI a 6) 16), iq (1 + aroundI (aroundI b 6) 16), .slice (pB r5) n6 n6, iq X, iq Y, iq s, iq al, iq ca, iq cb, iq cc, iq cd] 93 true, rD (A1) g1 o1 n1 1 (cV xs1)] <| dX 0 [2] <| dO 3 6 <| cP 20 (iq (aroundI X 24)) (fun w hT => refAround X 24 w (by omega) (by omega)) ?_
  have hq12_ := aroundI_range X (m := 24) (by omega)
  refine dX 0 [2] <| tD 0 [2] [(4, 0)] 5 [4, 3, 7, 2, 6, 1, 5, 0] [(21, iq (IntKind.i64.wrap ((aroundI X 24) - 6)))] [] <| wI 21 ((aroundI X 24) - 6) <| dO 8 4 <| cP 25 (iq (aroundI Y 24)) (fun w hT => refAround Y 24 w (by omega) (by omega)) ?_
  have hq13_ := aroundI_range Y (m := 24) (by omega)
  refine dX 0 [2] <| tD 0 [2] [(9, 0)] 3 [9, 8, 4, 3, 7, 2, 6, 1, 5, 0] [(26, iq (IntKind.i64.wrap ((aroundI Y 24) - 6)))] [] <| wI 26 ((aroundI Y 24) - 6) <| tD 0 [2] [(10, 0), (11, 0)] 1 [11, 10, 9, 8, 4, 3, 7, 2, 6, 1, 5, 0] [(27, .agg #[iq ((aroundI X 24) - 6), iq ((aroundI Y 24) - 6)]), (28, .pointer (some ⟨b1, 4, none⟩))] [] <| dO 12 0 <| oS 2 [(4, .pointer (pB b1)), (8, .pointer (pB b2))] [.gen (rowE (pB r5) r5 n6 n6 24 1 (cV (goodP n6 xs1 n6)) true), .cells b2 [.bool false, iq 0, iq 0, .slice none 0 0, iq 0, iq 0, iq 0, iq 0, iq 0, iq 0, iq 0, iq 0] 93 true, .cells b1 [.bool true, iq (1 + aroundI (aroundI a 6) 16), iq (1 + aroundI (aroundI b 6) 16), .slice (pB r5) n6 n6, iq ((aroundI X 24) - 6), iq ((aroundI Y 24) - 6), iq s, iq al, iq ca, iq cb, iq cc, iq cd] 93 true, rD (A1) g1 o1 n1 1 (cV xs1)] <| dX 0 [2] <| dD <| zN <| zSR 6 <| bD [0, 2] 2 4 [(30, iq s)] [29] <| pS 3 3 <| cP 31 (iq (aroundI s 3)) (fun w hT => refAround s 3 w (by omega) (by omega)) ?_
  have hq14_ := aroundI_range s (m := 3) (by omega)
  refine bD [0] 4 2 [(32, iq (IntKind.i64.wrap (1 + (aroundI s 3))))] [] <| wI 32 (1 + (aroundI s 3)) <| bZ [0, 2] 6 0 [(4, .pointer (pB b1)), (8, .pointer (pB b2))] [.gen (rowE (pB r5) r5 n6 n6 24 1 (cV (goodP n6 xs1 n6)) true), .cells b2 [.bool false, iq 0, iq 0, .slice none 0 0, iq 0, iq 0, iq 0, iq 0, iq 0, iq 0, iq 0, iq 0] 93 true, .cells b1 [.bool true, iq (1 + aroundI (aroundI a 6) 16), iq (1 + aroundI (aroundI b 6) 16), .slice (pB r5) n6 n6, iq ((aroundI X 24) - 6), iq ((aroundI Y 24) - 6), iq (1 + (aroundI s 3)), iq al, iq ca, iq cb, iq cc, iq cd] 93 true, rD (A1) g1 o1 n1 1 (cV xs1)] <| zDNSR 5 <| bD [0, 2] 2 3 [(35, iq al)] [34] <| pS 3 2 <| cP 36 (iq (aroundI al 256)) (fun w hT => refAround al 256 w (by omega) (by omega)) ?_
  have hq15_ := aroundI_range al (m := 256) (by omega)
  refine bZ [0, 2] 5 0 [(4, .pointer (pB b1)), (8, .pointer (pB b2))] [.gen (rowE (pB r5) r5 n6 n6 24 1 (cV (goodP n6 xs1 n6)) true), .cells b2 [.bool false, iq 0, iq 0, .slice none 0 0, iq 0, iq 0, iq 0, iq 0, iq 0, iq 0, iq 0, iq 0] 93 true, .cells b1 [.bool true, iq (1 + aroundI (aroundI a 6) 16), iq (1 + aroundI (aroundI b 6) 16), .slice (pB r5) n6 n6, iq ((aroundI X 24) - 6), iq ((aroundI Y 24) - 6), iq (1 + (aroundI s 3)), iq (aroundI al 256), iq ca, iq cb, iq cc, iq cd] 93 true, rD (A1) g1 o1 n1 1 (cV xs1)] <| zDNSR 2 <| bZ [2, 1] 2 0 [(8, .pointer (pB b2))] [.gen (rowE (pB r5) r5 n6 n6 24 1 (cV (goodP n6 xs1 n6)) true), .cells b2 [.bool true, iq (1 + aroundI (aroundI a 6) 16), iq (1 + aroundI (aroundI b 6) 16), .slice (pB r5) n6 n6, iq ((aroundI X 24) - 6), iq ((aroundI Y 24) - 6), iq (1 + (aroundI s 3)), iq (aroundI al 256), iq ca, iq cb, iq cc, iq cd] 93 true, .cells b1 [.bool true, iq (1 + aroundI (aroundI a 6) 16), iq (1 + aroundI (aroundI b 6) 16), .slice (pB r5) n6 n6, iq ((aroundI X 24) - 6), iq ((aroundI Y 24) - 6), iq (1 + (aroundI s 3)), iq (aroundI al 256), iq ca, iq cb, iq cc, iq cd] 93 true, rD (A1) g1 o1 n1 1 (cV xs1)] <| fG 2 <| zDNr <| rA rfl 1 (.agg #[.bool true, iq (1 + aroundI (aroundI a 6) 16), iq (1 + aroundI (aroundI b 6) 16), .slice (pB r5) n6 n6, iq ((aroundI X 24) - 6), iq ((aroundI Y 24) - 6), iq (1 + (aroundI s 3)), iq (aroundI al 256), iq ca, iq cb, iq cc, iq cd]) fun w hT => ?_
  replace hT := hT.erase 2 (fun e h hw => by cases h; first | rfl | cases hw)
  replace hT := hT.erase 1 (fun e h hw => by cases h; first | rfl | cases hw)
  exact ⟨_, _, rfl, ‹_›, hT⟩
 refine oS 2 [(4, .pointer (pB b1)), (8, .pointer (pB b2)), (18, .pointer (some ⟨b1, 4, none⟩)), (24, iq Y)] [.gen (rowE (pB r5) r5 n6 n6 24 1 (cV (goodP n6 xs1 n6)) true), .cells b2 [.bool false, iq 0, iq 0, .slice none 0 0, iq 0, iq 0, iq 0, iq 0, iq 0, iq 0, iq 0, iq 0] 93 true, .cells b1 [.bool true, iq (1 + aroundI (aroundI a 6) 16), iq (1 + aroundI (aroundI b 6) 16), .slice (pB r5) n6 n6, iq X, iq Y, iq s, iq al, iq ca, iq cb, iq cc, iq cd] 93 true, rD (A1) g1 o1 n1 1 (cV xs1)] <| dX 0 [2] <| dO 2 7 <| oS 2 [(4, .pointer (pB b1)), (8, .pointer (pB b2)), (19, iq X), (24, iq Y)] [.gen (rowE (pB r5) r5 n6 n6 24 1 (cV (goodP n6 xs1 n6)) true), .cells b2 [.bool false, iq 0, iq 0, .slice none 0 0, iq 0, iq 0, iq 0, iq 0, iq 0, iq 0, iq 0, iq 0] 93 true, .cells b1 [.bool true, iq (1 + aroundI (aroundI a 6) 16), iq (1 + aroundI (aroundI b 6) 16), .slice (pB r5) n6 n6, iq X, iq Y, iq s, iq al, iq ca, iq cb, iq cc, iq cd] 93 true, rD (A1) g1 o1 n1 1 (cV xs1)] <| dX 0 [2] <| dO 3 6 <| cP 20 (iq (aroundI X 24)) (fun w hT => refAround X 24 w (by omega) (by omega)) ?_
 have hq16_ := aroundI_range X (m := 24) (by omega)
 refine dX 0 [2] <| tD 0 [2] [(4, 0)] 5 [4, 3, 2, 7, 6, 1, 5, 0] [(21, iq (IntKind.i64.wrap ((aroundI X 24) - 6)))] [] <| wI 21 ((aroundI X 24) - 6) <| dO 8 4 <| cP 25 (iq (aroundI Y 24)) (fun w hT => refAround Y 24 w (by omega) (by omega)) ?_
 have hq17_ := aroundI_range Y (m := 24) (by omega)
 refine dX 0 [2] <| tD 0 [2] [(9, 0)] 3 [9, 8, 4, 3, 2, 7, 6, 1, 5, 0] [(26, iq (IntKind.i64.wrap ((aroundI Y 24) - 6)))] [] <| wI 26 ((aroundI Y 24) - 6) <| tD 0 [2] [(10, 0), (11, 0)] 1 [11, 10, 9, 8, 4, 3, 2, 7, 6, 1, 5, 0] [(27, .agg #[iq ((aroundI X 24) - 6), iq ((aroundI Y 24) - 6)]), (28, .pointer (some ⟨b1, 4, none⟩))] [] <| dO 12 0 <| oS 2 [(4, .pointer (pB b1)), (8, .pointer (pB b2))] [.gen (rowE (pB r5) r5 n6 n6 24 1 (cV (goodP n6 xs1 n6)) true), .cells b2 [.bool false, iq 0, iq 0, .slice none 0 0, iq 0, iq 0, iq 0, iq 0, iq 0, iq 0, iq 0, iq 0] 93 true, .cells b1 [.bool true, iq (1 + aroundI (aroundI a 6) 16), iq (1 + aroundI (aroundI b 6) 16), .slice (pB r5) n6 n6, iq ((aroundI X 24) - 6), iq ((aroundI Y 24) - 6), iq s, iq al, iq ca, iq cb, iq cc, iq cd] 93 true, rD (A1) g1 o1 n1 1 (cV xs1)] <| dX 0 [2] <| dD <| zN <| zSR 6 <| bD [0, 2] 2 4 [(30, iq s)] [29] <| pS 3 3 <| cP 31 (iq (aroundI s 3)) (fun w hT => refAround s 3 w (by omega) (by omega)) ?_
 have hq18_ := aroundI_range s (m := 3) (by omega)
 refine bD [0] 4 2 [(32, iq (IntKind.i64.wrap (1 + (aroundI s 3))))] [] <| wI 32 (1 + (aroundI s 3)) <| bZ [0, 2] 6 0 [(4, .pointer (pB b1)), (8, .pointer (pB b2))] [.gen (rowE (pB r5) r5 n6 n6 24 1 (cV (goodP n6 xs1 n6)) true), .cells b2 [.bool false, iq 0, iq 0, .slice none 0 0, iq 0, iq 0, iq 0, iq 0, iq 0, iq 0, iq 0, iq 0] 93 true, .cells b1 [.bool true, iq (1 + aroundI (aroundI a 6) 16), iq (1 + aroundI (aroundI b 6) 16), .slice (pB r5) n6 n6, iq ((aroundI X 24) - 6), iq ((aroundI Y 24) - 6), iq (1 + (aroundI s 3)), iq al, iq ca, iq cb, iq cc, iq cd] 93 true, rD (A1) g1 o1 n1 1 (cV xs1)] <| zDNSR 5 <| bD [0, 2] 2 3 [(35, iq al)] [34] <| pS 3 2 <| cP 36 (iq (aroundI al 256)) (fun w hT => refAround al 256 w (by omega) (by omega)) ?_
 have hq19_ := aroundI_range al (m := 256) (by omega)
 refine bZ [0, 2] 5 0 [(4, .pointer (pB b1)), (8, .pointer (pB b2))] [.gen (rowE (pB r5) r5 n6 n6 24 1 (cV (goodP n6 xs1 n6)) true), .cells b2 [.bool false, iq 0, iq 0, .slice none 0 0, iq 0, iq 0, iq 0, iq 0, iq 0, iq 0, iq 0, iq 0] 93 true, .cells b1 [.bool true, iq (1 + aroundI (aroundI a 6) 16), iq (1 + aroundI (aroundI b 6) 16), .slice (pB r5) n6 n6, iq ((aroundI X 24) - 6), iq ((aroundI Y 24) - 6), iq (1 + (aroundI s 3)), iq (aroundI al 256), iq ca, iq cb, iq cc, iq cd] 93 true, rD (A1) g1 o1 n1 1 (cV xs1)] <| zDNSR 2 <| bZ [2, 1] 2 0 [(8, .pointer (pB b2))] [.gen (rowE (pB r5) r5 n6 n6 24 1 (cV (goodP n6 xs1 n6)) true), .cells b2 [.bool true, iq (1 + aroundI (aroundI a 6) 16), iq (1 + aroundI (aroundI b 6) 16), .slice (pB r5) n6 n6, iq ((aroundI X 24) - 6), iq ((aroundI Y 24) - 6), iq (1 + (aroundI s 3)), iq (aroundI al 256), iq ca, iq cb, iq cc, iq cd] 93 true, .cells b1 [.bool true, iq (1 + aroundI (aroundI a 6) 16), iq (1 + aroundI (aroundI b 6) 16), .slice (pB r5) n6 n6, iq ((aroundI X 24) - 6), iq ((aroundI Y 24) - 6), iq (1 + (aroundI s 3)), iq (aroundI al 256), iq ca, iq cb, iq cc, iq cd] 93 true, rD (A1) g1 o1 n1 1 (cV xs1)] <| fG 2 <| zDNr <| rA rfl 1 (.agg #[.bool true, iq (1 + aroundI (aroundI a 6) 16), iq (1 + aroundI (aroundI b 6) 16), .slice (pB r5) n6 n6, iq ((aroundI X 24) - 6), iq ((aroundI Y 24) - 6), iq (1 + (aroundI s 3)), iq (aroundI al 256), iq ca, iq cb, iq cc, iq cd]) fun w hT => ?_
 replace hT := hT.erase 2 (fun e h hw => by cases h; first | rfl | cases hw)
 replace hT := hT.erase 1 (fun e h hw => by cases h; first | rfl | cases hw)
 exact ⟨_, _, rfl, ‹_›, hT⟩
end Go.Proofs.Ytlfahohbkgdabaa
namespace Go.Proofs.Ytlfahohbkgdabaa
open Go Go.RowKit
theorem rbox_has {W H X Y s a b c d x y : Int} (hs : 1 ≤ s) : hasB (rboxR W H X Y s a b c d).x0 (rboxR W H X Y s a b c d).y0 (rboxR W H X Y s a b c d).x1 (rboxR W H X Y s a b c d).y1 x y = (hasB 0 0 W H ((x - X) / s) ((y - Y) / s) && hasB a b c d ((x - X) / s) ((y - Y) / s)) := by
  rw [Bool.eq_iff_iff, Bool.and_eq_true]
  have hcut := cutR_has a b c d 0 0 W H ((x - X) / s) ((y - Y) / s)
  have hsp : 0 < s := by omega
  have k : ∀ (p q z Z : Int), Z + p * s ≤ z ∧ z < Z + q * s ↔ p ≤ (z - Z) / s ∧ (z - Z) / s < q := fun p q z Z => by
    rw [Int.le_ediv_iff_mul_le hsp, Int.ediv_lt_iff_lt_mul hsp]
    omega
  rw [and_comm (a := hasB 0 0 W H _ _ = true), ← hcut]
  unfold rboxR
  dsimp only
  generalize cutR a b c d 0 0 W H = r
  cases hne : emptyB r.x0 r.y0 r.x1 r.y1 with
  | true =>
    have := emptyB_true.1 hne
    simp only [if_true, hasB_true]
    omega
  | false =>
    have k1 := k r.x0 r.x1 x X
    have k2 := k r.y0 r.y1 y Y
    simp only [Bool.false_eq_true, if_false, hasB_true]
    omega
def pcolB (W H X Y s a b c d : Int) (x y : Int) : Bool := hasB 0 0 W H ((x - X) / s) ((y - Y) / s) && hasB a b c d ((x - X) / s) ((y - Y) / s)
theorem pcol_box {W H X Y s a b c d x y : Int} (hs : 1 ≤ s ∧ s ≤ 8) (hX : -1000000 ≤ X ∧ X ≤ 1000000) (hY : -1000000 ≤ Y ∧ Y ≤ 1000000) (hw : 1 ≤ W ∧ W ≤ 256) (hh : 1 ≤ H ∧ H ≤ 256) :
    hasB (shwR W H X Y s a b c d).x0 (shwR W H X Y s a b c d).y0 (shwR W H X Y s a b c d).x1 (shwR W H X Y s a b c d).y1 x y = pcolB W H X Y s a b c d x y := by
  rw [box_same hs hX hY hw hh]
  exact rbox_has (by omega)
end Go.Proofs.Ytlfahohbkgdabaa
namespace Go.Proofs.Ytlfahohbkgdabaa
open Go Go.RowKit
set_option maxRecDepth 100000
set_option maxHeartbeats 8000000
end Go.Proofs.Ytlfahohbkgdabaa
namespace Go.Proofs
open Go.Shelf
def Try.lays189_ren : Go.Shelf.Ren := ⟨fun | 189 => 116 | 125 => 127 | 257 => 126 | 128 => 139 | 129 => 140 | 294 => 130 | 295 => 131 | 296 => 132 | 297 => 133 | 298 => 134 | 299 => 135 | 216 => 136 | 300 => 137 | 301 => 138 | 328 => 141 | 329 => 142 | 330 => 143 | 331 => 144 | 332 => 145 | 215 => 146 | 343 => 147 | n => n, fun | 28 => 34 | 3 => 3 | 46 => 169 | 0 => 0 | 51 => 23 | 53 => 184 | 4 => 4 | 183 => 175 | 182 => 174 | 131 => 180 | 5 => 5 | 9 => 9 | 218 => 185 | 222 => 189 | 228 => 192 | 229 => 162 | n => n, fun | n => n⟩
theorem Try.lays189 : Go.Proofs.Lays.n189 Try.prog Try.lays189_ren := {
  mixed := by kernel_rfl
  f125 := Try.func127.trans (congrArg some (by kernel_rfl))
  f128 := Try.func139.trans (congrArg some (by kernel_rfl))
  f129 := Try.func140.trans (congrArg some (by kernel_rfl))
  f189 := Try.func116.trans (congrArg some (by kernel_rfl))
  f215 := Try.func146.trans (congrArg some (by kernel_rfl))
  f216 := Try.func136.trans (congrArg some (by kernel_rfl))
  f257 := Try.func126.trans (congrArg some (by kernel_rfl))
  f294 := Try.func130.trans (congrArg some (by kernel_rfl))
  f295 := Try.func131.trans (congrArg some (by kernel_rfl))
  f296 := Try.func132.trans (congrArg some (by kernel_rfl))
  f297 := Try.func133.trans (congrArg some (by kernel_rfl))
  f298 := Try.func134.trans (congrArg some (by kernel_rfl))
  f299 := Try.func135.trans (congrArg some (by kernel_rfl))
  f300 := Try.func137.trans (congrArg some (by kernel_rfl))
  f301 := Try.func138.trans (congrArg some (by kernel_rfl))
  f328 := Try.func141.trans (congrArg some (by kernel_rfl))
  f329 := Try.func142.trans (congrArg some (by kernel_rfl))
  f330 := Try.func143.trans (congrArg some (by kernel_rfl))
  f331 := Try.func144.trans (congrArg some (by kernel_rfl))
  f332 := Try.func145.trans (congrArg some (by kernel_rfl))
  f343 := Try.func147.trans (congrArg some (by kernel_rfl))
  t0 := Try.underlying0
  a0 := Try.isAgg0
  z0 := Try.sizeOf0
  v0 := Try.zeroValue0
  t3 := Try.underlying3
  a3 := Try.isAgg3
  z3 := Try.sizeOf3
  v3 := Try.zeroValue3
  t4 := Try.underlying4
  a4 := Try.isAgg4
  z4 := Try.sizeOf4
  v4 := Try.zeroValue4
  t5 := Try.underlying5
  a5 := Try.isAgg5
  z5 := Try.sizeOf5
  v5 := Try.zeroValue5
  t9 := Try.underlying9
  a9 := Try.isAgg9
  z9 := Try.sizeOf9
  v9 := Try.zeroValue9
  t28 := Try.underlying34
  a28 := Try.isAgg34
  z28 := Try.sizeOf34
  v28 := Try.zeroValue34
  t46 := Try.underlying169
  a46 := Try.isAgg169
  z46 := Try.sizeOf169
  v46 := Try.zeroValue169
  t51 := Try.underlying23
  a51 := Try.isAgg23
  z51 := Try.sizeOf23
  v51 := Try.zeroValue23
  t53 := Try.underlying184
  a53 := Try.isAgg184
  z53 := Try.sizeOf184
  v53 := Try.zeroValue184
  t131 := Try.underlying180
  a131 := Try.isAgg180
  z131 := Try.sizeOf180
  v131 := Try.zeroValue180
  t182 := Try.underlying174
  a182 := Try.isAgg174
  z182 := Try.sizeOf174
  v182 := Try.zeroValue174
  t183 := Try.underlying175
  a183 := Try.isAgg175
  z183 := Try.sizeOf175
  v183 := Try.zeroValue175
  t218 := Try.underlying185
  a218 := Try.isAgg185
  z218 := Try.sizeOf185
  v218 := Try.zeroValue185
  t222 := Try.underlying189
  a222 := Try.isAgg189
  z222 := Try.sizeOf189
  v222 := Try.zeroValue189
  t228 := Try.underlying192
  a228 := Try.isAgg192
  z228 := Try.sizeOf192
  v228 := Try.zeroValue192
  t229 := Try.underlying162
  a229 := Try.isAgg162
  z229 := Try.sizeOf162
  v229 := Try.zeroValue162 }
open Go.Sort Go.RowKit in
theorem Try.slices_Sort_int (blk off cap : Nat) (zs : List Int) (w : World) (hH : Holds (Value.int .i64) w blk off zs.toArray) (hblk : blk < w.heap.size) (hsz : zs.length < 4611686018427387904) :
    Calls Try.prog 116 #[.slice (some ⟨blk, off, none⟩) zs.length cap] w fun e w' =>
      e = .returned (.tuple #[]) ∧ ∃ n os, w' = grow (putRow (Value.int .i64) (Sort.ahead w n) blk off (zs.mergeSort fun x y => decide (x ≤ y)).toArray) os := Any.slices_Sort_int Try.lays189 blk off cap zs w hH hblk hsz
def Try.laysNm220_ren : Go.Shelf.Ren := ⟨fun | 20 => 117 | n => n, fun | 22 => 34 | 3 => 3 | 4 => 4 | 0 => 0 | n => n, fun | n => n⟩
theorem Try.laysNm220 : Go.Proofs.Lays2.n20 Try.prog Try.laysNm220_ren := {
  mixed := by kernel_rfl
  f20 := Try.func117.trans (congrArg some (by kernel_rfl))
  t0 := Try.underlying0
  a0 := Try.isAgg0
  z0 := Try.sizeOf0
  v0 := Try.zeroValue0
  t3 := Try.underlying3
  a3 := Try.isAgg3
  z3 := Try.sizeOf3
  v3 := Try.zeroValue3
  t4 := Try.underlying4
  a4 := Try.isAgg4
  z4 := Try.sizeOf4
  v4 := Try.zeroValue4
  t22 := Try.underlying34
  a22 := Try.isAgg34
  z22 := Try.sizeOf34
  v22 := Try.zeroValue34
  i3 := by kernel_rfl }
open Go.RowKit Go.Lib Go.Sort in
theorem Try.slices_Compact_int (blk off cap : Nat) (zs : List Int) (w : World) (hH : Holds (Value.int .i64) w blk off zs.toArray) (hsz : zs.length ≤ 9223372036854775807) (hcap : zs.length ≤ cap) :
    Calls Try.prog 117 #[.slice (some ⟨blk, off, none⟩) zs.length cap] w fun e w' => e = .returned (.slice (some ⟨blk, off, none⟩) (Lib.compact zs).length cap) ∧ ∃ q, w' = putRow (Value.int .i64) (Sort.ahead w q) blk off (Lib.compact zs ++ List.replicate (zs.length - (Lib.compact zs).length) 0).toArray := Any.slices_Compact_int Try.laysNm220 blk off cap zs w hH hsz hcap
open Go.RowKit Go.Lib Go.Sort in
theorem Try.slices_Compact_int_empty (a : Option Addr) (cap : Nat) (w : World) :
    Calls Try.prog 117 #[.slice a 0 cap] w fun e w' => e = .returned (.slice a 0 cap) ∧ w' = w := Any.slices_Compact_int_empty Try.laysNm220 a cap w
open Go.RowKit Go.Sort in
theorem Try.slices_Sort_int_none (p : Option Addr) (cap : Nat) (w : World) :
    Calls Try.prog 116 #[.slice p 0 cap] w fun e w' => e = .returned (.tuple #[]) ∧ w' = w := Any.slices_Sort_int_none Try.lays189 p cap w
end Go.Proofs
namespace Go.Proofs.Ytlfahohbkgdabaa
open Go Go.RowKit
section
variable {β : Type}
abbrev Run (β : Type) := Int × Int × β
def RunsOk : List (Run β) → Prop
  | [] => True
  | r :: t => r.1 < r.2.1 ∧ (match t with | [] => True | s :: _ => s.2.1 ≤ r.1 ∧ (s.2.1 = r.1 → s.2.2 ≠ r.2.2)) ∧ RunsOk t
def look : List (Run β) → Int → Option β
  | [], _ => none
  | r :: t, p => if r.1 ≤ p ∧ p < r.2.1 then some r.2.2 else look t p
theorem RunsOk.tail {r : Run β} {t : List (Run β)} (h : RunsOk (r :: t)) : RunsOk t := h.2.2
theorem RunsOk.below {r : Run β} {t : List (Run β)} (h : RunsOk (r :: t)) : ∀ s ∈ t, s.2.1 ≤ r.1 := by
  induction t generalizing r with
  | nil => intro s hs; cases hs
  | cons q t ih =>
    intro s hs
    obtain ⟨_, ⟨h1, _⟩, h2⟩ := h
    rcases List.mem_cons.1 hs with rfl | hs
    · exact h1
    · have := ih h2 s hs
      have := h2.1
      omega
theorem look_above {t : List (Run β)} {p q : Int} (h : ∀ s ∈ t, s.2.1 ≤ q) (hp : q ≤ p) : look t p = none := by
  induction t with
  | nil => rfl
  | cons r t ih =>
    have := h r (by simp)
    rw [look, if_neg (by omega)]
    exact ih (fun s hs => h s (by simp [hs]))
theorem runs_unique : ∀ {l l' : List (Run β)}, RunsOk l → RunsOk l' → (∀ p, look l p = look l' p) → l = l' := by
  intro l
  induction l with
  | nil =>
    intro l' _ h' he
    cases l' with
    | nil => rfl
    | cons r t =>
      have := he r.1
      have h1 := h'.1
      rw [look, look, if_pos (by omega)] at this
      cases this
  | cons r t ih =>
    intro l' h h' he
    cases l' with
    | nil =>
      have := he r.1
      have h1 := h.1
      rw [look, look, if_pos (by omega)] at this
      cases this
    | cons s u =>
      have h1 := h.1
      have h1' := h'.1
      have hb := h.below
      have hb' := h'.below
      have ehi : r.2.1 = s.2.1 := by
        rcases Int.lt_trichotomy r.2.1 s.2.1 with hlt | heq | hgt
        · have e := he (s.2.1 - 1)
          rw [look_above (q := r.2.1) (t := r :: t) (fun q hq => by rcases List.mem_cons.1 hq with rfl | hq; omega; have := hb q hq; omega) (by omega), look, if_pos (by omega)] at e
          cases e
        · exact heq
        · have e := he (r.2.1 - 1)
          rw [look_above (q := s.2.1) (t := s :: u) (fun q hq => by rcases List.mem_cons.1 hq with rfl | hq; omega; have := hb' q hq; omega) (by omega), look, if_pos (by omega)] at e
          cases e
      have ev : r.2.2 = s.2.2 := by
        have e := he (r.2.1 - 1)
        rw [look, look, if_pos (by omega), if_pos (by omega)] at e
        exact Option.some.inj e
      have key : ∀ {a b : Run β} {x y : List (Run β)}, RunsOk (a :: x) → RunsOk (b :: y) → a.2.1 = b.2.1 → a.2.2 = b.2.2 → (∀ p, look (a :: x) p = look (b :: y) p) → ¬ a.1 < b.1 := by
        intro a b x y ha hb eh ev he hlt
        have e := he (b.1 - 1)
        have hb1 := hb.1
        rw [look, if_pos (by omega), look, if_neg (by omega)] at e
        cases y with
        | nil => cases e
        | cons c y =>
          obtain ⟨_, ⟨g1, g2⟩, g3⟩ := hb
          have g4 := RunsOk.below g3
          by_cases hc : c.2.1 = b.1
          · have g5 := g3.1
            rw [look, if_pos (by omega)] at e
            exact g2 hc ((Option.some.inj e).symm.trans ev)
          · rw [look_above (q := c.2.1) (fun q hq => by rcases List.mem_cons.1 hq with rfl | hq; omega; have := g4 q hq; have := g3.1; omega) (by omega)] at e
            cases e
      have elo : r.1 = s.1 := by
        have k1 := key h h' ehi ev he
        have k2 := key h' h ehi.symm ev.symm (fun p => (he p).symm)
        omega
      have er : r = s := by
        obtain ⟨a, b, c⟩ := r
        obtain ⟨a', b', c'⟩ := s
        simp only at elo ehi ev
        rw [elo, ehi, ev]
      subst er
      congr 1
      refine ih h.tail h'.tail (fun p => ?_)
      by_cases hp : r.1 ≤ p
      · rw [look_above hb hp, look_above hb' hp]
      · have e := he p
        rw [look, look, if_neg (by omega), if_neg (by omega)] at e
        exact e
end
abbrev Spans := List (Run Unit)
def spR (y y' : Int) (s : Run Unit) : Rect := ⟨s.1, y, s.2.1, y'⟩
def bandR (y y' : Int) (sp : Spans) : List Rect := (sp.map (spR y y')).reverse
def rget (l : List Rect) (i : Nat) : Rect := l.getD i ⟨0, 0, 0, 0⟩
def hasL (l : List Rect) (x y : Int) : Bool := l.any fun r => hasB r.x0 r.y0 r.x1 r.y1 x y
def putX (own : List Rect) (x x' y y' : Int) : List Rect :=
  if 0 < own.length ∧ (rget own (own.length - 1)).x1 = x then own.set (own.length - 1) { rget own (own.length - 1) with x1 := x' } else own ++ [⟨x, y, x', y'⟩]
def ownL (f : Int → Bool) (y y' : Int) (xs : List Int) : Nat → List Rect
  | 0 => []
  | i + 1 => if f (xs.getD i 0) then putX (ownL f y y' xs i) (xs.getD i 0) (xs.getD (i + 1) 0) y y' else ownL f y y' xs i
def Rise (xs : List Int) : Prop := ∀ i, i + 1 < xs.length → xs.getD i 0 < xs.getD (i + 1) 0
theorem Rise.lt {xs : List Int} (h : Rise xs) {i j : Nat} (hij : i < j) (hj : j < xs.length) : xs.getD i 0 < xs.getD j 0 := by
  induction j with
  | zero => omega
  | succ j ih =>
    have h1 := h j hj
    by_cases e : i = j
    · subst e; exact h1
    · have := ih (by omega) (by omega); omega
theorem Rise.le {xs : List Int} (h : Rise xs) {i j : Nat} (hij : i ≤ j) (hj : j < xs.length) : xs.getD i 0 ≤ xs.getD j 0 := by
  by_cases e : i = j
  · subst e; omega
  · have := h.lt (i := i) (j := j) (by omega) hj; omega
theorem bandR_length (y y' : Int) (sp : Spans) : (bandR y y' sp).length = sp.length := by simp [bandR]
theorem bandR_last (y y' : Int) (s : Run Unit) (sp : Spans) : rget (bandR y y' (s :: sp)) (sp.length) = ⟨s.1, y, s.2.1, y'⟩ := by
  simp [rget, bandR, List.getD_eq_getElem?_getD, List.getElem?_append_right, spR]
theorem set_last {α : Type} (l : List α) (a b : α) : (l ++ [a]).set l.length b = l ++ [b] := by
  induction l with
  | nil => rfl
  | cons x l ih => simp [ih]
theorem putX_band {sp : Spans} {x x' y y' : Int} (h : RunsOk sp) (hb : ∀ s ∈ sp, s.2.1 ≤ x) (hx : x < x') :
    ∃ sp', RunsOk sp' ∧ putX (bandR y y' sp) x x' y y' = bandR y y' sp' ∧ (∀ s ∈ sp', s.2.1 ≤ x') ∧ ∀ t, (look sp' t).isSome = (decide (x ≤ t ∧ t < x') || (look sp t).isSome) := by
  cases sp with
  | nil =>
    refine ⟨[(x, x', ())], ⟨hx, trivial, trivial⟩, by simp [putX, bandR, spR], fun s hs => by simp at hs; subst hs; exact Int.le_refl _, fun t => ?_⟩
    by_cases ht : x ≤ t ∧ t < x' <;> simp [look, ht]
  | cons s sp =>
    have hs := hb s (by simp)
    unfold putX
    rw [bandR_length, List.length_cons, Nat.add_sub_cancel, bandR_last]
    by_cases e : s.2.1 = x
    · rw [if_pos ⟨by omega, e⟩]
      refine ⟨(s.1, x', ()) :: sp, ⟨by have := h.1; simp only; omega, h.2.1, h.2.2⟩, ?_, fun q hq => ?_, fun t => ?_⟩
      · have e2 : bandR y y' (s :: sp) = bandR y y' sp ++ [spR y y' s] := by simp [bandR]
        have e3 : bandR y y' ((s.1, x', ()) :: sp) = bandR y y' sp ++ [⟨s.1, y, x', y'⟩] := by simp [bandR, spR]
        rw [e2, e3]
        have := set_last (bandR y y' sp) (spR y y' s) (⟨s.1, y, x', y'⟩ : Rect)
        rw [bandR_length] at this
        exact this
      · rcases List.mem_cons.1 hq with rfl | hq
        · exact Int.le_refl _
        · have := h.below q hq; have := h.1; omega
      · have h1 := h.1
        by_cases a : x ≤ t ∧ t < x'
        · rw [look, if_pos (by simp only; omega)]; simp [a]
        · by_cases b : s.1 ≤ t ∧ t < s.2.1
          · rw [look, look, if_pos (by simp only; omega), if_pos b]; simp
          · rw [look, look, if_neg (by simp only; omega), if_neg b]; simp [a]
    · rw [if_neg (fun h => e h.2)]
      refine ⟨(x, x', ()) :: s :: sp, ⟨hx, ⟨hs, fun h => absurd h e⟩, h⟩, by simp [bandR, spR], fun q hq => ?_, fun t => ?_⟩
      · rcases List.mem_cons.1 hq with rfl | hq
        · exact Int.le_refl _
        · have := hb q hq; omega
      · rw [look]
        by_cases a : x ≤ t ∧ t < x' <;> simp [a]
theorem ownL_inv {f : Int → Bool} {y y' : Int} {xs : List Int} (hr : Rise xs) (hc : ∀ k, k + 1 < xs.length → ∀ t, xs.getD k 0 ≤ t → t < xs.getD (k + 1) 0 → f t = f (xs.getD k 0)) :
    ∀ i, i < xs.length → ∃ sp, RunsOk sp ∧ ownL f y y' xs i = bandR y y' sp ∧ (∀ s ∈ sp, s.2.1 ≤ xs.getD i 0) ∧ ∀ t, (look sp t).isSome = (decide (xs.getD 0 0 ≤ t ∧ t < xs.getD i 0) && f t) := by
  intro i
  induction i with
  | zero =>
    intro _
    refine ⟨[], trivial, rfl, fun s hs => (by cases hs), fun t => ?_⟩
    have : ¬ (xs.getD 0 0 ≤ t ∧ t < xs.getD 0 0) := by omega
    rw [decide_eq_false this]; simp [look]
  | succ i ih =>
    intro hi
    obtain ⟨sp, h1, h2, h3, h4⟩ := ih (by omega)
    have hx := hr i hi
    have h0 : xs.getD 0 0 ≤ xs.getD i 0 := hr.le (by omega) (by omega)
    rw [ownL]
    cases hf : f (xs.getD i 0) with
    | true =>
      simp only [if_true]
      rw [h2]
      obtain ⟨sp', g1, g2, g3, g4⟩ := putX_band (y := y) (y' := y') h1 h3 hx
      refine ⟨sp', g1, g2, g3, fun t => ?_⟩
      rw [g4, h4]
      by_cases ht : xs.getD i 0 ≤ t ∧ t < xs.getD (i + 1) 0
      · rw [decide_eq_true ht, hc i hi t ht.1 ht.2, hf, decide_eq_true (show xs.getD 0 0 ≤ t ∧ t < xs.getD (i + 1) 0 by omega)]; simp
      · rw [decide_eq_false ht, Bool.false_or]
        congr 1
        by_cases q : xs.getD 0 0 ≤ t ∧ t < xs.getD i 0
        · rw [decide_eq_true q, decide_eq_true (by omega)]
        · rw [decide_eq_false q, decide_eq_false (by omega)]
    | false =>
      simp only [Bool.false_eq_true, if_false]
      refine ⟨sp, h1, h2, fun s hs => by have := h3 s hs; omega, fun t => ?_⟩
      rw [h4]
      by_cases ht : xs.getD i 0 ≤ t ∧ t < xs.getD (i + 1) 0
      · rw [hc i hi t ht.1 ht.2, hf]; simp
      · congr 1
        by_cases q : xs.getD 0 0 ≤ t ∧ t < xs.getD i 0
        · rw [decide_eq_true q, decide_eq_true (by omega)]
        · rw [decide_eq_false q, decide_eq_false (by omega)]
theorem ownL_all {f : Int → Bool} {y y' : Int} {xs : List Int} (hr : Rise xs) (hc : ∀ k, k + 1 < xs.length → ∀ t, xs.getD k 0 ≤ t → t < xs.getD (k + 1) 0 → f t = f (xs.getD k 0))
    (ho : ∀ t, f t = true → ∃ i j, i < xs.length ∧ j < xs.length ∧ xs.getD i 0 ≤ t ∧ t < xs.getD j 0) :
    ∃ sp, RunsOk sp ∧ ownL f y y' xs (xs.length - 1) = bandR y y' sp ∧ ∀ t, (look sp t).isSome = f t := by
  by_cases hl : xs.length = 0
  · refine ⟨[], trivial, by rw [hl]; rfl, fun t => ?_⟩
    cases hf : f t with
    | false => rfl
    | true => obtain ⟨i, _, hi, _⟩ := ho t hf; omega
  · obtain ⟨sp, h1, h2, h3, h4⟩ := ownL_inv (y := y) (y' := y') hr hc (xs.length - 1) (by omega)
    refine ⟨sp, h1, h2, fun t => ?_⟩
    rw [h4]
    cases hf : f t with
    | false => simp
    | true =>
      obtain ⟨i, j, hi, hj, a, b⟩ := ho t hf
      have := hr.le (i := 0) (j := i) (by omega) hi
      have := hr.le (i := j) (j := xs.length - 1) (by omega) (by omega)
      rw [decide_eq_true (by omega)]; rfl
abbrev Bands := List (Run Spans)
def flatR : Bands → List Rect
  | [] => []
  | b :: t => flatR t ++ bandR b.1 b.2.1 b.2.2
def memB (bs : Bands) (x y : Int) : Bool := match look bs y with
  | some sp => (look sp x).isSome
  | none => false
structure BandsOk (bs : Bands) : Prop where
  runs : RunsOk bs
  each : ∀ b ∈ bs, RunsOk b.2.2 ∧ b.2.2 ≠ []
def IsReg (l : List Rect) (F : Int → Int → Bool) : Prop := ∃ bs, BandsOk bs ∧ l = flatR bs ∧ ∀ x y, memB bs x y = F x y
theorem look_mem {β : Type} {l : List (Run β)} {p : Int} {v : β} (h : look l p = some v) : ∃ r ∈ l, r.2.2 = v ∧ r.1 ≤ p ∧ p < r.2.1 := by
  induction l with
  | nil => cases h
  | cons r t ih =>
    rw [look] at h
    split at h
    · rename_i hc
      cases h
      exact ⟨r, by simp, rfl, hc.1, hc.2⟩
    · obtain ⟨s, hs, h1, h2⟩ := ih h
      exact ⟨s, by simp [hs], h1, h2⟩
theorem look_first {β : Type} {r : Run β} {t : List (Run β)} (h : RunsOk (r :: t)) : look (r :: t) r.1 = some r.2.2 := by
  have := h.1
  rw [look, if_pos (by omega)]
theorem IsReg.unique {l l' : List Rect} {F : Int → Int → Bool} (h : IsReg l F) (h' : IsReg l' F) : l = l' := by
  obtain ⟨bs, h1, rfl, h2⟩ := h
  obtain ⟨bs', h1', rfl, h2'⟩ := h'
  have : bs = bs' := by
    refine runs_unique h1.runs h1'.runs (fun y => ?_)
    have hm : ∀ x, memB bs x y = memB bs' x y := fun x => (h2 x y).trans (h2' x y).symm
    unfold memB at hm
    cases e : look bs y with
    | none =>
      cases e' : look bs' y with
      | none => rfl
      | some sp' =>
        obtain ⟨r, hr, rfl, _⟩ := look_mem e'
        obtain ⟨g1, g2⟩ := h1'.each r hr
        cases hsp : r.2.2 with
        | nil => exact absurd hsp g2
        | cons s t =>
          rw [hsp] at g1
          have := hm s.1
          rw [e, e'] at this
          simp only [hsp, look_first g1] at this
          cases this
    | some sp =>
      obtain ⟨r, hr, rfl, _⟩ := look_mem e
      obtain ⟨g1, g2⟩ := h1.each r hr
      cases e' : look bs' y with
      | none =>
        cases hsp : r.2.2 with
        | nil => exact absurd hsp g2
        | cons s t =>
          rw [hsp] at g1
          have := hm s.1
          rw [e, e'] at this
          simp only [hsp, look_first g1] at this
          cases this
      | some sp' =>
        obtain ⟨r', hr', rfl, _⟩ := look_mem e'
        obtain ⟨g1', g2'⟩ := h1'.each r' hr'
        congr 1
        refine runs_unique g1 g1' (fun x => ?_)
        have := hm x
        rw [e, e'] at this
        simp only at this
        cases a : look r.2.2 x <;> cases b : look r'.2.2 x <;> simp_all
  rw [this]
theorem hasL_append (a b : List Rect) (x y : Int) : hasL (a ++ b) x y = (hasL a x y || hasL b x y) := by simp [hasL]
theorem hasL_band (y0 y1 : Int) (sp : Spans) (x y : Int) : hasL (bandR y0 y1 sp) x y = (decide (y0 ≤ y ∧ y < y1) && (look sp x).isSome) := by
  induction sp with
  | nil => simp [hasL, bandR, look]
  | cons s sp ih =>
    have e : bandR y0 y1 (s :: sp) = bandR y0 y1 sp ++ [spR y0 y1 s] := by simp [bandR]
    rw [e, hasL_append, ih]
    have e2 : hasL [spR y0 y1 s] x y = (decide (y0 ≤ y ∧ y < y1) && decide (s.1 ≤ x ∧ x < s.2.1)) := by
      simp only [hasL, List.any_cons, List.any_nil, Bool.or_false, spR]
      rw [Bool.eq_iff_iff, hasB_true]
      simp only [Bool.and_eq_true, decide_eq_true_eq]
      omega
    rw [e2, look]
    by_cases hx : s.1 ≤ x ∧ x < s.2.1
    · rw [if_pos hx, decide_eq_true hx]
      cases decide (y0 ≤ y ∧ y < y1) <;> simp
    · rw [if_neg hx, decide_eq_false hx]
      simp
theorem hasL_flat : ∀ {bs : Bands}, RunsOk bs → ∀ x y, hasL (flatR bs) x y = memB bs x y := by
  intro bs
  induction bs with
  | nil => intro _ x y; rfl
  | cons b t ih =>
    intro h x y
    rw [flatR, hasL_append, ih h.tail, hasL_band]
    unfold memB
    rw [look]
    by_cases hy : b.1 ≤ y ∧ y < b.2.1
    · rw [look_above h.below hy.1, if_pos hy, decide_eq_true hy]; simp
    · rw [if_neg hy, decide_eq_false hy]; simp
theorem IsReg.has {l : List Rect} {F : Int → Int → Bool} (h : IsReg l F) (x y : Int) : hasL l x y = F x y := by
  obtain ⟨bs, h1, rfl, h2⟩ := h
  rw [hasL_flat h1.runs, h2]
theorem IsReg.self {l : List Rect} {F : Int → Int → Bool} (h : IsReg l F) : IsReg l (hasL l) := by
  obtain ⟨bs, h1, rfl, h2⟩ := h
  exact ⟨bs, h1, rfl, fun x y => (hasL_flat h1.runs x y).symm⟩
theorem IsReg.congr {l : List Rect} {F G : Int → Int → Bool} (h : IsReg l F) (e : ∀ x y, F x y = G x y) : IsReg l G := by
  obtain ⟨bs, h1, rfl, h2⟩ := h
  exact ⟨bs, h1, rfl, fun x y => (h2 x y).trans (e x y)⟩
structure Alike (al : List Rect → List Rect → Int → Bool) : Prop where
  nil : ∀ o y, al [] o y = false
  none : ∀ l y, al l [] y = false
  band : ∀ (b : Run Spans) (sp : Spans) (y' : Int), b.2.2 ≠ [] → sp ≠ [] → al (bandR b.1 b.2.1 b.2.2) (bandR b.2.1 y' sp) b.2.1 = decide (b.2.2 = sp)
def setY1 (y : Int) (l : List Rect) : List Rect := l.map fun r => { r with y1 := y }
def mgSt (al : List Rect → List Rect → Int → Bool) (own : Nat → List Rect) (ys : List Int) : Nat → List Rect × List Rect
  | 0 => ([], [])
  | i + 1 => if al (mgSt al own ys i).2 (own i) (ys.getD i 0) then ((mgSt al own ys i).1, setY1 (ys.getD (i + 1) 0) (mgSt al own ys i).2) else ((mgSt al own ys i).1 ++ (mgSt al own ys i).2, own i)
def mgL (al : List Rect → List Rect → Int → Bool) (own : Nat → List Rect) (ys : List Int) : List Rect := (mgSt al own ys (ys.length - 1)).1 ++ (mgSt al own ys (ys.length - 1)).2
theorem setY1_band (y y' z : Int) (sp : Spans) : setY1 z (bandR y y' sp) = bandR y z sp := by
  simp [setY1, bandR, List.map_reverse, Function.comp_def, spR]
theorem bandR_nil_iff {y y' : Int} {sp : Spans} : bandR y y' sp = [] ↔ sp = [] := by simp [bandR]
theorem mgSt_inv {al : List Rect → List Rect → Int → Bool} (hal : Alike al) {own : Nat → List Rect} {ys : List Int} {F : Int → Int → Bool} (hr : Rise ys)
    (hown : ∀ i, i + 1 < ys.length → ∃ sp, RunsOk sp ∧ own i = bandR (ys.getD i 0) (ys.getD (i + 1) 0) sp ∧ ∀ t, (look sp t).isSome = F t (ys.getD i 0))
    (hc : ∀ k, k + 1 < ys.length → ∀ t, ys.getD k 0 ≤ t → t < ys.getD (k + 1) 0 → ∀ x, F x t = F x (ys.getD k 0)) :
    ∀ i, i < ys.length → ∃ bs, BandsOk bs ∧ (mgSt al own ys i).1 ++ (mgSt al own ys i).2 = flatR bs ∧ (∀ b ∈ bs, b.2.1 ≤ ys.getD i 0) ∧
      ((mgSt al own ys i).2 = [] ∧ (∀ b ∈ bs, b.2.1 < ys.getD i 0) ∨ ∃ b t, bs = b :: t ∧ (mgSt al own ys i).1 = flatR t ∧ (mgSt al own ys i).2 = bandR b.1 b.2.1 b.2.2 ∧ b.2.1 = ys.getD i 0) ∧
      ∀ x y, memB bs x y = (decide (ys.getD 0 0 ≤ y ∧ y < ys.getD i 0) && F x y) := by
  intro i
  induction i with
  | zero =>
    intro _
    refine ⟨[], ⟨trivial, fun b hb => by cases hb⟩, rfl, fun b hb => (by cases hb), .inl ⟨rfl, fun b hb => by cases hb⟩, fun x y => ?_⟩
    rw [decide_eq_false (by omega)]; rfl
  | succ i ih =>
    intro hi
    obtain ⟨bs, h1, h2, h3, h4, h5⟩ := ih (by omega)
    obtain ⟨sp, s1, s2, s3⟩ := hown i hi
    have hy := hr i hi
    have h0 : ys.getD 0 0 ≤ ys.getD i 0 := hr.le (by omega) (by omega)
    -- the points of one more cell
    have pts : ∀ x y, (decide (ys.getD 0 0 ≤ y ∧ y < ys.getD (i + 1) 0) && F x y) = if ys.getD i 0 ≤ y ∧ y < ys.getD (i + 1) 0 then (look sp x).isSome else (decide (ys.getD 0 0 ≤ y ∧ y < ys.getD i 0) && F x y) := by
      intro x y
      by_cases hc1 : ys.getD i 0 ≤ y ∧ y < ys.getD (i + 1) 0
      · rw [if_pos hc1, decide_eq_true (by omega), hc i hi y hc1.1 hc1.2 x, s3]; rfl
      · rw [if_neg hc1]
        congr 1
        by_cases q : ys.getD 0 0 ≤ y ∧ y < ys.getD i 0
        · rw [decide_eq_true q, decide_eq_true (by omega)]
        · rw [decide_eq_false q, decide_eq_false (by omega)]
    rw [mgSt]
    by_cases hsp : sp = []
    · -- nothing in the cell
      subst hsp
      have ho : own i = [] := by rw [s2]; rfl
      rw [ho, hal.none]
      simp only [Bool.false_eq_true, if_false]
      refine ⟨bs, h1, by rw [List.append_nil]; exact h2, fun b hb => by have := h3 b hb; omega, .inl ⟨trivial, fun b hb => by have := h3 b hb; omega⟩, fun x y => ?_⟩
      rw [pts, h5]
      split
      · rw [decide_eq_false (by omega)]; rfl
      · rfl
    · have newband : (∀ b t, bs = b :: t → b.2.1 = ys.getD i 0 → b.2.2 ≠ sp) → ∃ bs', BandsOk bs' ∧ ((mgSt al own ys i).1 ++ (mgSt al own ys i).2) ++ own i = flatR bs' ∧ (∀ b ∈ bs', b.2.1 ≤ ys.getD (i + 1) 0) ∧
          (own i = [] ∧ (∀ b ∈ bs', b.2.1 < ys.getD (i + 1) 0) ∨ ∃ b t, bs' = b :: t ∧ ((mgSt al own ys i).1 ++ (mgSt al own ys i).2) = flatR t ∧ own i = bandR b.1 b.2.1 b.2.2 ∧ b.2.1 = ys.getD (i + 1) 0) ∧
          ∀ x y, memB bs' x y = (decide (ys.getD 0 0 ≤ y ∧ y < ys.getD (i + 1) 0) && F x y) := by
        intro hne
        refine ⟨(ys.getD i 0, ys.getD (i + 1) 0, sp) :: bs, ⟨⟨hy, ?_, h1.runs⟩, fun b hb => ?_⟩, by rw [flatR, h2, s2], fun b hb => ?_, .inr ⟨_, _, rfl, h2, s2, rfl⟩, fun x y => ?_⟩
        · cases bs with
          | nil => trivial
          | cons b t => exact ⟨h3 b (by simp), fun he => hne b t rfl he⟩
        · rcases List.mem_cons.1 hb with rfl | hb
          · exact ⟨s1, hsp⟩
          · exact h1.each b hb
        · rcases List.mem_cons.1 hb with rfl | hb
          · exact Int.le_refl _
          · have := h3 b hb; omega
        · rw [pts, ← h5]
          unfold memB
          rw [look]
          simp only
          by_cases hc1 : ys.getD i 0 ≤ y ∧ y < ys.getD (i + 1) 0
          · rw [if_pos hc1, if_pos hc1]
          · rw [if_neg hc1, if_neg hc1]
      rcases h4 with ⟨hl, hlt⟩ | ⟨b, t, rfl, g1, g2, g3⟩
      · rw [hl, hal.nil]
        simp only [Bool.false_eq_true, if_false]
        rw [hl] at newband
        exact newband (fun b t hb he => by have := hlt b (by rw [hb]; simp); omega)
      · have hb := h1.each b (by simp)
        have ha : al (mgSt al own ys i).2 (own i) (ys.getD i 0) = decide (b.2.2 = sp) := by
          rw [g2, s2, ← g3]; exact hal.band b sp _ hb.2 hsp
        rw [ha]
        by_cases he : b.2.2 = sp
        · rw [decide_eq_true he]
          simp only [if_true]
          refine ⟨(b.1, ys.getD (i + 1) 0, sp) :: t, ⟨⟨by have := h1.runs.1; simp only; omega, ?_, h1.runs.2.2⟩, fun q hq => ?_⟩, ?_, fun q hq => ?_, .inr ⟨_, _, rfl, g1, ?_, rfl⟩, fun x y => ?_⟩
          · have := h1.runs.2.1
            rw [he] at this
            exact this
          · rcases List.mem_cons.1 hq with rfl | hq
            · exact ⟨s1, hsp⟩
            · exact h1.each q (by simp [hq])
          · rw [g1, g2, setY1_band, he]; rfl
          · rcases List.mem_cons.1 hq with rfl | hq
            · exact Int.le_refl _
            · have := h3 q (by simp [hq]); omega
          · rw [g2, setY1_band, he]
          · rw [pts, ← h5]
            have h6 := h1.runs.1
            unfold memB
            rw [look, look]
            simp only
            by_cases hc1 : ys.getD i 0 ≤ y ∧ y < ys.getD (i + 1) 0
            · rw [if_pos (by omega), if_pos hc1]
            · rw [if_neg hc1]
              by_cases hc2 : b.1 ≤ y ∧ y < b.2.1
              · rw [if_pos (by omega), if_pos hc2, he]
              · rw [if_neg (by omega), if_neg hc2]
        · rw [decide_eq_false he]
          simp only [Bool.false_eq_true, if_false]
          exact newband (fun b' t' hb' _ => by cases hb'; exact he)
theorem mgL_isReg {al : List Rect → List Rect → Int → Bool} (hal : Alike al) {own : Nat → List Rect} {ys : List Int} {F : Int → Int → Bool} (hr : Rise ys)
    (hown : ∀ i, i + 1 < ys.length → ∃ sp, RunsOk sp ∧ own i = bandR (ys.getD i 0) (ys.getD (i + 1) 0) sp ∧ ∀ t, (look sp t).isSome = F t (ys.getD i 0))
    (hc : ∀ k, k + 1 < ys.length → ∀ t, ys.getD k 0 ≤ t → t < ys.getD (k + 1) 0 → ∀ x, F x t = F x (ys.getD k 0))
    (ho : ∀ x t, F x t = true → ∃ i j, i < ys.length ∧ j < ys.length ∧ ys.getD i 0 ≤ t ∧ t < ys.getD j 0) : IsReg (mgL al own ys) F := by
  by_cases hl : ys.length = 0
  · refine ⟨[], ⟨trivial, fun b hb => by cases hb⟩, by unfold mgL; rw [hl]; rfl, fun x y => ?_⟩
    cases hf : F x y with
    | false => rfl
    | true => obtain ⟨i, _, hi, _⟩ := ho x y hf; omega
  · obtain ⟨bs, h1, h2, _, _, h5⟩ := mgSt_inv hal hr hown hc (ys.length - 1) (by omega)
    refine ⟨bs, h1, h2, fun x y => ?_⟩
    rw [h5]
    cases hf : F x y with
    | false => simp
    | true =>
      obtain ⟨i, j, hi, hj, a, b⟩ := ho x y hf
      have := hr.le (i := 0) (j := i) (by omega) hi
      have := hr.le (i := j) (j := ys.length - 1) (by omega) (by omega)
      rw [decide_eq_true (by omega)]; rfl
end Go.Proofs.Ytlfahohbkgdabaa
