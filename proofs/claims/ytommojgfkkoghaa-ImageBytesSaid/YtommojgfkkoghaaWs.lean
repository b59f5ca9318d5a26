/- Plain laws of Write: what is read is written as it was; bytes that are refused. -/
import Derived.Test.YtommojgfkkoghaaWr
set_option linter.unusedVariables false
set_option linter.unusedSimpArgs false
namespace Go.Proofs.Ytommojgfkkoghaa
open Go Go.RowKit
theorem wf8 {x : Int} (h : (Lit.int .u8 x).wf = true) : 0 ≤ x ∧ x ≤ 255 := by
  simp [Lit.wf, IntKind.min, IntKind.max, IntKind.bits, IntKind.signed] at h
  omega
theorem run_sliceHiC {P : Program} {t e : TypeId} {g o n cap sz : Nat} {kh : IntKind} {h : Int} (hn : Nat) (hu : P.underlying t = some (.slice e)) (hi : (P.info? e).map (·.size) = some sz) (h0 : 0 ≤ h) (h2 : h ≤ (cap : Int)) (hh : h.toNat = hn) (w : World) :
    (Instr.sliceAt t (.slice (some ⟨g, o, none⟩) n cap) none (some (.int kh h)) none).run P w = .ok (.slice (some ⟨g, o, none⟩) hn cap) w := by
  subst hh
  obtain ⟨i, hi1, hi2⟩ := Option.map_eq_some_iff.1 hi
  have ha : (⟨g, o, none⟩ : Addr).add 0 = ⟨g, o, none⟩ := by unfold Addr.add; split <;> simp_all
  simp only [Instr.sliceAt, Instr.slice, Instr.sliceBounds, Instr.sliceBound, asIntOf]
  simp [Sem.run_bind, run_underlying hu, h0, h2, sizeOf, typeInfo, hi1, hi2, ha]
theorem Vw.rowHeadN {A : Option Addr} {g n cap : Nat} {e : TypeId} {k : IntKind} {xs : List Int} {o' : Bool} {m : Nat} (hm : m ≤ n) : Vw (.gen (rowE A g n cap e 1 (ivals k xs) o')) (.gen (rdE A g 0 m 1 (ivals k (xs.take m)))) := by
  have key : ∀ w, Row w A g n cap e 1 (ivals k xs) → Rd w A g 0 m 1 (ivals k (xs.take m)) := by
    intro w h
    have hl := h.facts.2.1
    refine ⟨by rw [ivals_length, List.length_take]; omega, fun hp => h.rd.at_ (by omega), fun j v hj => h.rd.cell j v ?_⟩
    unfold ivals at hj ⊢
    rw [List.map_take, List.getElem?_take] at hj
    split at hj
    · exact hj
    · cases hj
  refine ⟨key, fun w h k' hk => ?_, fun h => (by cases h), rfl⟩
  obtain ⟨rfl, hne⟩ := hk
  refine ⟨rfl, fun hA => hne ?_⟩
  subst hA
  have h : Row w none k' n cap e 1 (ivals k xs) := h
  have hn : n = 0 := by
    rcases Nat.eq_zero_or_pos n with h0 | h0
    · exact h0
    · have := h.at_ h0; cases this
  subst hn
  have := h.facts.2.1
  rw [List.length_eq_zero_iff] at this
  subst this
  simp [ivals]
theorem rep_byte (N m : Nat) : ∀ x ∈ (List.replicate N (0 : Int)).take m, 0 ≤ x ∧ x ≤ 255 := fun x hx => by
  have := (List.mem_replicate.1 (List.mem_of_mem_take hx)).2
  subst this; decide
theorem rep_byte1 (N : Nat) : ∀ x ∈ List.replicate N (0 : Int) ++ [0], 0 ≤ x ∧ x ≤ 255 := fun x hx => by
  rcases List.mem_append.1 hx with h | h
  · have := (List.mem_replicate.1 h).2; subst this; decide
  · have := List.mem_singleton.1 h; subst this; decide
theorem rep_byte2 (N j : Nat) : ∀ x ∈ (List.replicate N (0 : Int)).set j 1, 0 ≤ x ∧ x ≤ 255 := fun x hx => by
  rcases List.mem_or_eq_of_mem_set hx with h | h
  · have := (List.mem_replicate.1 h).2; subst this; decide
  · subst h; decide
theorem rep_get (N j : Nat) : (List.replicate N (0 : Int)).getD j 0 = 0 := by
  rw [List.getD_eq_getElem?_getD, List.getElem?_replicate]
  split <;> rfl
theorem bad_last {N A j : Nat} (hN : N = 4 * A) (hA : 1 ≤ A) (hj : j = N - 1) : mayB (mkB ((List.replicate N (0 : Int)).set j 1) (A - 1)) = false := by
  have e : ∀ q, q ≠ j → ((List.replicate N (0 : Int)).set j 1).getD q 0 = 0 := fun q hq => by
    rw [List.getD_eq_getElem?_getD, List.getElem?_set_ne (Ne.symm hq), ← List.getD_eq_getElem?_getD, rep_get]
  have e1 : ((List.replicate N (0 : Int)).set j 1).getD j 0 = 1 := by
    rw [List.getD_eq_getElem?_getD, List.getElem?_set_self (by rw [List.length_replicate]; omega)]; rfl
  unfold mkB
  rw [e _ (by omega), e _ (by omega), e _ (by omega), show 4 * (A - 1) + 3 = j by omega, e1]
  decide
/-! ### What is read, and written again -/
theorem mkC_pa {d : Int} (h : InC d) : mkC (pa d) (pr d) (pg d) (pb d) = d := by
  obtain ⟨h1, h2⟩ := h
  unfold mkC clip pa pr pg pb
  omega
theorem flat4_len {f : Nat → List Int} (hf : ∀ k, (f k).length = 4) : ∀ A : Nat, ((List.range A).flatMap f).length = 4 * A := by
  intro A
  induction A with
  | zero => rfl
  | succ A ih => rw [List.range_succ, List.flatMap_append, List.length_append, ih]; simp [hf]; omega
theorem flat4_get {f : Nat → List Int} (hf : ∀ k, (f k).length = 4) {k q : Nat} (hq : q < 4) : ∀ A : Nat, k < A → ((List.range A).flatMap f).getD (4 * k + q) 0 = (f k).getD q 0 := by
  intro A
  induction A with
  | zero => intro h; omega
  | succ A ih =>
    intro h
    have hl := flat4_len hf A
    rw [List.range_succ, List.flatMap_append, List.getD_eq_getElem?_getD]
    rcases Nat.lt_or_ge k A with h1 | h1
    · rw [List.getElem?_append_left (by omega), ← List.getD_eq_getElem?_getD]; exact ih h1
    · have : k = A := by omega
      subst this
      rw [List.getElem?_append_right (by omega), hl, show 4 * k + q - 4 * k = q by omega, List.getD_eq_getElem?_getD]
      simp
theorem rdP_flat (W : Int) (px : List Int) {a b c : Int} {w : Nat} (hw : w = Int.toNat (c - a)) (h0 : 0 ≤ a) (hb : 0 ≤ b) (hW : 0 ≤ W) : ∀ j : Nat, rdP W px a b c j = (List.range (j * w)).flatMap fun k => parts4 (px.getD (wIdx W a b w k) 0) := by
  intro j
  induction j with
  | zero => simp [rdP]
  | succ j ih =>
    rw [rdP_succ, ih, show (j + 1) * w = j * w + w by rw [Nat.add_mul, Nat.one_mul], List.range_add, List.flatMap_append]
    congr 1
    unfold rdRow rdK
    rw [← hw, List.flatMap_map]
    have hp : 0 ≤ (b + (j : Int)) * W := Int.mul_nonneg (by omega) hW
    refine congrArg List.flatten (List.map_congr_left fun t ht => ?_)
    have ht := List.mem_range.1 ht
    have hw0 : 0 < w := by omega
    have : wIdx W a b w (j * w + t) = Int.toNat ((b + (j : Int)) * W + a) + t := by
      unfold wIdx
      rw [show (j * w + t) / w = j by rw [Nat.add_comm, Nat.add_mul_div_right _ _ hw0, Nat.div_eq_of_lt (by omega), Nat.zero_add], show (j * w + t) % w = t by rw [Nat.add_comm, Nat.add_mul_mod_self_right, Nat.mod_eq_of_lt (by omega)]]
      omega
    show parts4 _ = parts4 _
    rw [this]
structure InR (W H a b c d : Int) (w h n : Nat) : Prop where
  a0 : 0 ≤ a
  ac : a < c
  cW : c ≤ W
  b0 : 0 ≤ b
  bd : b < d
  dH : d ≤ H
  w_ : (w : Int) = c - a
  h_ : (h : Int) = d - b
  n_ : (n : Int) = W * H
theorem InR.idx {W H a b c d : Int} {w h n : Nat} (R : InR W H a b c d w h n) {k : Nat} (hk : k < h * w) : ((wIdx W a b w k : Nat) : Int) = (b + ((k / w : Nat) : Int)) * W + (a + ((k % w : Nat) : Int)) ∧ a + ((k % w : Nat) : Int) < W ∧ b + ((k / w : Nat) : Int) < d ∧ wIdx W a b w k < n := by
  obtain ⟨h1, h2, h3, h4, h5, h6, h7, h8, h9⟩ := R
  have hw : 0 < w := by omega
  have hm := Nat.mod_lt k hw
  have hd : k / w < h := Nat.div_lt_of_lt_mul (by rwa [Nat.mul_comm])
  unfold wIdx
  generalize k / w = y at *
  generalize k % w = x at *
  have hp : 0 ≤ (b + (y : Int)) * W := Int.mul_nonneg (by omega) (by omega)
  have hq : (b + (y : Int) + 1) * W ≤ H * W := Int.mul_le_mul_of_nonneg_right (by omega) (by omega)
  rw [Int.add_mul, Int.one_mul, Int.mul_comm H] at hq
  exact ⟨by omega, by omega, by omega, by omega⟩
theorem InR.inj {W H a b c d : Int} {w h n : Nat} (R : InR W H a b c d w h n) {k l : Nat} (hk : k < h * w) (hl : l < h * w) (he : wIdx W a b w k = wIdx W a b w l) : k = l := by
  obtain ⟨e1, e2, e3, _⟩ := R.idx hk
  obtain ⟨f1, f2, f3, _⟩ := R.idx hl
  have a0 := R.a0
  rw [he, f1] at e1
  have hW : W ≠ 0 := by omega
  have m1 := congrArg (· % W) e1
  have d1 := congrArg (· / W) e1
  simp only [Int.add_comm _ (a + _), Int.add_mul_emod_self_right, Int.add_mul_ediv_right _ _ hW] at m1 d1
  rw [Int.emod_eq_of_lt (by omega) (by omega), Int.emod_eq_of_lt (by omega) (by omega)] at m1
  rw [Int.ediv_eq_zero_of_lt (by omega) (by omega), Int.ediv_eq_zero_of_lt (by omega) (by omega)] at d1
  have x1 : k / w = l / w := by omega
  have x2 : k % w = l % w := by omega
  rw [← Nat.div_add_mod k w, ← Nat.div_add_mod l w, x1, x2]
theorem InR.inv {W H a b c d : Int} {w h n : Nat} (R : InR W H a b c d w h n) {i : Nat} (hi : hasB a b c d ((i : Int) % W) ((i : Int) / W) = true) : ∃ k, k < h * w ∧ wIdx W a b w k = i := by
  obtain ⟨h1, h2, h3, h4⟩ := hasB_true.1 hi
  obtain ⟨r1, r2, r3, r4, r5, r6, r7, r8, r9⟩ := R
  have hw : 0 < w := by omega
  obtain ⟨y, hy⟩ : ∃ y : Nat, (y : Int) = (i : Int) / W - b := ⟨Int.toNat ((i : Int) / W - b), by omega⟩
  obtain ⟨x, hx⟩ : ∃ x : Nat, (x : Int) = (i : Int) % W - a := ⟨Int.toNat ((i : Int) % W - a), by omega⟩
  refine ⟨y * w + x, ?_, ?_⟩
  · have : (y + 1) * w ≤ h * w := Nat.mul_le_mul_right _ (by omega)
    rw [Nat.add_mul, Nat.one_mul] at this
    omega
  · unfold wIdx
    rw [show (y * w + x) / w = y by rw [Nat.add_comm, Nat.add_mul_div_right _ _ hw, Nat.div_eq_of_lt (by omega), Nat.zero_add], show (y * w + x) % w = x by rw [Nat.add_comm, Nat.add_mul_mod_self_right, Nat.mod_eq_of_lt (by omega)]]
    rw [show b + (y : Int) = (i : Int) / W by omega]
    have := Int.mul_ediv_add_emod (i : Int) W
    rw [Int.mul_comm] at this
    omega
theorem InR.get {W H a b c d : Int} {w h n : Nat} (R : InR W H a b c d w h n) {bs z : List Int} (hz : z.length = n) {k : Nat} : ∀ K, k < K → K ≤ h * w → (wrS W a b w bs z K).getD (wIdx W a b w k) 0 = mkB bs k := by
  intro K
  induction K with
  | zero => intro h1; omega
  | succ K ih =>
    intro h1 h2
    have hl := wrS_length W a b w bs z K
    obtain ⟨_, _, _, hb⟩ := R.idx (k := K) (by omega)
    rw [wrS, List.getD_eq_getElem?_getD]
    rcases Nat.lt_or_ge k K with h3 | h3
    · rw [List.getElem?_set_ne (fun he => by have := R.inj (by omega) (by omega) he; omega), ← List.getD_eq_getElem?_getD]
      exact ih h3 (by omega)
    · have : k = K := by omega
      subst this
      rw [List.getElem?_set_self (by omega)]; rfl
theorem inR_of {W H a b c d : Int} {n : Nat} {px : List Int} (hok : ImgOk W H n px) (hg : insB W H a b c d = true) : InR W H a b c d (Int.toNat (c - a)) (Int.toNat (d - b)) n := by
  obtain ⟨h1, h2, h3, h4, h5, h6⟩ := insB_true hg
  exact ⟨h3, h1, h5, h4, h2, h6, by omega, by omega, hok.num⟩
theorem mkB_read {W H a b c d : Int} {n : Nat} {px : List Int} (hok : ImgOk W H n px) (hg : insB W H a b c d = true) {k : Nat} (hk : k < Int.toNat (d - b) * Int.toNat (c - a)) : mkB (readL W px a b c d) k = px.getD (wIdx W a b (Int.toNat (c - a)) k) 0 := by
  have R := inR_of hok hg
  have hi := (R.idx hk).2.2.2
  have hc : InC (px.getD (wIdx W a b (Int.toNat (c - a)) k) 0) := by
    rw [List.getD_eq_getElem?_getD, List.getElem?_eq_getElem (by rw [hok.len]; exact hi)]
    exact hok.rng _ (List.getElem_mem _)
  have e : readL W px a b c d = (List.range (Int.toNat (d - b) * Int.toNat (c - a))).flatMap fun k => parts4 (px.getD (wIdx W a b (Int.toNat (c - a)) k) 0) := rdP_flat W px rfl R.a0 R.b0 (by have := hok.w1; omega) _
  unfold mkB
  have f := fun q hq => flat4_get (f := fun k => parts4 (px.getD (wIdx W a b (Int.toNat (c - a)) k) 0)) (fun k => rfl) (q := q) hq _ hk
  rw [e, show 4 * k = 4 * k + 0 from rfl, f 0 (by omega), f 1 (by omega), f 2 (by omega), f 3 (by omega)]
  exact mkC_pa hc
theorem area_rc {W H a b c d : Int} {n : Nat} {px : List Int} (hok : ImgOk W H n px) (hg : insB W H a b c d = true) : ((Int.toNat (d - b) * Int.toNat (c - a) : Nat) : Int) = areaI a b c d := by
  have R := inR_of hok hg
  rw [(ins_area hok hg).1, Int.natCast_mul, R.w_, R.h_, Int.mul_comm]
theorem readL_len {W : Int} {px : List Int} {a b c d : Int} : (readL W px a b c d).length = 4 * (Int.toNat (d - b) * Int.toNat (c - a)) := by
  unfold readL
  rw [rdP_length]
  rw [Nat.mul_left_comm]
theorem wrE_read {W H a b c d : Int} {n : Nat} {px : List Int} (hok : ImgOk W H n px) (hm : AllMay px) (hg : insB W H a b c d = true) : wrE W H a b c d (readL W px a b c d) = 0 := by
  have h1 := area_rc hok hg
  have h2 : (readL W px a b c d).length = _ := readL_len
  refine wrE_ok hg (by omega) (N := Int.toNat (d - b) * Int.toNat (c - a)) (by omega) (fun k hk => ?_)
  rw [mkB_read hok hg hk]
  exact (hm.get (by rw [hok.len]; exact ((inR_of hok hg).idx hk).2.2.2)).1
theorem solid_write {W H a b c d : Int} {n : Nat} {px z : List Int} (hok : ImgOk W H n px) (hm : AllMay px) (hz : z.length = n) (hg : insB W H a b c d = true) : solidP W (wrA W H z a b c d (readL W px a b c d)) a b c d = solidP W px a b c d := by
  have R := inR_of hok hg
  have hl : (readL W px a b c d).length = _ := readL_len
  rw [wrA_yes (wrE_read hok hm hg), show (readL W px a b c d).length / 4 = Int.toNat (d - b) * Int.toNat (c - a) by omega]
  unfold solidP
  rw [wrS_length, hz, hok.len]
  refine decide_eq_decide.2 (forall_congr' fun i => forall_congr' fun hi => forall_congr' fun hh => ?_)
  obtain ⟨k, hk, rfl⟩ := R.inv hh
  rw [R.get hz _ hk (Nat.le_refl _), mkB_read hok hg hk]
end Go.Proofs.Ytommojgfkkoghaa
