/- What is drawn on an image, point by point. -/
import Derived.Test.YtgpcgfjfmjehgaaGreatPiPs
import Derived.LaidEqlPtr
set_option linter.unusedVariables false
set_option linter.unusedSimpArgs false
namespace Go.Proofs.YtgpcgfjfmjehgaaGreat
open Go Go.RowKit

/-! ### Colors that may be -/
theorem clip_mono {a b : Int} (h : a ≤ b) : clip a ≤ clip b := by unfold clip; omega
theorem partI_mono {p q : Int} (t : Int) (h : p ≤ q) : partI p t ≤ partI q t := by
  have h1 := Int.mul_le_mul_of_nonneg_right (clip_mono h) (clip_range t).1
  unfold partI; omega
theorem mayB_iff {c : Int} : mayB c = true ↔ pr c ≤ pa c ∧ pg c ≤ pa c ∧ pb c ≤ pa c := by simp [mayB, and_assoc]
theorem mayB_mk {a r g b : Int} (h1 : r ≤ a) (h2 : g ≤ a) (h3 : b ≤ a) : mayB (mkC a r g b) = true := by
  obtain ⟨e1, e2, e3, e4⟩ := parts_mk a r g b
  rw [mayB_iff, e1, e2, e3, e4]
  exact ⟨clip_mono h1, clip_mono h2, clip_mono h3⟩
theorem overC_may {c d : Int} (hc : mayB c = true) (hd : mayB d = true) : mayB (overC c d) = true := by
  obtain ⟨h1, h2, h3⟩ := mayB_iff.1 hc
  obtain ⟨g1, g2, g3⟩ := mayB_iff.1 hd
  have e1 := partI_mono (255 - pa c) g1
  have e2 := partI_mono (255 - pa c) g2
  have e3 := partI_mono (255 - pa c) g3
  exact mayB_mk (by omega) (by omega) (by omega)
theorem fadeC_may {c : Int} (al : Int) (hc : mayB c = true) : mayB (fadeC c al) = true := by
  obtain ⟨h1, h2, h3⟩ := mayB_iff.1 hc
  exact mayB_mk (partI_mono al h1) (partI_mono al h2) (partI_mono al h3)
theorem mayB_zero : mayB 0 = true := by decide
theorem atC_may {W H : Int} {px : List Int} (h : AllMay px) (x y : Int) : mayB (atC W H px x y) = true ∧ InC (atC W H px x y) := by
  unfold atC
  split
  · rw [List.getD_eq_getElem?_getD]
    cases e : px[(y * W + x).toNat]? with
    | none => exact ⟨mayB_zero, by decide, by decide⟩
    | some c => exact h c (List.mem_of_getElem? e)
  · exact ⟨mayB_zero, by decide, by decide⟩
/-- A layer's color at a point, as a walk draws it. -/
def ColF (f : Int → Int → Int) : Prop := ∀ x y, mayB (f x y) = true ∧ InC (f x y)
theorem pcolC_may {px : List Int} (h : AllMay px) (W H X Y s al a b c d : Int) : ColF (pcolC W H X Y s al a b c d px) := by
  intro x y
  unfold pcolC
  split
  · exact ⟨fadeC_may _ (atC_may h _ _).1, fadeC_in _ _⟩
  · exact ⟨mayB_zero, by decide, by decide⟩
theorem pcolC_in (px : List Int) (W H X Y s al a b c d x y : Int) : InC (pcolC W H X Y s al a b c d px x y) := by
  unfold pcolC
  split
  · exact fadeC_in _ _
  · exact ⟨by decide, by decide⟩

/-! ### Points drawn one by one -/
def drawF (W H : Int) (f : Int → Int → Int) (px : List Int) (ps : List (Int × Int)) : List Int := ps.foldl (fun l p => setL W H l p.1 p.2 (overC (f p.1 p.2) (atC W H l p.1 p.2))) px
theorem drawF_snoc (W H : Int) (f : Int → Int → Int) (px : List Int) (ps : List (Int × Int)) (p : Int × Int) : drawF W H f px (ps ++ [p]) = setL W H (drawF W H f px ps) p.1 p.2 (overC (f p.1 p.2) (atC W H (drawF W H f px ps) p.1 p.2)) := by simp [drawF]
theorem ImgOk.drawF {W H : Int} {n : Nat} {px : List Int} (h : ImgOk W H n px) (f : Int → Int → Int) (ps : List (Int × Int)) : ImgOk W H n (drawF W H f px ps) := by
  induction ps generalizing px with
  | nil => exact h
  | cons p ps ih => exact ih (h.setL _ _ (overC_in _ _))
theorem setL_may {W H : Int} {px : List Int} (h : AllMay px) (x y : Int) {c : Int} (hc : InC c) : AllMay (setL W H px x y c) := by
  unfold setL
  split
  · rename_i hh
    intro q hq
    rcases List.mem_or_eq_of_mem_set hq with hq | rfl
    · exact h q hq
    · exact ⟨(Bool.and_eq_true_iff.1 hh).2, hc⟩
  · exact h
theorem pt_eq {W : Int} {p : Int × Int} {k : Nat} (h1 : 0 ≤ p.1) (h2 : p.1 < W) (h3 : 0 ≤ p.2) (e : (p.2 * W + p.1).toNat = k) : p = (((k : Nat) : Int) % W, ((k : Nat) : Int) / W) := by
  have h4 : 0 ≤ p.2 * W := Int.mul_nonneg h3 (by omega)
  have h5 : ((k : Nat) : Int) = p.1 + p.2 * W := by omega
  refine Prod.ext ?_ ?_
  · simp only; rw [h5, Int.add_mul_emod_self_right, Int.emod_eq_of_lt h1 h2]
  · simp only; rw [h5, Int.add_mul_ediv_right _ _ (by omega), Int.ediv_eq_zero_of_lt h1 h2]; omega
theorem drawF_get {W H : Int} {n : Nat} {f : Int → Int → Int} (hf : ColF f) : ∀ {ps : List (Int × Int)} {px : List Int}, ImgOk W H n px → AllMay px → ps.Nodup → (∀ p ∈ ps, 0 ≤ p.1 ∧ p.1 < W ∧ 0 ≤ p.2 ∧ p.2 < H) → ∀ {k : Nat}, k < n →
    (drawF W H f px ps).getD k 0 = if ((((k : Nat) : Int) % W, ((k : Nat) : Int) / W) : Int × Int) ∈ ps then overC (f (((k : Nat) : Int) % W) (((k : Nat) : Int) / W)) (px.getD k 0) else px.getD k 0 := by
  intro ps
  induction ps with
  | nil => intro px _ _ _ _ k _; simp [drawF]
  | cons p ps ih =>
    intro px hok hm hnd hin k hk
    obtain ⟨h1, h2, h3, h4⟩ := hin p (List.mem_cons_self ..)
    have hin' : ∀ q ∈ ps, 0 ≤ q.1 ∧ q.1 < W ∧ 0 ≤ q.2 ∧ q.2 < H := fun q hq => hin q (List.mem_cons_of_mem _ hq)
    have hnp : p ∉ ps := (List.nodup_cons.1 hnd).1
    have hhas : hasB 0 0 W H p.1 p.2 = true := hasB_true.2 ⟨h1, h2, h3, h4⟩
    have hmay := overC_may (hf p.1 p.2).1 (atC_may (W := W) (H := H) hm p.1 p.2).1
    have hstep : setL W H px p.1 p.2 (overC (f p.1 p.2) (atC W H px p.1 p.2)) = px.set (p.2 * W + p.1).toNat (overC (f p.1 p.2) (px.getD (p.2 * W + p.1).toNat 0)) := by
      rw [setL, hhas, hmay, Bool.and_self, if_pos rfl]
      rw [atC, hhas, if_pos rfl]
    show (drawF W H f (setL W H px p.1 p.2 (overC (f p.1 p.2) (atC W H px p.1 p.2))) ps).getD k 0 = _
    rw [ih (hok.setL _ _ (overC_in _ _)) (setL_may hm _ _ (overC_in _ _)) (List.nodup_cons.1 hnd).2 hin' hk, hstep]
    have hpl := hok.place h1 h2 h3 h4
    by_cases e : (p.2 * W + p.1).toNat = k
    · have hp := pt_eq h1 h2 h3 e
      rw [← hp, if_neg hnp, if_pos (List.mem_cons_self ..), ← e]
      rw [hp] at hnp
      have hlt : (p.2 * W + p.1).toNat < px.length := by rw [hok.len]; omega
      have e1 : f (((k : Nat) : Int) % W) (((k : Nat) : Int) / W) = f p.1 p.2 := by rw [show ((k : Nat) : Int) % W = p.1 from (congrArg Prod.fst hp).symm, show ((k : Nat) : Int) / W = p.2 from (congrArg Prod.snd hp).symm]
      rw [e, e1, ← e]
      simp [List.getD_eq_getElem?_getD, hlt]
    · have hne : p ≠ (((k : Nat) : Int) % W, ((k : Nat) : Int) / W) := by
        intro hp
        apply e
        have q1 := congrArg Prod.fst hp
        have q2 := congrArg Prod.snd hp
        simp only at q1 q2
        have := Int.emod_add_mul_ediv (k : Int) W
        rw [q1, q2, Int.mul_comm]
        omega
      have hmem : (((((k : Nat) : Int) % W, ((k : Nat) : Int) / W) : Int × Int) ∈ p :: ps) ↔ (((((k : Nat) : Int) % W, ((k : Nat) : Int) / W) : Int × Int) ∈ ps) := by
        rw [List.mem_cons]
        exact ⟨fun h => h.resolve_left (fun h => hne h.symm), .inr⟩
      have hg : (px.set (p.2 * W + p.1).toNat (overC (f p.1 p.2) (px.getD (p.2 * W + p.1).toNat 0))).getD k 0 = px.getD k 0 := by
        rw [List.getD_eq_getElem?_getD, List.getElem?_set_ne e, ← List.getD_eq_getElem?_getD]
      rw [hg]
      by_cases hq : ((((k : Nat) : Int) % W, ((k : Nat) : Int) / W) : Int × Int) ∈ ps
      · rw [if_pos hq, if_pos (hmem.2 hq)]
      · rw [if_neg hq, if_neg (fun h => hq (hmem.1 h))]

/-! ### A region drawn -/
def drawL (W : Int) (R : List Rect) (f : Int → Int → Int) (px : List Int) : List Int := (List.range px.length).map fun k => if hasL R (((k : Nat) : Int) % W) (((k : Nat) : Int) / W) then overC (f (((k : Nat) : Int) % W) (((k : Nat) : Int) / W)) (px.getD k 0) else px.getD k 0
theorem drawL_length (W : Int) (R : List Rect) (f : Int → Int → Int) (px : List Int) : (drawL W R f px).length = px.length := by simp [drawL]
theorem drawL_get {W : Int} {R : List Rect} {f : Int → Int → Int} {px : List Int} {k : Nat} (h : k < px.length) : (drawL W R f px).getD k 0 = if hasL R (((k : Nat) : Int) % W) (((k : Nat) : Int) / W) then overC (f (((k : Nat) : Int) % W) (((k : Nat) : Int) / W)) (px.getD k 0) else px.getD k 0 := by
  simp [drawL, List.getD_eq_getElem?_getD, h]
theorem list_getD_ext {a b : List Int} (hl : a.length = b.length) (h : ∀ k, k < a.length → a.getD k 0 = b.getD k 0) : a = b := by
  refine List.ext_getElem hl (fun k h1 h2 => ?_)
  have := h k h1
  simpa [List.getD_eq_getElem?_getD, h1, h2] using this
/-- All points of a region lie on an image. -/
def OnImg (W H : Int) (R : List Rect) : Prop := ∀ x y, hasL R x y = true → 0 ≤ x ∧ x < W ∧ 0 ≤ y ∧ y < H
theorem drawF_eq {W H : Int} {n : Nat} {px : List Int} {R : List Rect} {F f : Int → Int → _} (hR : IsReg R F) (hin : OnImg W H R) (hok : ImgOk W H n px) (hm : AllMay px) (hf : ColF f) : drawF W H f px (regP R) = drawL W R f px := by
  have hl := (hok.drawF f (regP R)).len
  refine list_getD_ext (by rw [hl, drawL_length, hok.len]) (fun k hk => ?_)
  rw [hl] at hk
  rw [drawF_get hf hok hm (regP_nodup hR) (fun p hp => hin _ _ (regP_mem.1 hp)) hk, drawL_get (by rw [hok.len]; exact hk)]
  by_cases h : hasL R (((k : Nat) : Int) % W) (((k : Nat) : Int) / W) = true
  · rw [if_pos h, if_pos (regP_mem.2 h)]
  · rw [if_neg h, if_neg (fun hh => h (regP_mem.1 hh))]
def cntL (W : Int) (n : Nat) (R : List Rect) : Nat := ((List.range n).filter fun k => hasL R (((k : Nat) : Int) % W) (((k : Nat) : Int) / W)).length
theorem cntL_le (W : Int) (n : Nat) (R : List Rect) : cntL W n R ≤ n := by
  have := List.length_filter_le (fun k => hasL R (((k : Nat) : Int) % W) (((k : Nat) : Int) / W)) (List.range n)
  simpa [cntL] using this
theorem nodup_len_le {α : Type} [DecidableEq α] : ∀ {a b : List α}, a.Nodup → (∀ x ∈ a, x ∈ b) → a.length ≤ b.length := by
  intro a
  induction a with
  | nil => intro b _ _; simp
  | cons x a ih =>
    intro b hn hs
    have hx : x ∈ b := hs x (List.mem_cons_self ..)
    have h1 := ih (b := b.erase x) (List.nodup_cons.1 hn).2 (fun y hy => by
      refine (List.mem_erase_of_ne ?_).2 (hs y (List.mem_cons_of_mem _ hy))
      intro e; subst e; exact (List.nodup_cons.1 hn).1 hy)
    have h2 := List.length_erase_of_mem hx
    have h3 := List.length_pos_of_mem hx
    simp only [List.length_cons]
    omega
theorem regP_len {W H : Int} {n : Nat} {R : List Rect} {F : Int → Int → Bool} (hR : IsReg R F) (hin : OnImg W H R) (hW : 1 ≤ W) (hn : (n : Int) = W * H) : (regP R).length = cntL W n R := by
  have e : cntL W n R = (((List.range n).filter fun k => hasL R (((k : Nat) : Int) % W) (((k : Nat) : Int) / W)).map fun k : Nat => ((((k : Nat) : Int) % W, ((k : Nat) : Int) / W) : Int × Int)).length := by simp [cntL]
  rw [e]
  refine Nat.le_antisymm (nodup_len_le (regP_nodup hR) ?_) (nodup_len_le ?_ ?_)
  · intro p hp
    have hh := regP_mem.1 hp
    obtain ⟨h1, h2, h3, h4⟩ := hin _ _ hh
    have h5 : 0 ≤ p.2 * W := Int.mul_nonneg h3 (by omega)
    have h6 : (p.2 + 1) * W ≤ H * W := Int.mul_le_mul_of_nonneg_right (by omega) (by omega)
    have h7 : (p.2 + 1) * W = p.2 * W + W := by rw [Int.add_mul]; omega
    have h8 : H * W = (n : Int) := by rw [hn, Int.mul_comm]
    have hp2 := pt_eq (k := (p.2 * W + p.1).toNat) h1 h2 h3 rfl
    refine List.mem_map.2 ⟨(p.2 * W + p.1).toNat, List.mem_filter.2 ⟨List.mem_range.2 (by omega), ?_⟩, hp2.symm⟩
    rw [← show p.1 = ((((p.2 * W + p.1).toNat : Nat) : Int) % W) from congrArg Prod.fst hp2, ← show p.2 = ((((p.2 * W + p.1).toNat : Nat) : Int) / W) from congrArg Prod.snd hp2]
    exact hh
  · refine List.pairwise_map.2 (List.Pairwise.imp ?_ (List.Pairwise.filter _ (List.nodup_range (n := n))))
    intro a b hab h
    have h1 := Int.emod_add_mul_ediv (a : Int) W
    have h2 := Int.emod_add_mul_ediv (b : Int) W
    have h3 := congrArg Prod.fst h
    have h4 := congrArg Prod.snd h
    simp only at h3 h4
    rw [h3, h4] at h1
    omega
  · intro p hp
    obtain ⟨k, hk, rfl⟩ := List.mem_map.1 hp
    exact regP_mem.2 (List.mem_filter.1 hk).2
theorem reg_in {R : List Rect} {F : Int → Int → Bool} {W H : Int} (hR : IsReg R F) (hin : OnImg W H R) : ∀ r ∈ R, 0 ≤ r.x0 ∧ r.x0 < r.x1 ∧ r.x1 ≤ W ∧ 0 ≤ r.y0 ∧ r.y0 < r.y1 ∧ r.y1 ≤ H := by
  intro r hr
  obtain ⟨bs, h1, e, _⟩ := hR
  subst e
  obtain ⟨b, hb, s, hs, rfl⟩ := flatR_mem hr
  have g1 := h1.runs.lt b hb
  have g2 := (h1.each b hb).1.lt s hs
  have k1 := hin s.1 b.1 (List.any_eq_true.2 ⟨_, hr, hasB_true.2 ⟨by simp only; omega, by simp only; omega, by simp only; omega, by simp only; omega⟩⟩)
  have k2 := hin (s.2.1 - 1) (b.2.1 - 1) (List.any_eq_true.2 ⟨_, hr, hasB_true.2 ⟨by simp only; omega, by simp only; omega, by simp only; omega, by simp only; omega⟩⟩)
  simp only
  omega

theorem hasL_of_pre {R : List Rect} {pre : List (Int × Int)} {x y : Int} (h : pre ++ [(x, y)] <+: regP R) : hasL R x y = true := by
  obtain ⟨t, ht⟩ := h
  exact regP_mem (p := (x, y)).1 (by rw [← ht]; simp)
theorem pre_len {R : List Rect} {pre : List (Int × Int)} {p : Int × Int} {k : Nat} (h : pre ++ [p] <+: regP R) (hl : (regP R).length = k) : pre.length < k := by
  have := h.length_le
  rw [hl] at this
  simp at this
  omega
theorem onImg_and {W H : Int} (a : List Rect) {b : List Rect} (hb : OnImg W H b) : OnImg W H (regM andB a b) := fun x y h => hb x y (by rw [hasL_and] at h; exact (Bool.and_eq_true_iff.1 h).2)
theorem onImg_can {W H : Int} {b : List Rect} (hb : OnImg W H b) : OnImg W H (canR b) := fun x y h => hb x y (by rw [← hasL_can]; exact h)
theorem onImg_one {W H : Int} {r : Rect} (h : 0 ≤ r.x0 ∧ r.x1 ≤ W ∧ 0 ≤ r.y0 ∧ r.y1 ≤ H) : OnImg W H [r] := fun x y hh => by
  have := hasB_true.1 (show hasB r.x0 r.y0 r.x1 r.y1 x y = true by simpa [hasL] using hh)
  omega
theorem onImg_cut {W H a b c d : Int} (l : List Rect) (hW : 1 ≤ W) (hH : 1 ≤ H) : OnImg W H (regM andB l (canR [cutR a b c d 0 0 W H])) :=
  onImg_and _ (onImg_can (onImg_one (by obtain ⟨h1, h2, h3, h4, h5, h6⟩ := cut_in a b c d hW hH; exact ⟨h1, h3, h4, h6⟩)))
theorem r64_of {W H : Int} {r : Rect} (h : 0 ≤ r.x0 ∧ r.x0 < r.x1 ∧ r.x1 ≤ W ∧ 0 ≤ r.y0 ∧ r.y0 < r.y1 ∧ r.y1 ≤ H) (hW : W ≤ 256) (hH : H ≤ 256) : R64 r := ⟨by omega, by omega, by omega, by omega⟩
theorem ImgOk.drawL {W H : Int} {n : Nat} {px : List Int} (h : ImgOk W H n px) (R : List Rect) (f : Int → Int → Int) : ImgOk W H n (drawL W R f px) :=
  ⟨h.w1, h.w2, h.h1, h.h2, h.num, by rw [drawL_length, h.len], fun c hc => by
    obtain ⟨k, hk, rfl⟩ := List.mem_map.1 hc
    have hk := List.mem_range.1 hk
    split
    · exact overC_in _ _
    · rw [List.getD_eq_getElem?_getD, List.getElem?_eq_getElem hk]; exact h.rng _ (List.getElem_mem hk)⟩
/-! ### Two pointers -/
theorem run_eqPtrNe {P : Program} {t te : TypeId} {x y : Operand} {sz : Nat} {a b : Nat} {ca cb : List Value} {ta tb : TypeId} (hp : P.underlying t = some (.pointer te)) (hte : (P.info? te).map (·.size) = some sz) (hsz : sz ≠ 0) {w : World} (hne : a ≠ b)
    (ha : w.heap[a]? = some (.cells ca.toArray ta (0, 0))) (hb : w.heap[b]? = some (.cells cb.toArray tb (0, 0))) : (bopS .eql t x y (.pointer (some ⟨a, 0, none⟩)) (.pointer (some ⟨b, 0, none⟩))).run P w = .ok (.bool false) w := by
  obtain ⟨j, hj, hs⟩ := Option.map_eq_some_iff.1 hte
  have h := run_eql_ptr_other (P := P) w (a := ⟨a, 0, none⟩) (b := ⟨b, 0, none⟩) hp hj (by rw [hs]; exact hsz) (fun e => hne (congrArg Addr.block e)) ha hb
  unfold bopS
  rw [Sem.run_bind]
  have g : (eqGuard .eql t x y (.pointer (some ⟨a, 0, none⟩)) (.pointer (some ⟨b, 0, none⟩))).run P w = .ok () w := by
    simp [eqGuard]
  rw [g]
  exact h
/-- An entry of the call's own is only read from here on. -/
theorem Tab.weaken {w0 w : World} {T : List Ent} (hT : Tab w0 w T) {i : Nat} {e e0 : Ent} (hi : T[i]? = some e) (ho : e.own = true) (hv : Vw e e0) (hw : e0.wr = false) : Tab w0 w (T.set i e0) := by
  have hok := hT.ok i e hi
  refine ⟨hT.os, hT.tape, hT.output, hT.size, ?_, ?_, ?_, ?_⟩
  · intro j x hx
    rcases getElem?_set_cases _ _ _ _ _ hx with ⟨_, rfl⟩ | ⟨_, hx⟩
    · exact hv.ok w hok
    · exact hT.ok j x hx
  · intro k hk hno
    refine hT.frame k hk (fun j x hx hxw hb => ?_)
    by_cases hj : j = i
    · subst hj
      rw [hi] at hx; cases hx
      have := hT.own j e hi ho k hb; omega
    · exact hno j x (by rw [List.getElem?_set_ne (Ne.symm hj)]; exact hx) hxw hb
  · intro j x hx hxo k hk
    rcases getElem?_set_cases _ _ _ _ _ hx with ⟨_, rfl⟩ | ⟨_, hx⟩
    · rw [hv.own] at hxo; cases hxo
    · exact hT.own j x hx hxo k hk
  · intro j l x y hjl hx hy hxy k hk hk'
    rcases getElem?_set_cases _ _ _ _ _ hx with ⟨hji, rfl⟩ | ⟨hj, hx2⟩
    · rcases getElem?_set_cases _ _ _ _ _ hy with ⟨hli, rfl⟩ | ⟨hl, hy⟩
      · omega
      · rw [hw] at hxy
        exact hT.disj i l e y (Ne.symm hl) hi hy (.inr (hxy.resolve_left (by simp))) k (hv.blk w hok k hk) hk'
    · rcases getElem?_set_cases _ _ _ _ _ hy with ⟨hli, rfl⟩ | ⟨hl, hy⟩
      · rw [hw] at hxy
        exact hT.disj j i x e hj hx2 hi (.inl (hxy.resolve_right (by simp))) k hk (hv.blk w hok k hk')
      · exact hT.disj j l x y hjl hx2 hy hxy k hk hk'
theorem cont_weaken {dfs : List Deferred} {K : Act → World → Prop} {n : Nat} {w0 : World} {L : List (Nat × Value)} {T : List Ent} (i : Nat) (e0 : Ent) {e : Ent} (hi : T[i]? = some e) (ho : e.own = true) (hv : Vw e e0) (hw : e0.wr = false) (h : Cont dfs K n w0 L (T.set i e0)) : Cont dfs K n w0 L T :=
  fun a w ha hf hT => h a w ha hf (hT.weaken hi ho hv hw)
end Go.Proofs.YtgpcgfjfmjehgaaGreat

